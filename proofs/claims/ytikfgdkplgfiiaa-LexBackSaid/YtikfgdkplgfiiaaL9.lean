/- The law LexBack of lex is true: its walk. No condition. -/
import Derived.Test.YtikfgdkplgfiiaaPn
set_option linter.unusedVariables false
set_option linter.unusedSimpArgs false
namespace Go.Proofs.Ytikfgdkplgfiiaa.G
open Go.RowKit Go.Proofs.Ytikfgdkplgfiiaa.B Go.Proofs.YtikfgdkplgfiiaaW.PrintWords Go.Proofs.YtikfgdkplgfiiaaW.PrintLast Go.Proofs.YtikfgdkplgfiiaaW.PrintMore

set_option maxRecDepth 100000 in
set_option maxHeartbeats 8000000 in
theorem LexBack_walk (s : ByteArray) (w : World) (hs : s.size ≤ 140737488351232) (hg : Glob w) :
    Calls Try.prog 9 #[.string s] w fun e w' => e = .returned (.bool true) ∧ Below w.heap.size w w' := by
  have HG := Aside0.mk hg
  have HL9 := Aside0.mk (lexS_len s.toList)
  obtain ⟨E, hE⟩ : ∃ E, (lexS s.toList).2.2 = E := ⟨_, rfl⟩
  have HE := Aside0.mk hE
  clear hg hs hE
  go_enter Try.func9, Try.ntmps9
  go_upto_region 3 with (first | (go_at_call 11; with_reducible refine (shown_calls _ HG.out).mono ?_; rintro e w1 ⟨rfl, hk⟩; have HB := Aside0.mk hk; clear hk) | (go_at_call 12; with_reducible refine (toks_const (b := s) _ (HG.out.below HB.out) rfl).mono ?_; rintro e w2 ⟨A1, c1, rfl, hR, hk⟩; rw [HE.out]; have HR := Aside0.mk hR; replace HB := Aside0.mk (below_step HB.out hk); clear hR hk))
  by_cases hE0 : E = 0
  · have hbp := back_plain s.toList (HE.out.trans hE0)
    obtain ⟨P, hP⟩ : ∃ P, (lexS s.toList).2.1 = P := ⟨_, rfl⟩
    rw [hP]
    obtain ⟨J, hJ⟩ : ∃ J, joinS ((textsS (lexS s.toList).1).map (·.toList)) = J := ⟨_, rfl⟩
    have HJ := Aside0.mk hJ
    rw [hJ] at hbp
    clear hJ hP
    generalize (lexS s.toList).1 = L at HR HL9 HJ hbp ⊢
    have HLJ := Aside0.mk hbp
    have hL9 : L.length ≤ 1000000000 := Nat.le_trans HL9.out (by decide)
    have HHL := Aside0.mk hL9
    have HTX : ∀ W, RdT W (.slice A1 L.length c1) L → Calls Try.prog 17 #[.slice A1 L.length c1] W fun e w' => e = .returned (.string (toB J)) ∧ Below W.heap.size W w' := fun W h => by
      have := text_calls W h hL9 (by rw [HJ.out]; exact HLJ.out.1)
      rw [HJ.out] at this
      exact this
    have HT := Aside0.mk HTX
    subst hE0
    clear hbp HTX hL9 HJ
    go_upto_region 6 with (go_at_call 17; with_reducible refine (HT.out _ HR.out.rd).mono ?_; rintro e w3 ⟨rfl, hk⟩; replace HB := Aside0.mk (below_step HB.out hk); replace HR := Aside0.mk (HR.out.below hk); clear hk)
    obtain ⟨tx, htx⟩ : ∃ tx, toB J = tx := ⟨_, rfl⟩
    have hsz : tx.size = J.length := by rw [← htx]; rfl
    have HTB : Aside0 (tx.toList = J) := Aside0.mk (by rw [← htx, toB_list])
    rw [htx]
    have HSZ := Aside0.mk hsz
    clear htx hsz
    by_cases hbig : 20000 < tx.size
    · have HLX := Aside0.mk (HLJ.out.2.1 (by rw [← HSZ.out]; exact hbig))
      have hbi : (20000 : Int) < (tx.size : Int) := by omega
      go_wp2_with (go_at_call 12; with_reducible refine (toks_const (b := tx) _ (HG.out.below HB.out) HTB.out).mono ?_; rintro e w4 ⟨A2, c2, rfl, hR2, hk⟩; rw [HLX.out]; replace HB := Aside0.mk (below_step HB.out hk); clear hR2 hk)
      go_ret
      exact ⟨rfl, HB.out⟩
    · have h3 := HLJ.out.2.2 (by rw [← HSZ.out]; exact hbig)
      obtain ⟨M, hM⟩ : ∃ M, (lexS J).1 = M := ⟨_, rfl⟩
      have hlm : lexS J = (M, 0, 0) := by rw [← hM, ← h3.1]
      rw [hlm] at h3
      have HLX := Aside0.mk hlm
      have HA := Aside0.mk h3.2
      have hbi : ¬ (20000 : Int) < (tx.size : Int) := by omega
      clear h3 hM hlm
      go_wp2_with (first | (go_at_call 12; with_reducible refine (toks_const (b := tx) _ (HG.out.below HB.out) HTB.out).mono ?_; rintro e w4 ⟨A2, c2, rfl, hR2, hk⟩; rw [HLX.out] at hR2 ⊢; have HR2 := Aside0.mk hR2; replace HB := Aside0.mk (below_step HB.out hk); replace HR := Aside0.mk (HR.out.below hk); clear hR2 hk) | (go_at_call 14; with_reducible refine (same_rd HR.out.rd HR2.out.rd HA.out.1.symm (Nat.le_trans HL9.out (by decide)) HA.out.2).mono ?_; rintro e w5 ⟨rfl, hk⟩; replace HB := Aside0.mk (below_step HB.out hk); clear hk))
      go_ret
      exact ⟨rfl, HB.out⟩
  · have HNL := Aside0.mk (lexS_none (s := s.toList) (by rw [HE.out]; exact hE0))
    have hE1 : (E == 0) = false := beq_eq_false_iff_ne.mpr hE0
    have hE2 : (E != 0) = true := by rw [bne, hE1]; rfl
    rw [HNL.out]
    clear HR
    go_wp2_with fail
    go_ret
    exact ⟨rfl, HB.out⟩
end Go.Proofs.Ytikfgdkplgfiiaa.G
