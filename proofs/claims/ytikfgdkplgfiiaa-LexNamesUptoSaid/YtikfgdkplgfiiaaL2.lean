/- The law LexJoins of lex is true: its walk. No condition. -/
import Derived.Test.YtikfgdkplgfiiaaL1
import Derived.Test.YtikfgdkplgfiiaaPj
set_option linter.unusedVariables false
set_option linter.unusedSimpArgs false
namespace Go.Proofs.Ytikfgdkplgfiiaa.G
open Go.RowKit Go.Proofs.Ytikfgdkplgfiiaa.B Go.Proofs.YtikfgdkplgfiiaaW.PrintWords Go.Proofs.YtikfgdkplgfiiaaW.PrintLast Go.Proofs.YtikfgdkplgfiiaaW.PrintMore

theorem tl_append (a b : ByteArray) : (a ++ b).toList = a.toList ++ b.toList := by
  rw [bytes_toList, bytes_toList, bytes_toList, ByteArray.data_append, Array.toList_append]
theorem RowT.empty (W : World) (b : Nat) (hb : b ≤ W.heap.size) : RowT (W.alloc (.cells #[] 32)) b (.slice (some ⟨W.heap.size, 0, none⟩) 0 0) [] :=
  ⟨fun _ _ => trivial, [], World.ownsRow_lit W #[] 0 hb (by decide) rfl, Reps.none _ _⟩
theorem k32_KM (W : World) (base : Nat) (ok : Nat → Prop) (x : S32) (cs : List Value) (h : k32.K W x cs) : k32.M W base ok x cs := by
  obtain rfl := k32_open h
  exact k32_mkM _ _ _ _
theorem RdT.C {W : World} {A : Option Addr} {n c : Nat} {l : List S32} (h : RdT W (.slice A n c) l) : n = l.length ∧ l.length ≤ c ∧ Kd.C k32 W A l.length l := by
  obtain ⟨A', c', he, h1, h2⟩ := h
  injection he with h3 h4 h5
  subst h3 h4 h5
  exact ⟨rfl, h1, h2⟩
set_option maxRecDepth 100000 in
set_option maxHeartbeats 8000000 in
theorem LexJoins_walk (s t : ByteArray) (w : World) (hs : s.size ≤ 140737488351232) (ht : t.size ≤ 140737488351232) (hg : Glob w) :
    Calls Try.prog 5 #[.string s, .string t] w fun e w' => e = .returned (.bool true) ∧ Below w.heap.size w w' := by
  have HG := Aside0.mk hg
  obtain ⟨E, hE⟩ : ∃ E, (lexS s.toList).2.2 = E := ⟨_, rfl⟩
  obtain ⟨F, hF⟩ : ∃ F, (lexS t.toList).2.2 = F := ⟨_, rfl⟩
  have HE := Aside0.mk hE
  have HF := Aside0.mk hF
  clear hg hE hF
  go_enter Try.func5, Try.ntmps5
  go_upto_region 4 with (first | (go_at_call 11; with_reducible refine (shown_calls _ HG.out).mono ?_; rintro e w1 ⟨rfl, hk⟩; have HB := Aside0.mk hk; clear hk) | (go_at_call 12; with_reducible refine (toks_const (b := s) _ (HG.out.below HB.out) rfl).mono ?_; rintro e w2 ⟨A1, c1, rfl, hR, hk⟩; rw [HE.out]; have HR := Aside0.mk hR.rd; replace HB := Aside0.mk (below_step HB.out hk); clear hR hk) | (go_at_call 12; with_reducible refine (toks_const (b := t) _ (HG.out.below HB.out) rfl).mono ?_; rintro e w3 ⟨A2, c2, rfl, hR, hk⟩; rw [HF.out]; replace HR := Aside0.mk (HR.out.below hk); have HR2 := Aside0.mk hR.rd; replace HB := Aside0.mk (below_step HB.out hk); clear hR hk))
  by_cases hE0 : E = 0
  · by_cases hF0 : F = 0
    · by_cases hlen : s.size + t.size < 20000
      · have hli : (s.size : Int) + (t.size : Int) < 20000 := by omega
        have hE1 : (E == 0) = true := beq_iff_eq.mpr hE0
        have hF1 : (F == 0) = true := beq_iff_eq.mpr hF0
        have hE2 : (E != 0) = false := by rw [bne, hE1]; rfl
        have hF2 : (F != 0) = false := by rw [bne, hF1]; rfl
        obtain ⟨j1, j2, j3⟩ := joins_plain (l := s.toList) (m := t.toList) (HE.out.trans hE0) (HF.out.trans hF0) (by rw [tl_len, tl_len]; exact hlen)
        obtain ⟨L, hL⟩ : ∃ L, (lexS s.toList).1 ++ (lexS t.toList).1 = L := ⟨_, rfl⟩
        rw [hL] at j2 j3
        have HLM := Aside0.mk hL
        have HJ := Aside0.mk (And.intro j1 (And.intro j2 j3))
        have hst : (s ++ (⟨#[10]⟩ : ByteArray) ++ t).toList = s.toList ++ 10 :: t.toList := by
          rw [tl_append, tl_append, bytes_toList ⟨#[10]⟩, List.append_assoc]
          rfl
        have HST := Aside0.mk hst
        have HL9 := Aside0.mk (And.intro (lexS_len s.toList) (lexS_len t.toList))
        clear hE0 hF0 hlen j1 j2 j3 hst hL
        go_upto_region 7 with (go_at_call 12; with_reducible refine (toks_const _ (HG.out.below HB.out) HST.out).mono ?_; rintro e w4 ⟨A3, c3, rfl, hR, hk⟩; rw [HJ.out.1]; replace HR := Aside0.mk (HR.out.below hk); replace HR2 := Aside0.mk (HR2.out.below hk); have HR3 := Aside0.mk hR.rd; replace HB := Aside0.mk (below_step HB.out hk); clear hR hk)
        have HN3 := Aside0.mk (lexS_len (s.toList ++ 10 :: t.toList))
        go_wp2_with (first | (at_builtin; refine Kd.R_append_rows k32 (w0 := w4) w4.heap.size rfl _ _ 23 32 (.agg #[.int .i64 0, .int .i64 0, .string ⟨#[]⟩, .int .i64 0]) 40 rfl Try.underlying23 info32 rfl (by decide) (by decide) (.slice (some ⟨w4.heap.size, 0, none⟩) 0 0) [] (lexS s.toList).1 A1 (lexS s.toList).1.length c1 (fun _ => True) (fun _ => False) rfl rfl (RowT.empty w4 _ (Nat.le_refl _)) (RdT.C (HR.out.below (below_alloc (Below.refl _ _) _))).2.2 (k32_KM _ _ _) (fun _ h => h.elim) (fun _ _ => trivial) (below_alloc (Below.refl _ _) _) (below_alloc (Below.refl w4.heap.size w4) _).size (by have := HL9.out.1; simp only [List.length_nil]; omega) ?_; intro v1 wa hRa hBa hga _; rw [List.nil_append] at hRa; obtain ⟨A4, c4, rfl⟩ := Kd.R_slice hRa; have HRa := Aside0.mk hRa; have HBa := Aside0.mk hBa; clear hRa hBa hga) | (at_builtin; refine Kd.R_append_rows k32 (w0 := w4) w4.heap.size rfl _ _ 23 32 (.agg #[.int .i64 0, .int .i64 0, .string ⟨#[]⟩, .int .i64 0]) 40 rfl Try.underlying23 info32 rfl (by decide) (by decide) (.slice A4 (lexS s.toList).1.length c4) (lexS s.toList).1 (lexS t.toList).1 A2 (lexS t.toList).1.length c2 (fun _ => True) (fun _ => False) rfl rfl HRa.out (RdT.C (HR2.out.below HBa.out)).2.2 (k32_KM _ _ _) (fun _ h => h.elim) (fun _ _ => trivial) HBa.out HBa.out.size (by have := HL9.out; omega) ?_; intro v2 wb hRb hBb hgb _; rw [HLM.out] at hRb; obtain ⟨A5, c5, rfl⟩ := Kd.R_slice hRb; have HRb := Aside0.mk (RowT.rd hRb); replace HR3 := Aside0.mk (HR3.out.below hBb); replace HB := Aside0.mk (below_step HB.out hBb); clear hRb hBb hgb) | (go_at_call 14; with_reducible refine (same_rd HR3.out HRb.out HJ.out.2.1 (Nat.le_trans HN3.out (by decide)) HJ.out.2.2).mono ?_; rintro e w5 ⟨rfl, hk⟩; replace HB := Aside0.mk (below_step HB.out hk); clear hk))
        go_ret
        exact ⟨rfl, HB.out⟩
      · have hli : 20000 ≤ (s.size : Int) + (t.size : Int) := by omega
        have hE1 : (E == 0) = true := beq_iff_eq.mpr hE0
        have hF1 : (F == 0) = true := beq_iff_eq.mpr hF0
        have hE2 : (E != 0) = false := by rw [bne, hE1]; rfl
        have hF2 : (F != 0) = false := by rw [bne, hF1]; rfl
        clear hE0 hF0 hlen
        go_wp2_with fail
        go_ret
        exact ⟨rfl, HB.out⟩
    · have hE1 : (E == 0) = true := beq_iff_eq.mpr hE0
      have hF1 : (F == 0) = false := beq_eq_false_iff_ne.mpr hF0
      have hE2 : (E != 0) = false := by rw [bne, hE1]; rfl
      have hF2 : (F != 0) = true := by rw [bne, hF1]; rfl
      clear hE0 hF0
      go_wp2_with fail
      go_ret
      exact ⟨rfl, HB.out⟩
  · have hE1 : (E == 0) = false := beq_eq_false_iff_ne.mpr hE0
    have hE2 : (E != 0) = true := by rw [bne, hE1]; rfl
    clear hE0
    go_wp2_with fail
    go_ret
    exact ⟨rfl, HB.out⟩
end Go.Proofs.Ytikfgdkplgfiiaa.G
