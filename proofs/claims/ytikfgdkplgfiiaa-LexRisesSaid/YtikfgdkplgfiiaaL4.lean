/- The law LexRises of lex is true: its walk. No condition. -/
import Derived.Test.YtikfgdkplgfiiaaL3
import Derived.Test.YtikfgdkplgfiiaaPl
set_option linter.unusedVariables false
set_option linter.unusedSimpArgs false
namespace Go.Proofs.Ytikfgdkplgfiiaa.G
open Go.RowKit Go.Proofs.Ytikfgdkplgfiiaa.B Go.Proofs.YtikfgdkplgfiiaaW.PrintWords Go.Proofs.YtikfgdkplgfiiaaW.PrintLast Go.Proofs.YtikfgdkplgfiiaaW.PrintMore

set_option maxRecDepth 100000 in
set_option maxHeartbeats 8000000 in
theorem LexRises_walk (s : ByteArray) (w : World) (hs : s.size ≤ 140737488351232) (hg : Glob w) :
    Calls Try.prog 4 #[.string s] w fun e w' => e = .returned (.bool true) ∧ Below w.heap.size w w' := by
  have HG := Aside0.mk hg
  obtain ⟨E, hE⟩ : ∃ E, (lexS s.toList).2.2 = E := ⟨_, rfl⟩
  obtain ⟨P, hP⟩ : ∃ P, (lexS s.toList).2.1 = P := ⟨_, rfl⟩
  have HE := Aside0.mk hE
  have HP := Aside0.mk hP
  have hp := lexS_at s.toList
  rw [hP, tl_len] at hp
  obtain ⟨hp0, hp1⟩ := hp
  clear hg hE hP
  go_enter Try.func4, Try.ntmps4
  go_upto_region 3 with (first | (go_at_call 11; with_reducible refine (shown_calls _ HG.out).mono ?_; rintro e w1 ⟨rfl, hk⟩; have HB := Aside0.mk hk; clear hk) | (go_at_call 12; with_reducible refine (toks_const (b := s) _ (HG.out.below HB.out) rfl).mono ?_; rintro e w2 ⟨A1, c1, rfl, hR, hk⟩; rw [HE.out, HP.out]; have HR := Aside0.mk hR; replace HB := Aside0.mk (below_step HB.out hk); clear hR hk))
  by_cases hE0 : E = 0
  · obtain ⟨a1, a2⟩ := lexS_zero (HE.out.trans hE0)
    rw [tl_len] at a1
    have hok := lexS_ok (l := s.toList) (by rw [tl_len]; exact a1) a2
    rw [tl_len] at hok
    have h20 : s.size ≤ 20000 := by omega
    have HT : Aside0 (toks s.toList = ((toks s.toList).1, none)) := Aside0.mk (by rw [← a2])
    rw [hok] at HR ⊢
    simp only [] at HR ⊢
    have hlm : ((toks s.toList).1.map (atS32 s.size)).length = (toks s.toList).1.length := List.length_map _
    rw [hlm] at HR ⊢
    have hT9 : (toks s.toList).1.length ≤ 20000 := by have := toks_len s.toList; rw [tl_len] at this; omega
    have HRL : Aside0 (∀ (last i : Nat), i < (toks s.toList).1.length → toks (s.toList.drop last) = ((toks s.toList).1.drop i, none) → ∃ z, (toks s.toList).1[i]? = some z ∧ toks (s.toList.drop last) = (z :: (toks s.toList).1.drop (i + 1), none)) := Aside0.mk (fun last i => rises_len)
    generalize (toks s.toList).1 = T at HR HT HRL hT9 ⊢
    have H20 := Aside0.mk h20
    subst hE0
    clear a1 a2 hok hlm hs
    go_upto_block 0 with (fail)
    go_wp2_with fail
    go_loopw [8, 7] (fun iv lv wx => ∃ (i last : Nat), i ≤ T.length ∧ last ≤ s.size ∧ iv = .int .i64 (i : Int) ∧ lv = .int .i64 (last : Int) ∧ Hid (toks (s.toList.drop last) = (T.drop i, none)) ∧ Hid (RowT wx w1.heap.size (.slice A1 T.length c1) (T.map (atS32 s.size))) ∧ Hid (Below w.heap.size w wx)) (fun iv _ _ => T.length - (intOf iv).toNat)
    case atStart => exact ⟨0, 0, Nat.zero_le _, Nat.zero_le _, rfl, rfl, HT.out, HR.out, HB.out⟩
    case round =>
      clear HR HB
      obtain ⟨i, last, hi, hla, rfl, rfl, ht, hR, hB⟩ := hrel
      have HT2 := Aside0.mk (show toks (s.toList.drop last) = (T.drop i, none) from ht)
      have HR := Aside0.mk (show RowT wr w1.heap.size (.slice A1 T.length c1) (T.map (atS32 s.size)) from hR)
      have HB : Aside0 (Below w.heap.size w wr) := Aside0.mk hB
      clear ht hR hB
      by_cases hlt : (i : Int) < (T.length : Int)
      · have hi1 : i < T.length := by omega
        obtain ⟨z, hz, hz2⟩ := HRL.out last i hi1 HT2.out
        obtain ⟨r1, r2, r3, r4, r5, r6⟩ := rises_step hla H20.out hz2
        obtain ⟨g1, c1', hf1⟩ := HR.out.form (by rw [List.length_map]; omega)
        injection hf1 with hA1 hn1 hc1
        subst hA1 hc1
        have hx : (T.map (atS32 s.size))[i]? = some (atS32 s.size z) := by rw [List.getElem?_map, hz]; rfl
        obtain ⟨_, x1, x2, _⟩ := HR.out.cells i _ hx
        obtain ⟨a, ha⟩ : ∃ a, s.size - z.left = a := ⟨_, rfl⟩
        have x1' : wr.cell? ⟨g1, i * 4 + 1, none⟩ = some (.int .i64 (a : Int)) := by rw [x1]; show some (Value.int .i64 ((s.size - z.left : Nat) : Int)) = _; rw [ha]
        have x2' : wr.cell? ⟨g1, i * 4 + 2, none⟩ = some (.string (toB z.tk.text)) := x2
        rw [ha] at r1 r2 r4 r5 r6
        obtain ⟨n, hn⟩ : ∃ n, z.tk.text.length = n := ⟨_, rfl⟩
        rw [hn] at r2 r4 r5
        have hsz : (toB z.tk.text).size = n := hn
        have hne : (toB z.tk.text).toList.isEmpty = false := by rw [toB_list]; cases hzt : z.tk.text with | nil => exact absurd hzt r3 | cons _ _ => rfl
        have hne2 : ((toB z.tk.text).toList == []) = false := by rw [toB_list]; cases hzt : z.tk.text with | nil => exact absurd hzt r3 | cons _ _ => rfl
        have hne3 : ¬ ((toB z.tk.text).toList = []) := by rw [toB_list]; exact r3
        generalize toB z.tk.text = tx at x2' r4 hsz hne hne2 hne3
        have hai : (a : Int) + (n : Int) ≤ (s.size : Int) := by omega
        have hla2 : (last : Int) ≤ (a : Int) := by omega
        have has : (a : Int) ≤ (s.size : Int) := by omega
        have hs9 : (s.size : Int) ≤ 20000 := by have := H20.out; omega
        have hd1 : decide ((a : Int) < (last : Int)) = false := decide_eq_false (by omega)
        have hd2 : decide ((s.size : Int) < (a : Int) + (n : Int)) = false := decide_eq_false (by omega)
        have hq1 := eq_true hai
        have hq2 := eq_true hla2
        have hq3 := eq_true has
        have hq4 := eq_true (show (a : Int) ≤ (a : Int) + (n : Int) by omega)
        have hwn : IntKind.i64.wrap ((a : Int) + (n : Int)) = (a : Int) + (n : Int) := by rw [IntKind.wrap_i64]; omega
        have HN := Aside0.mk (And.intro r5 r6)
        clear r1 r2 r3 r5 r6 ha hn x1 x2 hz hz2 hx hn1
        have hd1n : decide (a < last) = false := decide_eq_false (by omega)
        have hd2n : decide (s.size < a + n) = false := decide_eq_false (by omega)
        have hcm : ((s.extract a ((a : Int) + (n : Int)).toNat).toList == tx.toList) = true := by rw [show ((a : Int) + (n : Int)).toNat = a + n by omega, r4]; exact beq_self_eq_true _
        go_upto_region 9 with (fail)
        go_still (by kernel_rfl)
        change Exit.then _ _ _ _ wr.drew
        replace HR := Aside0.mk (HR.out.below (below_drew (Below.refl wr.heap.size wr)))
        replace HB := Aside0.mk (below_drew HB.out)
        replace x1' : wr.drew.cell? _ = _ := x1'
        replace x2' : wr.drew.cell? _ = _ := x2'
        generalize wr.drew = wd at HR HB x1' x2' ⊢
        go_upto_region 10 with (fail)
        go_still (by kernel_rfl)
        change Exit.then _ _ _ _ wd.drew
        replace HR := Aside0.mk (HR.out.below (below_drew (Below.refl wd.heap.size wd)))
        replace HB := Aside0.mk (below_drew HB.out)
        replace x1' : wd.drew.cell? _ = _ := x1'
        replace x2' : wd.drew.cell? _ = _ := x2'
        generalize wd.drew = we at HR HB x1' x2' ⊢
        go_wp2_with (go_at_call 12; with_reducible refine (toks_const (b := s.extract last a) _ (HG.out.below HB.out) rfl).mono ?_; rintro e w3 ⟨A2, c2, rfl, hR, hk⟩; rw [HN.out.2]; replace HR := Aside0.mk (HR.out.below hk); replace HB := Aside0.mk (below_step HB.out hk); clear hR hk)
        go_roundw
        case rel =>
          refine ⟨i + 1, a + n, by omega, by omega, by go_num, by go_num, HN.out.1, HR.out, HB.out⟩
        case measure => simp [intOf]; omega
      · have hie : (i : Int) = (T.length : Int) := by omega
        go_wp2_with fail
        go_ret
        exact ⟨rfl, HB.out⟩
  · have hE1 : (E == 0) = false := beq_eq_false_iff_ne.mpr hE0
    have hE2 : (E != 0) = true := by rw [bne, hE1]; rfl
    have hq0 := eq_true hp0
    have hq1 := eq_true hp1
    go_wp2_with fail
    go_ret
    exact ⟨rfl, HB.out⟩
end Go.Proofs.Ytikfgdkplgfiiaa.G
