/- The law CtypeVoids returns true. The arguments read as types. -/
import Derived.Test.YtmmgdifjiapbmaaHl
import Derived.Test.YtmmgdifjiapbmaaHm
import Derived.Test.YtmmgdifjiapbmaaL1
set_option linter.unusedVariables false
set_option linter.unusedSimpArgs false
namespace Go.Proofs.Ytmmgdifjiapbmaa.G
open Go.RowKit Go.Proofs.Ytmmgdifjiapbmaa.B Go.Proofs.YtmmgdifjiapbmaaW.PrintWords Go.Proofs.YtmmgdifjiapbmaaW.PrintLast Go.Proofs.YtmmgdifjiapbmaaW.PrintMore
theorem fitsPP (x y : S24) (r : Bool) (hr : fitsT (mkP x) (mkP y) false = r) (A : Option Addr) (c : Nat) (B : Option Addr) (d : Nat) (w : World) (hA : Kd.C k24 w A 1 [x]) (hc : 1 ≤ c) (hB : Kd.C k24 w B 1 [y]) (hd : 1 ≤ d) :
    Calls Try.prog 13 #[.agg #[Value.int .i64 5, Value.int .i64 0, Value.string ⟨#[]⟩, Value.slice A 1 c], .agg #[Value.int .i64 5, Value.int .i64 0, Value.string ⟨#[]⟩, Value.slice B 1 d], .bool false] w fun e w' => e = .returned (.bool r) ∧ Below w.heap.size w w' := by
  have h := fits_calls (mkP x) (mkP y) false A c B d w hA hc hB hd
  rw [hr] at h
  exact h
theorem fitsPI (x : S24) (k : Int) (r : Bool) (hr : fitsT (mkP x) (iT k) false = r) (A : Option Addr) (c : Nat) (w : World) (hA : Kd.C k24 w A 1 [x]) (hc : 1 ≤ c) :
    Calls Try.prog 13 #[.agg #[Value.int .i64 5, Value.int .i64 0, Value.string ⟨#[]⟩, Value.slice A 1 c], .agg #[.int .i64 k, .int .i64 0, .string ⟨#[]⟩, .slice none 0 0], .bool false] w fun e w' => e = .returned (.bool r) ∧ Below w.heap.size w w' := by
  have h := fits_calls (mkP x) (iT k) false A c none 0 w hA hc (Kd.C_nil k24 w) (Nat.le_refl _)
  rw [hr] at h
  exact h
theorem fitsYP (y x : S24) (z r : Bool) (hr : fitsT y (mkP x) z = r) (B : Option Addr) (d : Nat) (A : Option Addr) (c : Nat) (w : World) (hB : Kd.C k24 w B y.f3.length y.f3) (hd : y.f3.length ≤ d) (hA : Kd.C k24 w A 1 [x]) (hc : 1 ≤ c) :
    Calls Try.prog 13 #[.agg #[.int .i64 y.f0, .int .i64 y.f1, .string y.f2, .slice B y.f3.length d], .agg #[Value.int .i64 5, Value.int .i64 0, Value.string ⟨#[]⟩, Value.slice A 1 c], .bool z] w fun e w' => e = .returned (.bool r) ∧ Below w.heap.size w w' := by
  have h := fits_calls y (mkP x) z B d A c w hB hd hA hc
  rw [hr] at h
  exact h
theorem fitsPY (x y : S24) (z r : Bool) (hr : fitsT (mkP x) y z = r) (A : Option Addr) (c : Nat) (B : Option Addr) (d : Nat) (w : World) (hA : Kd.C k24 w A 1 [x]) (hc : 1 ≤ c) (hB : Kd.C k24 w B y.f3.length y.f3) (hd : y.f3.length ≤ d) :
    Calls Try.prog 13 #[.agg #[Value.int .i64 5, Value.int .i64 0, Value.string ⟨#[]⟩, Value.slice A 1 c], .agg #[.int .i64 y.f0, .int .i64 y.f1, .string y.f2, .slice B y.f3.length d], .bool z] w fun e w' => e = .returned (.bool r) ∧ Below w.heap.size w w' := by
  have h := fits_calls (mkP x) y z A c B d w hA hc hB hd
  rw [hr] at h
  exact h
theorem voids1 (x : S24) : fitsT (mkP x) (mkP (iT 1)) false = true := by simp [fitsT, mkP, iT, isNum, voidT, rd_T24]
theorem voids2 (x : S24) : fitsT (mkP (iT 1)) (mkP x) false = true := by simp [fitsT, mkP, iT, isNum, voidT, rd_T24]
theorem voids3 : fitsT (mkP (iT 3)) (iT 4) false = false := by simp [fitsT, mkP, iT, isNum]
theorem voids4 (y x : S24) (z : Bool) (h : isNum y.f0 = true) : fitsT y (mkP x) z = false := by unfold fitsT; rw [if_pos h]; rfl
theorem voids5 (x y : S24) (h : isNum y.f0 = true) : fitsT (mkP x) y false = false := by
  have : y.f0 ≠ 5 := by simp [isNum] at h; omega
  simp [fitsT, mkP, isNum, this]
set_option maxRecDepth 100000 in
set_option maxHeartbeats 8000000 in
theorem CtypeVoids_calls (x : S24) (y : S24) (A : Option Addr) (c : Nat) (B : Option Addr) (d : Nat)  (w : World) (hCx : Kd.C k24 w A x.f3.length x.f3) (hlx : x.f3.length ≤ c) (hCy : Kd.C k24 w B y.f3.length y.f3) (hly : y.f3.length ≤ d)  :
    Calls Try.prog 4 #[.agg #[.int .i64 x.f0, .int .i64 x.f1, .string x.f2, .slice A x.f3.length c], .agg #[.int .i64 y.f0, .int .i64 y.f1, .string y.f2, .slice B y.f3.length d]] w fun e w' => e = .returned (.bool true) ∧ Below w.heap.size w w' := by
  have HCx := Aside0.mk hCx
  have HLx := Aside0.mk hlx
  have HCy := Aside0.mk hCy
  have HLy := Aside0.mk hly
  clear hCx hlx hCy hly
  go_enter Try.func4, Try.ntmps4
  go_wp2_with fail
  have Gx := Aside0.mk (blk_alloc (blk_at_ (W := w) (n := w.heap.size) (Obj.cells #[.int .i64 x.f0, .int .i64 x.f1, .string x.f2, .slice A x.f3.length c] 24) (by simp)) (Obj.cells #[.int .i64 y.f0, .int .i64 y.f1, .string y.f2, .slice B y.f3.length d] 24))
  have Gy := Aside0.mk (blk_at_ (W := (w.alloc (Obj.cells #[.int .i64 x.f0, .int .i64 x.f1, .string x.f2, .slice A x.f3.length c] 24))) (n := w.heap.size + 1) (Obj.cells #[.int .i64 y.f0, .int .i64 y.f1, .string y.f2, .slice B y.f3.length d] 24) (by simp))
  have GB := Aside0.mk (show Below w.heap.size w ((w.alloc (Obj.cells #[.int .i64 x.f0, .int .i64 x.f1, .string x.f2, .slice A x.f3.length c] 24)).alloc (Obj.cells #[.int .i64 y.f0, .int .i64 y.f1, .string y.f2, .slice B y.f3.length d] 24)) from (((Below.refl _ _).alloc (by simp) _).alloc (by simp) _))
  generalize ((w.alloc (Obj.cells #[.int .i64 x.f0, .int .i64 x.f1, .string x.f2, .slice A x.f3.length c] 24)).alloc (Obj.cells #[.int .i64 y.f0, .int .i64 y.f1, .string y.f2, .slice B y.f3.length d] 24)) = W at Gx Gy GB ⊢
  refine (shown_calls W).mono ?_
  rintro e w1 ⟨rfl, hb1⟩
  have hSx := cell4 (blk_below Gx.out hb1)
  have hSy := cell4 (blk_below Gy.out hb1)
  have hSB := below_step GB.out hb1
  have G1x := Aside0.mk (blk_below Gx.out hb1)
  have G1y := Aside0.mk (blk_below Gy.out hb1)
  clear Gx Gy GB hb1
  go_wp2_with fail
  have hBP : Below w1.heap.size w1 ((w1.alloc (Obj.cells #[.int .i64 x.f0, .int .i64 x.f1, .string x.f2, .slice A x.f3.length c] 24)).alloc (Obj.cells #[Value.int .i64 5, Value.int .i64 0, Value.string ⟨#[]⟩, Value.slice (some ⟨w1.heap.size, 0, none⟩) 1 1] 24)) := below_alloc (below_alloc (Below.refl _ _) _) _
  have G2y := Aside0.mk (blk_below G1y.out hBP)
  have G2t := Aside0.mk (blk_at_ (W := (w1.alloc (Obj.cells #[.int .i64 x.f0, .int .i64 x.f1, .string x.f2, .slice A x.f3.length c] 24))) (n := w1.heap.size + 1) (Obj.cells #[Value.int .i64 5, Value.int .i64 0, Value.string ⟨#[]⟩, Value.slice (some ⟨w1.heap.size, 0, none⟩) 1 1] 24) (by simp))
  have HCt := Aside0.mk (C_one (blk_alloc (blk_new w1 (Obj.cells #[.int .i64 x.f0, .int .i64 x.f1, .string x.f2, .slice A x.f3.length c] 24)) (Obj.cells #[Value.int .i64 5, Value.int .i64 0, Value.string ⟨#[]⟩, Value.slice (some ⟨w1.heap.size, 0, none⟩) 1 1] 24)) HLx.out (Kd.C_below HCx.out (below_step hSB hBP)))
  have G2B := Aside0.mk (below_step hSB hBP)
  clear hSx hSy hSB G1x G1y hBP
  generalize ((w1.alloc (Obj.cells #[.int .i64 x.f0, .int .i64 x.f1, .string x.f2, .slice A x.f3.length c] 24)).alloc (Obj.cells #[Value.int .i64 5, Value.int .i64 0, Value.string ⟨#[]⟩, Value.slice (some ⟨w1.heap.size, 0, none⟩) 1 1] 24)) = W2 at G2y G2t HCt G2B ⊢
  generalize w1.heap.size = g at G2t HCt ⊢
  refine (to_calls 1 W2).mono ?_
  rintro e w3 ⟨A2, c2, rfl, hc2, hF2, hb2⟩
  have hBP : Below W2.heap.size W2 (w3.alloc (Obj.cells #[Value.int .i64 5, Value.int .i64 0, Value.string ⟨#[]⟩, Value.slice A2 1 c2] 24)) := below_alloc hb2 _
  have G4y := Aside0.mk (blk_below G2y.out hBP)
  have G4t := Aside0.mk (blk_below G2t.out hBP)
  have G4v := Aside0.mk (blk_new w3 (Obj.cells #[Value.int .i64 5, Value.int .i64 0, Value.string ⟨#[]⟩, Value.slice A2 1 c2] 24))
  replace HCt := Aside0.mk (Kd.C_below HCt.out hBP)
  have HCv := Aside0.mk (Kd.C_below (Kd.F_now hF2) (below_alloc (Below.refl _ _) (Obj.cells #[Value.int .i64 5, Value.int .i64 0, Value.string ⟨#[]⟩, Value.slice A2 1 c2] 24)))
  have HLv := Aside0.mk hc2
  have G4B := Aside0.mk (below_step G2B.out hBP)
  clear G2y G2t G2B hBP hb2 hF2 hc2
  go_upto_region 4 with (fail)
  generalize w3.alloc (Obj.cells #[Value.int .i64 5, Value.int .i64 0, Value.string ⟨#[]⟩, Value.slice A2 1 c2] 24) = W4 at G4y G4t G4v HCt HCv G4B ⊢
  generalize w3.heap.size = g2 at G4v ⊢
  have hSv : ((W4.cell? ⟨w.heap.size + 1, 0, none⟩ = some (.int .i64 y.f0) ∧ W4.cell? ⟨w.heap.size + 1, 1, none⟩ = some (.int .i64 y.f1) ∧ W4.cell? ⟨w.heap.size + 1, 2, none⟩ = some (.string y.f2) ∧ W4.cell? ⟨w.heap.size + 1, 3, none⟩ = some (.slice B y.f3.length d)) ∧ (W4.cell? ⟨g + 1, 0, none⟩ = some (Value.int .i64 5) ∧ W4.cell? ⟨g + 1, 1, none⟩ = some (Value.int .i64 0) ∧ W4.cell? ⟨g + 1, 2, none⟩ = some (Value.string ⟨#[]⟩) ∧ W4.cell? ⟨g + 1, 3, none⟩ = some (Value.slice (some ⟨g, 0, none⟩) 1 1)) ∧ (W4.cell? ⟨g2, 0, none⟩ = some (Value.int .i64 5) ∧ W4.cell? ⟨g2, 1, none⟩ = some (Value.int .i64 0) ∧ W4.cell? ⟨g2, 2, none⟩ = some (Value.string ⟨#[]⟩) ∧ W4.cell? ⟨g2, 3, none⟩ = some (Value.slice A2 1 c2)) ∧ Below w.heap.size w W4 ∧ Below W4.heap.size W4 W4) := ⟨cell4 G4y.out, cell4 G4t.out, cell4 G4v.out, G4B.out, Below.refl _ _⟩
  clear G4y G4t G4v G4B
  have HK := Aside0.mk (show ∀ Wa Wb : World, Below Wa.heap.size Wa Wb → ((Wa.cell? ⟨w.heap.size + 1, 0, none⟩ = some (.int .i64 y.f0) ∧ Wa.cell? ⟨w.heap.size + 1, 1, none⟩ = some (.int .i64 y.f1) ∧ Wa.cell? ⟨w.heap.size + 1, 2, none⟩ = some (.string y.f2) ∧ Wa.cell? ⟨w.heap.size + 1, 3, none⟩ = some (.slice B y.f3.length d)) ∧ (Wa.cell? ⟨g + 1, 0, none⟩ = some (Value.int .i64 5) ∧ Wa.cell? ⟨g + 1, 1, none⟩ = some (Value.int .i64 0) ∧ Wa.cell? ⟨g + 1, 2, none⟩ = some (Value.string ⟨#[]⟩) ∧ Wa.cell? ⟨g + 1, 3, none⟩ = some (Value.slice (some ⟨g, 0, none⟩) 1 1)) ∧ (Wa.cell? ⟨g2, 0, none⟩ = some (Value.int .i64 5) ∧ Wa.cell? ⟨g2, 1, none⟩ = some (Value.int .i64 0) ∧ Wa.cell? ⟨g2, 2, none⟩ = some (Value.string ⟨#[]⟩) ∧ Wa.cell? ⟨g2, 3, none⟩ = some (Value.slice A2 1 c2)) ∧ Below w.heap.size w Wa ∧ Below W4.heap.size W4 Wa) → ((Wb.cell? ⟨w.heap.size + 1, 0, none⟩ = some (.int .i64 y.f0) ∧ Wb.cell? ⟨w.heap.size + 1, 1, none⟩ = some (.int .i64 y.f1) ∧ Wb.cell? ⟨w.heap.size + 1, 2, none⟩ = some (.string y.f2) ∧ Wb.cell? ⟨w.heap.size + 1, 3, none⟩ = some (.slice B y.f3.length d)) ∧ (Wb.cell? ⟨g + 1, 0, none⟩ = some (Value.int .i64 5) ∧ Wb.cell? ⟨g + 1, 1, none⟩ = some (Value.int .i64 0) ∧ Wb.cell? ⟨g + 1, 2, none⟩ = some (Value.string ⟨#[]⟩) ∧ Wb.cell? ⟨g + 1, 3, none⟩ = some (Value.slice (some ⟨g, 0, none⟩) 1 1)) ∧ (Wb.cell? ⟨g2, 0, none⟩ = some (Value.int .i64 5) ∧ Wb.cell? ⟨g2, 1, none⟩ = some (Value.int .i64 0) ∧ Wb.cell? ⟨g2, 2, none⟩ = some (Value.string ⟨#[]⟩) ∧ Wb.cell? ⟨g2, 3, none⟩ = some (Value.slice A2 1 c2)) ∧ Below w.heap.size w Wb ∧ Below W4.heap.size W4 Wb) from fun _ _ hb h => ⟨box_step h.1 hb, box_step h.2.1 hb, box_step h.2.2.1 hb, below_step h.2.2.2.1 hb, below_step h.2.2.2.2 hb⟩)
  have HQ := Aside0.mk (show ∀ Wa : World, ((Wa.cell? ⟨w.heap.size + 1, 0, none⟩ = some (.int .i64 y.f0) ∧ Wa.cell? ⟨w.heap.size + 1, 1, none⟩ = some (.int .i64 y.f1) ∧ Wa.cell? ⟨w.heap.size + 1, 2, none⟩ = some (.string y.f2) ∧ Wa.cell? ⟨w.heap.size + 1, 3, none⟩ = some (.slice B y.f3.length d)) ∧ (Wa.cell? ⟨g + 1, 0, none⟩ = some (Value.int .i64 5) ∧ Wa.cell? ⟨g + 1, 1, none⟩ = some (Value.int .i64 0) ∧ Wa.cell? ⟨g + 1, 2, none⟩ = some (Value.string ⟨#[]⟩) ∧ Wa.cell? ⟨g + 1, 3, none⟩ = some (Value.slice (some ⟨g, 0, none⟩) 1 1)) ∧ (Wa.cell? ⟨g2, 0, none⟩ = some (Value.int .i64 5) ∧ Wa.cell? ⟨g2, 1, none⟩ = some (Value.int .i64 0) ∧ Wa.cell? ⟨g2, 2, none⟩ = some (Value.string ⟨#[]⟩) ∧ Wa.cell? ⟨g2, 3, none⟩ = some (Value.slice A2 1 c2)) ∧ Below w.heap.size w Wa ∧ Below W4.heap.size W4 Wa) → Below w.heap.size w Wa from fun _ h => h.2.2.2.1)
  have HQ1 := Aside0.mk (show ∀ Wa : World, ((Wa.cell? ⟨w.heap.size + 1, 0, none⟩ = some (.int .i64 y.f0) ∧ Wa.cell? ⟨w.heap.size + 1, 1, none⟩ = some (.int .i64 y.f1) ∧ Wa.cell? ⟨w.heap.size + 1, 2, none⟩ = some (.string y.f2) ∧ Wa.cell? ⟨w.heap.size + 1, 3, none⟩ = some (.slice B y.f3.length d)) ∧ (Wa.cell? ⟨g + 1, 0, none⟩ = some (Value.int .i64 5) ∧ Wa.cell? ⟨g + 1, 1, none⟩ = some (Value.int .i64 0) ∧ Wa.cell? ⟨g + 1, 2, none⟩ = some (Value.string ⟨#[]⟩) ∧ Wa.cell? ⟨g + 1, 3, none⟩ = some (Value.slice (some ⟨g, 0, none⟩) 1 1)) ∧ (Wa.cell? ⟨g2, 0, none⟩ = some (Value.int .i64 5) ∧ Wa.cell? ⟨g2, 1, none⟩ = some (Value.int .i64 0) ∧ Wa.cell? ⟨g2, 2, none⟩ = some (Value.string ⟨#[]⟩) ∧ Wa.cell? ⟨g2, 3, none⟩ = some (Value.slice A2 1 c2)) ∧ Below w.heap.size w Wa ∧ Below W4.heap.size W4 Wa) → Below W4.heap.size W4 Wa from fun _ h => h.2.2.2.2)
  cases hn : isNum y.f0 with
  | true =>
    go_wp2_with fail
    refine (fitsPP x (iT 1) true (voids1 x) _ _ _ _ _ (Kd.C_below HCt.out (HQ1.out _ hSv)) (Nat.le_refl _) (Kd.C_below HCv.out (HQ1.out _ hSv)) HLv.out).mono ?_
    rintro e wn ⟨rfl, hb⟩
    replace hSv := HK.out _ _ hb hSv
    clear hb
    go_wp2_with fail
    refine (fitsPP (iT 1) x true (voids2 x) _ _ _ _ _ (Kd.C_below HCv.out (HQ1.out _ hSv)) HLv.out (Kd.C_below HCt.out (HQ1.out _ hSv)) (Nat.le_refl _)).mono ?_
    rintro e wn ⟨rfl, hb⟩
    replace hSv := HK.out _ _ hb hSv
    clear hb
    go_wp2_with fail
    refine (to_calls 3 _).mono ?_
    rintro e wn ⟨A5, c5, rfl, hc5, hF5, hb⟩
    replace hSv := HK.out _ _ hb hSv
    clear hb
    go_wp2_with fail
    refine (fitsPI (iT 3) 4 false voids3 _ _ _ (Kd.F_now hF5) hc5).mono ?_
    rintro e wn ⟨rfl, hb⟩
    clear hF5 hc5
    replace hSv := HK.out _ _ hb hSv
    clear hb
    go_wp2_with fail
    refine (number_calls _ _ _ _ _ _ _).mono ?_
    rintro e wn ⟨rfl, hb⟩
    replace hSv := HK.out _ _ hb hSv
    clear hb
    go_wp2_with fail
    refine (fitsYP y x false false (voids4 y x false hn) _ _ _ _ _ (Kd.C_below HCy.out (HQ.out _ hSv)) HLy.out (Kd.C_below HCt.out (HQ1.out _ hSv)) (Nat.le_refl _)).mono ?_
    rintro e wn ⟨rfl, hb⟩
    replace hSv := HK.out _ _ hb hSv
    clear hb
    go_wp2_with fail
    refine (fitsYP y x true false (voids4 y x true hn) _ _ _ _ _ (Kd.C_below HCy.out (HQ.out _ hSv)) HLy.out (Kd.C_below HCt.out (HQ1.out _ hSv)) (Nat.le_refl _)).mono ?_
    rintro e wn ⟨rfl, hb⟩
    replace hSv := HK.out _ _ hb hSv
    clear hb
    go_wp2_with fail
    refine (fitsPY x y false false (voids5 x y hn) _ _ _ _ _ (Kd.C_below HCt.out (HQ1.out _ hSv)) (Nat.le_refl _) (Kd.C_below HCy.out (HQ.out _ hSv)) HLy.out).mono ?_
    rintro e wn ⟨rfl, hb⟩
    replace hSv := HK.out _ _ hb hSv
    clear hb
    go_wp2_with fail
    go_ret
    exact ⟨rfl, HQ.out _ hSv⟩
  | false =>
    go_wp2_with fail
    refine (fitsPP x (iT 1) true (voids1 x) _ _ _ _ _ (Kd.C_below HCt.out (HQ1.out _ hSv)) (Nat.le_refl _) (Kd.C_below HCv.out (HQ1.out _ hSv)) HLv.out).mono ?_
    rintro e wn ⟨rfl, hb⟩
    replace hSv := HK.out _ _ hb hSv
    clear hb
    go_wp2_with fail
    refine (fitsPP (iT 1) x true (voids2 x) _ _ _ _ _ (Kd.C_below HCv.out (HQ1.out _ hSv)) HLv.out (Kd.C_below HCt.out (HQ1.out _ hSv)) (Nat.le_refl _)).mono ?_
    rintro e wn ⟨rfl, hb⟩
    replace hSv := HK.out _ _ hb hSv
    clear hb
    go_wp2_with fail
    refine (to_calls 3 _).mono ?_
    rintro e wn ⟨A5, c5, rfl, hc5, hF5, hb⟩
    replace hSv := HK.out _ _ hb hSv
    clear hb
    go_wp2_with fail
    refine (fitsPI (iT 3) 4 false voids3 _ _ _ (Kd.F_now hF5) hc5).mono ?_
    rintro e wn ⟨rfl, hb⟩
    clear hF5 hc5
    replace hSv := HK.out _ _ hb hSv
    clear hb
    go_wp2_with fail
    refine (number_calls _ _ _ _ _ _ _).mono ?_
    rintro e wn ⟨rfl, hb⟩
    replace hSv := HK.out _ _ hb hSv
    clear hb
    go_wp2_with fail
    go_ret
    exact ⟨rfl, HQ.out _ hSv⟩
end Go.Proofs.Ytmmgdifjiapbmaa.G
