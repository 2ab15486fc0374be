/- ctype.Fits, as a plain function. The arguments read as types. -/
import Derived.Test.YtmmgdifjiapbmaaHe
set_option linter.unusedVariables false
set_option linter.unusedSimpArgs false
namespace Go.Proofs.Ytmmgdifjiapbmaa.G
open Go.RowKit Go.Proofs.Ytmmgdifjiapbmaa.B Go.Proofs.YtmmgdifjiapbmaaW.PrintWords Go.Proofs.YtmmgdifjiapbmaaW.PrintLast Go.Proofs.YtmmgdifjiapbmaaW.PrintMore



def voidT (x : S24) : Bool := decide (x.f3.length = 1) && decide ((rd_T24 x.f3 0).f0 = 1)
def fitsT (x y : S24) (z : Bool) : Bool :=
  if isNum x.f0 = true then isNum y.f0 else if x.f0 = 5 then (z || (decide (y.f0 = 5) && (voidT x || voidT y || sameT x y))) else (decide (x.f0 = 7) || decide (x.f0 = 8)) && sameT x y
set_option maxHeartbeats 1600000 in
theorem fits_calls (x y : S24) (z : Bool) (A : Option Addr) (c : Nat) (B : Option Addr) (d : Nat) (w : World) (hC : Kd.C k24 w A x.f3.length x.f3) (hl : x.f3.length ≤ c) (hD : Kd.C k24 w B y.f3.length y.f3) (hm : y.f3.length ≤ d) :
    Calls Try.prog 13 #[.agg #[.int .i64 x.f0, .int .i64 x.f1, .string x.f2, .slice A x.f3.length c], .agg #[.int .i64 y.f0, .int .i64 y.f1, .string y.f2, .slice B y.f3.length d], .bool z] w fun e w' => e = .returned (.bool (fitsT x y z)) ∧ Below w.heap.size w w' := by
  have HC := Aside0.mk hC
  have HL := Aside0.mk hl
  have HD := Aside0.mk hD
  have HM := Aside0.mk hm
  clear hC hl hD hm
  cases hn : isNum x.f0 with
  | true =>
    have hr : fitsT x y z = isNum y.f0 := by simp [fitsT, hn]
    rw [hr]
    have e7 : (x.f0 == 7) = false := beq_eq_false_iff_ne.mpr (by simp [isNum] at hn; omega)
    have e8 : (x.f0 == 8) = false := beq_eq_false_iff_ne.mpr (by simp [isNum] at hn; omega)
    have HN := Aside0.mk hn
    clear hr hn
    go_enter Try.func13, Try.ntmps13
    go_wp2_with fail
    have G3 := Aside0.mk (blk_alloc (blk_new w (Obj.cells #[.int .i64 x.f0, .int .i64 x.f1, .string x.f2, .slice A x.f3.length c] 24)) (Obj.cells #[.int .i64 y.f0, .int .i64 y.f1, .string y.f2, .slice B y.f3.length d] 24))
    have G4 := Aside0.mk (blk_at_ (W := w.alloc (Obj.cells #[.int .i64 x.f0, .int .i64 x.f1, .string x.f2, .slice A x.f3.length c] 24)) (n := w.heap.size + 1) (Obj.cells #[.int .i64 y.f0, .int .i64 y.f1, .string y.f2, .slice B y.f3.length d] 24) (by simp))
    have GB := Aside0.mk (show Below w.heap.size w ((w.alloc (Obj.cells #[.int .i64 x.f0, .int .i64 x.f1, .string x.f2, .slice A x.f3.length c] 24)).alloc (Obj.cells #[.int .i64 y.f0, .int .i64 y.f1, .string y.f2, .slice B y.f3.length d] 24)) from ((Below.refl _ _).alloc (Nat.le_refl _) _).alloc (by simp) _)
    generalize (w.alloc (Obj.cells #[.int .i64 x.f0, .int .i64 x.f1, .string x.f2, .slice A x.f3.length c] 24)).alloc (Obj.cells #[.int .i64 y.f0, .int .i64 y.f1, .string y.f2, .slice B y.f3.length d] 24) = W at G3 G4 GB ⊢
    refine (number_calls _ _ _ _ _ _ _).mono ?_
    rintro e w1 ⟨rfl, hb1⟩
    have g3_1 := blk_below G3.out hb1
    have g4_1 := blk_below G4.out hb1
    have c3_1 := cell4 g3_1
    have c4_1 := cell4 g4_1
    have gb_1 := below_step GB.out hb1
    clear G3 G4 GB hb1
    have G3 := Aside0.mk g3_1
    have G4 := Aside0.mk g4_1
    have GB := Aside0.mk gb_1
    clear g3_1 g4_1 gb_1
    rw [HN.out]
    go_wp2_with fail
    refine (number_calls _ _ _ _ _ _ _).mono ?_
    rintro e w2 ⟨rfl, hb2⟩
    have g3_2 := blk_below G3.out hb2
    have g4_2 := blk_below G4.out hb2
    have c3_2 := cell4 g3_2
    have c4_2 := cell4 g4_2
    have gb_2 := below_step GB.out hb2
    clear G3 G4 GB hb2
    have G3 := Aside0.mk g3_2
    have G4 := Aside0.mk g4_2
    have GB := Aside0.mk gb_2
    clear g3_2 g4_2 gb_2
    go_wp2_with fail
    go_ret
    exact ⟨rfl, GB.out⟩
  | false =>
    have HN := Aside0.mk hn
    by_cases h5 : x.f0 = 5
    · have e5 : (x.f0 == 5) = true := beq_iff_eq.mpr h5
      have e7 : (x.f0 == 7) = false := beq_eq_false_iff_ne.mpr (by omega)
      have e8 : (x.f0 == 8) = false := beq_eq_false_iff_ne.mpr (by omega)
      have hr : fitsT x y z = (z || (decide (y.f0 = 5) && (voidT x || voidT y || sameT x y))) := by unfold fitsT; rw [if_neg (by simp [hn]), if_pos h5]
      rw [hr]
      clear hr hn h5
      go_enter Try.func13, Try.ntmps13
      go_wp2_with fail
      have G3 := Aside0.mk (blk_alloc (blk_new w (Obj.cells #[.int .i64 x.f0, .int .i64 x.f1, .string x.f2, .slice A x.f3.length c] 24)) (Obj.cells #[.int .i64 y.f0, .int .i64 y.f1, .string y.f2, .slice B y.f3.length d] 24))
      have G4 := Aside0.mk (blk_at_ (W := w.alloc (Obj.cells #[.int .i64 x.f0, .int .i64 x.f1, .string x.f2, .slice A x.f3.length c] 24)) (n := w.heap.size + 1) (Obj.cells #[.int .i64 y.f0, .int .i64 y.f1, .string y.f2, .slice B y.f3.length d] 24) (by simp))
      have GB := Aside0.mk (show Below w.heap.size w ((w.alloc (Obj.cells #[.int .i64 x.f0, .int .i64 x.f1, .string x.f2, .slice A x.f3.length c] 24)).alloc (Obj.cells #[.int .i64 y.f0, .int .i64 y.f1, .string y.f2, .slice B y.f3.length d] 24)) from ((Below.refl _ _).alloc (Nat.le_refl _) _).alloc (by simp) _)
      generalize (w.alloc (Obj.cells #[.int .i64 x.f0, .int .i64 x.f1, .string x.f2, .slice A x.f3.length c] 24)).alloc (Obj.cells #[.int .i64 y.f0, .int .i64 y.f1, .string y.f2, .slice B y.f3.length d] 24) = W at G3 G4 GB ⊢
      refine (number_calls _ _ _ _ _ _ _).mono ?_
      rintro e w3 ⟨rfl, hb3⟩
      have g3_3 := blk_below G3.out hb3
      have g4_3 := blk_below G4.out hb3
      have c3_3 := cell4 g3_3
      have c4_3 := cell4 g4_3
      have gb_3 := below_step GB.out hb3
      clear G3 G4 GB hb3
      have G3 := Aside0.mk g3_3
      have G4 := Aside0.mk g4_3
      have GB := Aside0.mk gb_3
      clear g3_3 g4_3 gb_3
      rw [HN.out]
      cases z with
      | true =>
        go_wp2_with fail
        go_ret
        exact ⟨rfl, GB.out⟩
      | false =>
        by_cases h5 : y.f0 = 5
        case neg =>
          have e9 : (y.f0 == 5) = false := beq_eq_false_iff_ne.mpr h5
          have e9' : (y.f0 != 5) = true := bne_iff_ne.mpr h5
          have H9 := Aside0.mk (decide_eq_false h5)
          clear h5
          go_wp2_with fail
          go_ret
          exact ⟨ret_bool (by rw [H9.out]; rfl), GB.out⟩
        have e9 : (y.f0 == 5) = true := beq_iff_eq.mpr h5
        have e9' : (y.f0 != 5) = false := bne_eq_false_iff_eq.mpr h5
        have H9 := Aside0.mk (decide_eq_true h5)
        clear h5
        go_wp2_with fail
        refine (void_calls x _ _ _ (Kd.C_below HC.out GB.out)).mono ?_
        rintro e w4 ⟨rfl, hb4⟩
        have g3_4 := blk_below G3.out hb4
        have g4_4 := blk_below G4.out hb4
        have c3_4 := cell4 g3_4
        have c4_4 := cell4 g4_4
        have gb_4 := below_step GB.out hb4
        clear G3 G4 GB hb4
        have G3 := Aside0.mk g3_4
        have G4 := Aside0.mk g4_4
        have GB := Aside0.mk gb_4
        clear g3_4 g4_4 gb_4
        cases hv : voidT x with
        | true =>
          have HV := Aside0.mk hv
          clear hv
          rw [show (decide (x.f3.length = 1) && decide ((rd_T24 x.f3 0).f0 = 1)) = true from HV.out]
          go_wp2_with fail
          go_ret
          exact ⟨ret_bool (by rw [H9.out, HV.out]; rfl), GB.out⟩
        | false =>
          have HV := Aside0.mk hv
          clear hv
          rw [show (decide (x.f3.length = 1) && decide ((rd_T24 x.f3 0).f0 = 1)) = false from HV.out]
          go_wp2_with fail
          refine (void_calls y _ _ _ (Kd.C_below HD.out GB.out)).mono ?_
          rintro e w5 ⟨rfl, hb5⟩
          have g3_5 := blk_below G3.out hb5
          have g4_5 := blk_below G4.out hb5
          have c3_5 := cell4 g3_5
          have c4_5 := cell4 g4_5
          have gb_5 := below_step GB.out hb5
          clear G3 G4 GB hb5
          have G3 := Aside0.mk g3_5
          have G4 := Aside0.mk g4_5
          have GB := Aside0.mk gb_5
          clear g3_5 g4_5 gb_5
          cases hv : voidT y with
          | true =>
            have HV2 := Aside0.mk hv
            clear hv
            rw [show (decide (y.f3.length = 1) && decide ((rd_T24 y.f3 0).f0 = 1)) = true from HV2.out]
            go_wp2_with fail
            go_ret
            exact ⟨ret_bool (by rw [H9.out, HV.out, HV2.out]; rfl), GB.out⟩
          | false =>
            have HV2 := Aside0.mk hv
            clear hv
            rw [show (decide (y.f3.length = 1) && decide ((rd_T24 y.f3 0).f0 = 1)) = false from HV2.out]
            go_wp2_with fail
            refine (same_calls x y _ _ _ _ _ (Kd.C_below HC.out GB.out) HL.out (Kd.C_below HD.out GB.out) HM.out).mono ?_
            rintro e w6 ⟨rfl, hb6⟩
            have g3_6 := blk_below G3.out hb6
            have g4_6 := blk_below G4.out hb6
            have c3_6 := cell4 g3_6
            have c4_6 := cell4 g4_6
            have gb_6 := below_step GB.out hb6
            clear G3 G4 GB hb6
            have G3 := Aside0.mk g3_6
            have G4 := Aside0.mk g4_6
            have GB := Aside0.mk gb_6
            clear g3_6 g4_6 gb_6
            go_wp2_with fail
            go_ret
            exact ⟨ret_bool (by rw [H9.out, HV.out, HV2.out]; rfl), GB.out⟩
    · have e5 : (x.f0 == 5) = false := beq_eq_false_iff_ne.mpr h5
      have hr : fitsT x y z = ((decide (x.f0 = 7) || decide (x.f0 = 8)) && sameT x y) := by simp [fitsT, hn, h5]
      rw [hr]
      clear hr hn
      by_cases h7 : x.f0 = 7 ∨ x.f0 = 8
      · rw [show (decide (x.f0 = 7) || decide (x.f0 = 8)) = true by simpa using h7]
        simp only [Bool.true_and]
        rcases h7 with h7 | h7
        · have e7 : (x.f0 == 7) = true := beq_iff_eq.mpr h7
          clear h7 h5
          go_enter Try.func13, Try.ntmps13
          go_wp2_with fail
          have G3 := Aside0.mk (blk_alloc (blk_new w (Obj.cells #[.int .i64 x.f0, .int .i64 x.f1, .string x.f2, .slice A x.f3.length c] 24)) (Obj.cells #[.int .i64 y.f0, .int .i64 y.f1, .string y.f2, .slice B y.f3.length d] 24))
          have G4 := Aside0.mk (blk_at_ (W := w.alloc (Obj.cells #[.int .i64 x.f0, .int .i64 x.f1, .string x.f2, .slice A x.f3.length c] 24)) (n := w.heap.size + 1) (Obj.cells #[.int .i64 y.f0, .int .i64 y.f1, .string y.f2, .slice B y.f3.length d] 24) (by simp))
          have GB := Aside0.mk (show Below w.heap.size w ((w.alloc (Obj.cells #[.int .i64 x.f0, .int .i64 x.f1, .string x.f2, .slice A x.f3.length c] 24)).alloc (Obj.cells #[.int .i64 y.f0, .int .i64 y.f1, .string y.f2, .slice B y.f3.length d] 24)) from ((Below.refl _ _).alloc (Nat.le_refl _) _).alloc (by simp) _)
          generalize (w.alloc (Obj.cells #[.int .i64 x.f0, .int .i64 x.f1, .string x.f2, .slice A x.f3.length c] 24)).alloc (Obj.cells #[.int .i64 y.f0, .int .i64 y.f1, .string y.f2, .slice B y.f3.length d] 24) = W at G3 G4 GB ⊢
          refine (number_calls _ _ _ _ _ _ _).mono ?_
          rintro e w7 ⟨rfl, hb7⟩
          have g3_7 := blk_below G3.out hb7
          have g4_7 := blk_below G4.out hb7
          have c3_7 := cell4 g3_7
          have c4_7 := cell4 g4_7
          have gb_7 := below_step GB.out hb7
          clear G3 G4 GB hb7
          have G3 := Aside0.mk g3_7
          have G4 := Aside0.mk g4_7
          have GB := Aside0.mk gb_7
          clear g3_7 g4_7 gb_7
          rw [HN.out]
          go_wp2_with fail
          refine (same_calls x y _ _ _ _ _ (Kd.C_below HC.out GB.out) HL.out (Kd.C_below HD.out GB.out) HM.out).mono ?_
          rintro e w8 ⟨rfl, hb8⟩
          have g3_8 := blk_below G3.out hb8
          have g4_8 := blk_below G4.out hb8
          have c3_8 := cell4 g3_8
          have c4_8 := cell4 g4_8
          have gb_8 := below_step GB.out hb8
          clear G3 G4 GB hb8
          have G3 := Aside0.mk g3_8
          have G4 := Aside0.mk g4_8
          have GB := Aside0.mk gb_8
          clear g3_8 g4_8 gb_8
          go_wp2_with fail
          go_ret
          exact ⟨rfl, GB.out⟩
        · have e7 : (x.f0 == 7) = false := beq_eq_false_iff_ne.mpr (by omega)
          have e8 : (x.f0 == 8) = true := beq_iff_eq.mpr h7
          clear h7 h5
          go_enter Try.func13, Try.ntmps13
          go_wp2_with fail
          have G3 := Aside0.mk (blk_alloc (blk_new w (Obj.cells #[.int .i64 x.f0, .int .i64 x.f1, .string x.f2, .slice A x.f3.length c] 24)) (Obj.cells #[.int .i64 y.f0, .int .i64 y.f1, .string y.f2, .slice B y.f3.length d] 24))
          have G4 := Aside0.mk (blk_at_ (W := w.alloc (Obj.cells #[.int .i64 x.f0, .int .i64 x.f1, .string x.f2, .slice A x.f3.length c] 24)) (n := w.heap.size + 1) (Obj.cells #[.int .i64 y.f0, .int .i64 y.f1, .string y.f2, .slice B y.f3.length d] 24) (by simp))
          have GB := Aside0.mk (show Below w.heap.size w ((w.alloc (Obj.cells #[.int .i64 x.f0, .int .i64 x.f1, .string x.f2, .slice A x.f3.length c] 24)).alloc (Obj.cells #[.int .i64 y.f0, .int .i64 y.f1, .string y.f2, .slice B y.f3.length d] 24)) from ((Below.refl _ _).alloc (Nat.le_refl _) _).alloc (by simp) _)
          generalize (w.alloc (Obj.cells #[.int .i64 x.f0, .int .i64 x.f1, .string x.f2, .slice A x.f3.length c] 24)).alloc (Obj.cells #[.int .i64 y.f0, .int .i64 y.f1, .string y.f2, .slice B y.f3.length d] 24) = W at G3 G4 GB ⊢
          refine (number_calls _ _ _ _ _ _ _).mono ?_
          rintro e w9 ⟨rfl, hb9⟩
          have g3_9 := blk_below G3.out hb9
          have g4_9 := blk_below G4.out hb9
          have c3_9 := cell4 g3_9
          have c4_9 := cell4 g4_9
          have gb_9 := below_step GB.out hb9
          clear G3 G4 GB hb9
          have G3 := Aside0.mk g3_9
          have G4 := Aside0.mk g4_9
          have GB := Aside0.mk gb_9
          clear g3_9 g4_9 gb_9
          rw [HN.out]
          go_wp2_with fail
          refine (same_calls x y _ _ _ _ _ (Kd.C_below HC.out GB.out) HL.out (Kd.C_below HD.out GB.out) HM.out).mono ?_
          rintro e w10 ⟨rfl, hb10⟩
          have g3_10 := blk_below G3.out hb10
          have g4_10 := blk_below G4.out hb10
          have c3_10 := cell4 g3_10
          have c4_10 := cell4 g4_10
          have gb_10 := below_step GB.out hb10
          clear G3 G4 GB hb10
          have G3 := Aside0.mk g3_10
          have G4 := Aside0.mk g4_10
          have GB := Aside0.mk gb_10
          clear g3_10 g4_10 gb_10
          go_wp2_with fail
          go_ret
          exact ⟨rfl, GB.out⟩
      · rw [show (decide (x.f0 = 7) || decide (x.f0 = 8)) = false by simpa using h7]
        simp only [Bool.false_and]
        have e7 : (x.f0 == 7) = false := beq_eq_false_iff_ne.mpr (by omega)
        have e8 : (x.f0 == 8) = false := beq_eq_false_iff_ne.mpr (by omega)
        clear h7 h5
        go_enter Try.func13, Try.ntmps13
        go_wp2_with fail
        have G3 := Aside0.mk (blk_alloc (blk_new w (Obj.cells #[.int .i64 x.f0, .int .i64 x.f1, .string x.f2, .slice A x.f3.length c] 24)) (Obj.cells #[.int .i64 y.f0, .int .i64 y.f1, .string y.f2, .slice B y.f3.length d] 24))
        have G4 := Aside0.mk (blk_at_ (W := w.alloc (Obj.cells #[.int .i64 x.f0, .int .i64 x.f1, .string x.f2, .slice A x.f3.length c] 24)) (n := w.heap.size + 1) (Obj.cells #[.int .i64 y.f0, .int .i64 y.f1, .string y.f2, .slice B y.f3.length d] 24) (by simp))
        have GB := Aside0.mk (show Below w.heap.size w ((w.alloc (Obj.cells #[.int .i64 x.f0, .int .i64 x.f1, .string x.f2, .slice A x.f3.length c] 24)).alloc (Obj.cells #[.int .i64 y.f0, .int .i64 y.f1, .string y.f2, .slice B y.f3.length d] 24)) from ((Below.refl _ _).alloc (Nat.le_refl _) _).alloc (by simp) _)
        generalize (w.alloc (Obj.cells #[.int .i64 x.f0, .int .i64 x.f1, .string x.f2, .slice A x.f3.length c] 24)).alloc (Obj.cells #[.int .i64 y.f0, .int .i64 y.f1, .string y.f2, .slice B y.f3.length d] 24) = W at G3 G4 GB ⊢
        refine (number_calls _ _ _ _ _ _ _).mono ?_
        rintro e w11 ⟨rfl, hb11⟩
        have g3_11 := blk_below G3.out hb11
        have g4_11 := blk_below G4.out hb11
        have c3_11 := cell4 g3_11
        have c4_11 := cell4 g4_11
        have gb_11 := below_step GB.out hb11
        clear G3 G4 GB hb11
        have G3 := Aside0.mk g3_11
        have G4 := Aside0.mk g4_11
        have GB := Aside0.mk gb_11
        clear g3_11 g4_11 gb_11
        rw [HN.out]
        go_wp2_with fail
        go_ret
        exact ⟨rfl, GB.out⟩
end Go.Proofs.Ytmmgdifjiapbmaa.G
