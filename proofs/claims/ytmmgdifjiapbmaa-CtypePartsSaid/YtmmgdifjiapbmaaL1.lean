/- The law CtypeFits returns true. The arguments read as types. -/
import Derived.Test.YtmmgdifjiapbmaaHl
import Derived.Test.YtmmgdifjiapbmaaHh
set_option linter.unusedVariables false
set_option linter.unusedSimpArgs false
namespace Go.Proofs.Ytmmgdifjiapbmaa.G
open Go.RowKit Go.Proofs.Ytmmgdifjiapbmaa.B Go.Proofs.YtmmgdifjiapbmaaW.PrintWords Go.Proofs.YtmmgdifjiapbmaaW.PrintLast Go.Proofs.YtmmgdifjiapbmaaW.PrintMore



theorem box_step {W w1 : World} {g : Nat} {a b c d : Value} (h : (W.cell? ⟨g, 0, none⟩ = some a ∧ W.cell? ⟨g, 1, none⟩ = some b ∧ W.cell? ⟨g, 2, none⟩ = some c ∧ W.cell? ⟨g, 3, none⟩ = some d)) (hb : Below W.heap.size W w1) :
    w1.cell? ⟨g, 0, none⟩ = some a ∧ w1.cell? ⟨g, 1, none⟩ = some b ∧ w1.cell? ⟨g, 2, none⟩ = some c ∧ w1.cell? ⟨g, 3, none⟩ = some d :=
  ⟨pw_cell_below hb h.1, pw_cell_below hb h.2.1, pw_cell_below hb h.2.2.1, pw_cell_below hb h.2.2.2⟩
set_option maxHeartbeats 4000000 in
theorem CtypeFits_calls (x y : S24) (z : Bool) (A : Option Addr) (c : Nat) (B : Option Addr) (d : Nat) (w : World) (hC : Kd.C k24 w A x.f3.length x.f3) (hl : x.f3.length ≤ c) (hD : Kd.C k24 w B y.f3.length y.f3) (hm : y.f3.length ≤ d) :
    Calls Try.prog 3 #[.agg #[.int .i64 x.f0, .int .i64 x.f1, .string x.f2, .slice A x.f3.length c], .agg #[.int .i64 y.f0, .int .i64 y.f1, .string y.f2, .slice B y.f3.length d], .bool z] w fun e w' => e = .returned (.bool true) ∧ Below w.heap.size w w' := by
  have HC := Aside0.mk hC
  have HL := Aside0.mk hl
  have HD := Aside0.mk hD
  have HM := Aside0.mk hm
  clear hC hl hD hm
  go_enter Try.func3, Try.ntmps3
  go_wp2_with fail
  have G3 := Aside0.mk (blk_alloc (blk_new w (Obj.cells #[.int .i64 x.f0, .int .i64 x.f1, .string x.f2, .slice A x.f3.length c] 24)) (Obj.cells #[.int .i64 y.f0, .int .i64 y.f1, .string y.f2, .slice B y.f3.length d] 24))
  have G4 := Aside0.mk (blk_at_ (W := w.alloc (Obj.cells #[.int .i64 x.f0, .int .i64 x.f1, .string x.f2, .slice A x.f3.length c] 24)) (n := w.heap.size + 1) (Obj.cells #[.int .i64 y.f0, .int .i64 y.f1, .string y.f2, .slice B y.f3.length d] 24) (by simp))
  have GB := Aside0.mk (show Below w.heap.size w ((w.alloc (Obj.cells #[.int .i64 x.f0, .int .i64 x.f1, .string x.f2, .slice A x.f3.length c] 24)).alloc (Obj.cells #[.int .i64 y.f0, .int .i64 y.f1, .string y.f2, .slice B y.f3.length d] 24)) from ((Below.refl _ _).alloc (Nat.le_refl _) _).alloc (by simp) _)
  generalize (w.alloc (Obj.cells #[.int .i64 x.f0, .int .i64 x.f1, .string x.f2, .slice A x.f3.length c] 24)).alloc (Obj.cells #[.int .i64 y.f0, .int .i64 y.f1, .string y.f2, .slice B y.f3.length d] 24) = W at G3 G4 GB ⊢
  refine (shown_calls W).mono ?_
  rintro e w1 ⟨rfl, hb1⟩
  have hS3 := cell4 (blk_below G3.out hb1)
  have hS4 := cell4 (blk_below G4.out hb1)
  have hSB := below_step GB.out hb1
  clear G3 G4 GB hb1
  go_wp2_with fail
  have HQ := Aside0.mk (show ∀ W2 : World, ((W2.cell? ⟨w.heap.size, 0, none⟩ = some (.int .i64 x.f0) ∧ W2.cell? ⟨w.heap.size, 1, none⟩ = some (.int .i64 x.f1) ∧ W2.cell? ⟨w.heap.size, 2, none⟩ = some (.string x.f2) ∧ W2.cell? ⟨w.heap.size, 3, none⟩ = some (.slice A x.f3.length c)) ∧ (W2.cell? ⟨w.heap.size + 1, 0, none⟩ = some (.int .i64 y.f0) ∧ W2.cell? ⟨w.heap.size + 1, 1, none⟩ = some (.int .i64 y.f1) ∧ W2.cell? ⟨w.heap.size + 1, 2, none⟩ = some (.string y.f2) ∧ W2.cell? ⟨w.heap.size + 1, 3, none⟩ = some (.slice B y.f3.length d)) ∧ Below w.heap.size w W2) → Below w.heap.size w W2 from fun _ h => h.2.2)
  have HK := Aside0.mk (show ∀ W2 W3 : World, Below W2.heap.size W2 W3 → ((W2.cell? ⟨w.heap.size, 0, none⟩ = some (.int .i64 x.f0) ∧ W2.cell? ⟨w.heap.size, 1, none⟩ = some (.int .i64 x.f1) ∧ W2.cell? ⟨w.heap.size, 2, none⟩ = some (.string x.f2) ∧ W2.cell? ⟨w.heap.size, 3, none⟩ = some (.slice A x.f3.length c)) ∧ (W2.cell? ⟨w.heap.size + 1, 0, none⟩ = some (.int .i64 y.f0) ∧ W2.cell? ⟨w.heap.size + 1, 1, none⟩ = some (.int .i64 y.f1) ∧ W2.cell? ⟨w.heap.size + 1, 2, none⟩ = some (.string y.f2) ∧ W2.cell? ⟨w.heap.size + 1, 3, none⟩ = some (.slice B y.f3.length d)) ∧ Below w.heap.size w W2) → ((W3.cell? ⟨w.heap.size, 0, none⟩ = some (.int .i64 x.f0) ∧ W3.cell? ⟨w.heap.size, 1, none⟩ = some (.int .i64 x.f1) ∧ W3.cell? ⟨w.heap.size, 2, none⟩ = some (.string x.f2) ∧ W3.cell? ⟨w.heap.size, 3, none⟩ = some (.slice A x.f3.length c)) ∧ (W3.cell? ⟨w.heap.size + 1, 0, none⟩ = some (.int .i64 y.f0) ∧ W3.cell? ⟨w.heap.size + 1, 1, none⟩ = some (.int .i64 y.f1) ∧ W3.cell? ⟨w.heap.size + 1, 2, none⟩ = some (.string y.f2) ∧ W3.cell? ⟨w.heap.size + 1, 3, none⟩ = some (.slice B y.f3.length d)) ∧ Below w.heap.size w W3) from fun _ _ hb h => ⟨box_step h.1 hb, box_step h.2.1 hb, below_step h.2.2 hb⟩)
  go_region_held3 (fun w' => (w'.cell? ⟨w.heap.size, 0, none⟩ = some (.int .i64 x.f0) ∧ w'.cell? ⟨w.heap.size, 1, none⟩ = some (.int .i64 x.f1) ∧ w'.cell? ⟨w.heap.size, 2, none⟩ = some (.string x.f2) ∧ w'.cell? ⟨w.heap.size, 3, none⟩ = some (.slice A x.f3.length c)) ∧ (w'.cell? ⟨w.heap.size + 1, 0, none⟩ = some (.int .i64 y.f0) ∧ w'.cell? ⟨w.heap.size + 1, 1, none⟩ = some (.int .i64 y.f1) ∧ w'.cell? ⟨w.heap.size + 1, 2, none⟩ = some (.string y.f2) ∧ w'.cell? ⟨w.heap.size + 1, 3, none⟩ = some (.slice B y.f3.length d)) ∧ Below w.heap.size w w') (first | assumption | exact ⟨hS3, hS4, below_drew hSB⟩ | exact HK.out _ _ hb2 (by assumption))
    (first | (go_at_call 11; refine (same_calls x y _ _ _ _ _ (Kd.C_below HC.out (HQ.out _ (by assumption))) HL.out (Kd.C_below HD.out (HQ.out _ (by assumption))) HM.out).mono ?_; rintro e w2 ⟨rfl, hb2⟩) | (go_at_call 12; refine (samer_calls x y _ _ _ _ _ (Kd.C_below HC.out (HQ.out _ (by assumption))) HL.out (Kd.C_below HD.out (HQ.out _ (by assumption))) HM.out).mono ?_; rintro e w2 ⟨rfl, hb2⟩) | (go_at_call 13; refine (fits_calls x y z _ _ _ _ _ (Kd.C_below HC.out (HQ.out _ (by assumption))) HL.out (Kd.C_below HD.out (HQ.out _ (by assumption))) HM.out).mono ?_; rintro e w2 ⟨rfl, hb2⟩) | (go_at_call 14; refine (fits_ref x y z _ _ _ _ _ (Kd.C_below HC.out (HQ.out _ (by assumption))) HL.out (Kd.C_below HD.out (HQ.out _ (by assumption))) HM.out).mono ?_; rintro e w2 ⟨rfl, hb2⟩))
  go_wp2_with fail
  go_ret
  exact ⟨rfl, HQ.out _ (by assumption)⟩
end Go.Proofs.Ytmmgdifjiapbmaa.G
