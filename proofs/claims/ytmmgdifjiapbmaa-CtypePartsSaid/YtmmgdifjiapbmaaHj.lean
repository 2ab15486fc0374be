/- ctype.May is mayT at 60. The arguments read as types. -/
import Derived.Test.YtmmgdifjiapbmaaHi
set_option linter.unusedVariables false
set_option linter.unusedSimpArgs false
namespace Go.Proofs.Ytmmgdifjiapbmaa.G
open Go.RowKit Go.Proofs.Ytmmgdifjiapbmaa.B Go.Proofs.YtmmgdifjiapbmaaW.PrintWords Go.Proofs.YtmmgdifjiapbmaaW.PrintLast Go.Proofs.YtmmgdifjiapbmaaW.PrintMore


theorem may_all (n : Nat) : n ≤ 1000 → MayOf n := by
  induction n with
  | zero =>
    intro _ x A c w hC hl
    have e0 : ((0 : Int) == 0) = true := rfl
    show Calls Try.prog 29 #[.agg #[.int .i64 x.f0, .int .i64 x.f1, .string x.f2, .slice A x.f3.length c], .int .i64 0] w fun e w' => e = .returned (.bool false) ∧ Below w.heap.size w w'
    go_enter Try.func29, Try.ntmps29
    go_wp2_with fail
    go_ret
    exact ⟨rfl, ((Below.refl _ _).alloc (Nat.le_refl _) _).alloc (by simp) _⟩
  | succ n ih => exact fun h => may_step n (ih (by omega)) (by omega)
theorem may_calls (x : S24) (A : Option Addr) (c : Nat) (w : World) (hC : Kd.C k24 w A x.f3.length x.f3) (hl : x.f3.length ≤ c) :
    Calls Try.prog 20 #[.agg #[.int .i64 x.f0, .int .i64 x.f1, .string x.f2, .slice A x.f3.length c]] w fun e w' => e = .returned (.bool (mayT 60 x)) ∧ Below w.heap.size w w' := by
  have hB : Below w.heap.size w (w.alloc (.cells #[.int .i64 x.f0, .int .i64 x.f1, .string x.f2, .slice A x.f3.length c] 24)) := (Below.refl _ _).alloc (Nat.le_refl _) _
  have H := Aside0.mk (may_all 60 (by omega) x A c _ (Kd.C_below hC hB) hl)
  have HB0 := Aside0.mk hB
  clear hB hC hl
  go_enter Try.func20, Try.ntmps20
  go_wp2_with fail
  refine H.out.mono ?_
  rintro e w1 ⟨rfl, hb2⟩
  have HB := Aside0.mk (below_step HB0.out hb2)
  clear HB0 hb2
  go_wp2_with fail
  go_ret
  exact ⟨rfl, HB.out⟩
end Go.Proofs.Ytmmgdifjiapbmaa.G
