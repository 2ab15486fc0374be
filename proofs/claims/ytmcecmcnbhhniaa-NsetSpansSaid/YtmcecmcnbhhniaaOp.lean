/- An argument of type []int reads as a list of ints. No condition. -/
import Derived.Test.YtmcecmcnbhhniaaGx0
import Derived.Test.YtmcecmcnbhhniaaArgs
set_option linter.unusedVariables false
set_option linter.unusedSimpArgs false
namespace Go.Proofs.Ytmcecmcnbhhniaa.G
open Go.RowKit Go.Proofs.Ytmcecmcnbhhniaa.B Go.Proofs.YtmcecmcnbhhniaaW.PrintWords Go.Proofs.YtmcecmcnbhhniaaW.PrintLast Go.Proofs.YtmcecmcnbhhniaaW.PrintMore

theorem open28 {H : Type} {enc : TypeId × Value → H} {W : World} {base : Nat} {spare : Nat → Bool} {held : Bool} {v : Value} {d : DataW H} {p : List MemPlace} (hv : Value.okWide Try.prog W .any base 28 v) (h : DataW.Trod enc Try.prog W 0 spare held 28 v d p) :
    ∃ (x : List Int) (A : Option Addr) (c : Nat), v = .slice A x.length c ∧ x.length ≤ c ∧ Kd.C (Kd.int .i64) W A x.length x ∧ ∀ n ∈ x, (Lit.int .i64 n).wf = true := by
  have hsl : ∃ A l c, v = .slice A l c := by
    unfold Value.okWide at hv
    rw [Try.underlying28] at hv
    cases v <;> first | exact ⟨_, _, _, rfl⟩ | (exfalso; simp [Cell.okWide, Cell.ok, Try.underlying28] at hv)
  obtain ⟨A, l, c, rfl⟩ := hsl
  obtain ⟨fuel, hf⟩ := h
  obtain ⟨x, hK, hw⟩ := (Opens.slice (d := Kd.int .i64) Try.underlying28 (by kernel_rfl) (Opens.int Try.underlying3 fuel)).out enc W 0 spare held fuel _ _ (by omega) hf
  obtain ⟨A', c', he, hl, hC⟩ := hK
  injection he with he _
  injection he with h1 h2 h3
  subst h1
  subst h2
  subst h3
  exact ⟨x, _, _, rfl, hl, hC, hw⟩
end Go.Proofs.Ytmcecmcnbhhniaa.G
