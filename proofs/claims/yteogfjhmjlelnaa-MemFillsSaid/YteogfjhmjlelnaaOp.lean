/- An argument of type api.Value reads as one. No condition. -/
import Derived.Test.YteogfjhmjlelnaaMs
import Derived.Test.YteogfjhmjlelnaaArgs
set_option linter.unusedVariables false
set_option linter.unusedSimpArgs false
namespace Go.Proofs.Yteogfjhmjlelnaa.G
open Go.RowKit Go.Proofs.Yteogfjhmjlelnaa.B Go.Proofs.YteogfjhmjlelnaaW.PrintWords Go.Proofs.YteogfjhmjlelnaaW.PrintLast Go.Proofs.YteogfjhmjlelnaaW.PrintMore

def tupV (x : Vl) : Int × Int × Int := (x.n, x.b, x.f)
def wfV (x : Vl) : Prop := (Lit.int .i64 x.n).wf = true ∧ (Lit.int .i64 x.b).wf = true ∧ (Lit.int .i64 x.f).wf = true
theorem opens23 (n : Nat) : Opens Try.prog (n + 3) 23 (Kd.iso (Kd.pair (Kd.int .i64) (Kd.pair (Kd.int .i64) (Kd.int .i64))) tupV) wfV := by
  have hF := OpensF.cons (f := { name := "N", type := 2, offset := 0, embedded := false, tag := "", pkgPath := "", byteOffset := 0 }) (by kernel_rfl) (Opens.int Try.underlying2 (n + 2)) (OpensF.cons (f := { name := "Block", type := 3, offset := 1, embedded := false, tag := "", pkgPath := "", byteOffset := 8 }) (by kernel_rfl) (Opens.int Try.underlying3 (n + 2)) (OpensF.one (f := { name := "Frag", type := 3, offset := 2, embedded := false, tag := "", pkgPath := "", byteOffset := 16 }) (by kernel_rfl) (Opens.int Try.underlying3 (n + 2))))
  have h := Opens.struct (f := tupV) (fun y => ⟨y.1, y.2.1, y.2.2⟩) (fun _ => rfl) Try.underlying23 (by kernel_rfl) hF
  refine Opens.imp h ?_
  rintro b ⟨a, rfl, h0, h1, h2⟩
  exact ⟨h0, h1, h2⟩
theorem open23 {H : Type} {enc : TypeId × Value → H} {W : World} {base : Nat} {spare : Nat → Bool} {held : Bool} {v : Value} {d : DataW H} {p : List MemPlace} (hv : Value.okWide Try.prog W .any base 23 v) (h : DataW.Trod enc Try.prog W 0 spare held 23 v d p) :
    ∃ x : Vl, v = .agg #[.int .i64 x.n, .int .i64 x.b, .int .i64 x.f] ∧ wfV x := by
  unfold Value.okWide at hv
  rw [Try.underlying23] at hv
  obtain ⟨cs, rfl, _⟩ := hv
  obtain ⟨fuel, hf⟩ := h
  obtain ⟨x, hK, hw⟩ := (opens23 fuel).out enc W 0 spare held fuel _ _ (by omega) hf
  obtain ⟨_, _, e0, rfl, _, _, rfl, rfl, rfl⟩ := hK
  refine ⟨x, ?_, hw⟩
  congr 1
  exact Array.toList_inj.1 e0
theorem open37 {H : Type} {enc : TypeId × Value → H} {W : World} {base : Nat} {spare : Nat → Bool} {held : Bool} {v : Value} {d : DataW H} {p : List MemPlace} (hv : Value.okWide Try.prog W .any base 37 v) (h : DataW.Trod enc Try.prog W 0 spare held 37 v d p) :
    ∃ (x : List Int) (A : Option Addr) (c : Nat), v = .slice A x.length c ∧ x.length ≤ c ∧ Kd.C (Kd.int .u8) W A x.length x ∧ ∀ n ∈ x, (Lit.int .u8 n).wf = true := by
  have hsl : ∃ A l c, v = .slice A l c := by
    unfold Value.okWide at hv
    rw [Try.underlying37] at hv
    cases v <;> first | exact ⟨_, _, _, rfl⟩ | (exfalso; simp [Cell.okWide, Cell.ok, Try.underlying37] at hv)
  obtain ⟨A, l, c, rfl⟩ := hsl
  obtain ⟨fuel, hf⟩ := h
  obtain ⟨x, hK, hw⟩ := (Opens.slice (d := Kd.int .u8) Try.underlying37 (by kernel_rfl) (Opens.int Try.underlying5 fuel)).out enc W 0 spare held fuel _ _ (by omega) hf
  obtain ⟨A', c', he, hl, hC⟩ := hK
  injection he with he _
  injection he with h1 h2 h3
  subst h1
  subst h2
  subst h3
  exact ⟨x, _, _, rfl, hl, hC, hw⟩
end Go.Proofs.Yteogfjhmjlelnaa.G
