/- An argument of type api.T reads as a type. No condition. -/
import Derived.Test.YtmmgdifjiapbmaaGx0
import Derived.Test.YtmmgdifjiapbmaaArgs
set_option linter.unusedVariables false
set_option linter.unusedSimpArgs false
namespace Go.Proofs.Ytmmgdifjiapbmaa.G
open Go.RowKit Go.Proofs.Ytmmgdifjiapbmaa.B Go.Proofs.YtmmgdifjiapbmaaW.PrintWords Go.Proofs.YtmmgdifjiapbmaaW.PrintLast Go.Proofs.YtmmgdifjiapbmaaW.PrintMore



mutual
def wf24 : S24 → Prop
  | ⟨a, b, c, l⟩ => (Lit.int .i64 a).wf = true ∧ (Lit.int .i64 b).wf = true ∧ c.size ≤ maxLen ∧ wfL24 l
def wfL24 : List S24 → Prop
  | [] => True
  | x :: l => wf24 x ∧ wfL24 l
end
theorem wfL24_of : ∀ (l : List S24), (∀ x ∈ l, wf24 x) → wfL24 l
  | [], _ => trivial
  | x :: l, h => ⟨h x (by simp), wfL24_of l (fun y hy => h y (by simp [hy]))⟩
theorem opens24 (n : Nat) : Opens Try.prog n 24 (Kd.upto F24 4 [24] n) wf24 := by
  induction n with
  | zero =>
    constructor
    intro H enc w base spare held fuel cs x hf ht
    obtain rfl : fuel = 0 := by omega
    simp [DataW.trod] at ht
  | succ n ih =>
    have hs : (Kd.upto F24 4 [24] n).sz = 4 := sz24 n
    have h3 : Opens Try.prog (n + 1) 22 (Kd.slice 24 (Kd.upto F24 4 [24] n)) (fun l => ∀ x ∈ l, wf24 x) := Opens.slice Try.underlying22 (by rw [hs]; kernel_rfl) ih
    have hF := OpensF.cons (f := { name := "Kind", type := 3, offset := 0, embedded := false, tag := "", pkgPath := "", byteOffset := 0 }) (by kernel_rfl) (Opens.int Try.underlying3 (n + 1)) (OpensF.cons (f := { name := "N", type := 3, offset := 1, embedded := false, tag := "", pkgPath := "", byteOffset := 8 }) (by kernel_rfl) (Opens.int Try.underlying3 (n + 1)) (OpensF.cons (f := { name := "Name", type := 9, offset := 2, embedded := false, tag := "", pkgPath := "", byteOffset := 16 }) (by kernel_rfl) (Opens.string Try.underlying9 (n + 1)) (OpensF.one (f := { name := "Of", type := 22, offset := 3, embedded := false, tag := "", pkgPath := "", byteOffset := 32 }) (by rw [show (Kd.slice 24 (Kd.upto F24 4 [24] n)).sz = 1 from rfl]; kernel_rfl) h3)))
    have h := Opens.struct (f := fun x : S24 => (x.f0, x.f1, x.f2, x.f3)) (fun y => ⟨y.1, y.2.1, y.2.2.1, y.2.2.2⟩) (fun _ => rfl) Try.underlying24 (by rw [show (Kd.pair (Kd.int .i64) (Kd.pair (Kd.int .i64) (Kd.pair Kd.string (Kd.slice 24 (Kd.upto F24 4 [24] n))))).sz = 4 from rfl]; kernel_rfl) hF
    refine Opens.imp (Opens.le h (by omega)) ?_
    rintro b ⟨a, rfl, h0, h1, h2, h3⟩
    exact ⟨h0, h1, h2, wfL24_of _ h3⟩
theorem open24 {H : Type} {enc : TypeId × Value → H} {W : World} {base : Nat} {spare : Nat → Bool} {held : Bool} {v : Value} {d : DataW H} {p : List MemPlace} (hv : Value.okWide Try.prog W .any base 24 v) (h : DataW.Trod enc Try.prog W 0 spare held 24 v d p) :
    ∃ (x : S24) (A : Option Addr) (c : Nat), v = .agg #[.int .i64 x.f0, .int .i64 x.f1, .string x.f2, .slice A x.f3.length c] ∧ x.f3.length ≤ c ∧ Kd.C k24 W A x.f3.length x.f3 ∧ wf24 x := by
  unfold Value.okWide at hv
  rw [Try.underlying24] at hv
  obtain ⟨cs, rfl, _⟩ := hv
  obtain ⟨fuel, hf⟩ := h
  obtain ⟨x, hK, hw⟩ := (opens24 fuel).out enc W 0 spare held fuel _ _ (Nat.le_refl _) hf
  have hk : k24.K W x cs.toList := ⟨fuel, hK⟩
  obtain ⟨A, c, e, hl, hC⟩ := k24_open hk
  refine ⟨x, A, c, ?_, hl, hC, hw⟩
  congr 1
  exact Array.toList_inj.1 e
end Go.Proofs.Ytmmgdifjiapbmaa.G
