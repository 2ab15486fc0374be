/- Arguments of the types []api.Edge, api.Edge and []int read as lists of edges, an edge, a list of numbers of no more than its bulk. No condition. -/
import Derived.Test.YtjbgealnnlmchaaRows
import Derived.Test.YtjbgealnnlmchaaGx0
import Derived.Test.YtjbgealnnlmchaaArgs
set_option linter.unusedVariables false
set_option linter.unusedSimpArgs false
namespace Go.Proofs.Ytjbgealnnlmchaa.G
open Go.RowKit Go.Proofs.Ytjbgealnnlmchaa.B Go.Proofs.YtjbgealnnlmchaaW.PrintWords Go.Proofs.YtjbgealnnlmchaaW.PrintLast Go.Proofs.YtjbgealnnlmchaaW.PrintMore

def wf41 (x : S41) : Prop := (Lit.int .i64 x.f0).wf = true ∧ (Lit.int .i64 x.f1).wf = true ∧ (Lit.int .i64 x.f2).wf = true
theorem opens41 (n : Nat) : Opens Try.prog (n + 1) 41 k41 wf41 := by
  have hF := OpensF.cons (f := { name := "From", type := 3, offset := 0, embedded := false, tag := "", pkgPath := "", byteOffset := 0 }) (by kernel_rfl) (Opens.int Try.underlying3 n) (OpensF.cons (f := { name := "Pc", type := 3, offset := 1, embedded := false, tag := "", pkgPath := "", byteOffset := 8 }) (by kernel_rfl) (Opens.int Try.underlying3 n) (OpensF.one (f := { name := "To", type := 3, offset := 2, embedded := false, tag := "", pkgPath := "", byteOffset := 16 }) (by kernel_rfl) (Opens.int Try.underlying3 n)))
  have h := Opens.struct (f := fun x : S41 => (x.f0, x.f1, x.f2)) (fun y => (⟨y.1, y.2.1, y.2.2⟩ : S41)) (fun _ => rfl) Try.underlying41 (by kernel_rfl) hF
  refine Opens.imp h ?_
  rintro b ⟨a, rfl, h0, h1, h2⟩
  exact ⟨h0, h1, h2⟩
theorem open22 {H : Type} {enc : TypeId × Value → H} {W : World} {base : Nat} {spare : Nat → Bool} {held : Bool} {v : Value} {d : DataW H} {p : List MemPlace} (hv : Value.okWide Try.prog W .any base 22 v) (h : DataW.Trod enc Try.prog W 0 spare held 22 v d p) :
    ∃ (x : List S41) (A : Option Addr) (c : Nat), v = .slice A x.length c ∧ x.length ≤ c ∧ Kd.C k41 W A x.length x ∧ ∀ y ∈ x, wf41 y := by
  have hsl : ∃ A l c, v = .slice A l c := by
    unfold Value.okWide at hv
    rw [Try.underlying22] at hv
    cases v <;> first | exact ⟨_, _, _, rfl⟩ | (exfalso; simp [Cell.okWide, Cell.ok, Try.underlying22] at hv)
  obtain ⟨A, l, c, rfl⟩ := hsl
  obtain ⟨fuel, hf⟩ := h
  have hO : Opens Try.prog (fuel + 1 + 1) 22 (Kd.slice 41 k41) (fun l => ∀ x ∈ l, wf41 x) := Opens.slice Try.underlying22 (by kernel_rfl) (opens41 fuel)
  obtain ⟨x, ⟨A', c', e, hl, hC⟩, hw⟩ := hO.out enc W 0 spare held fuel _ _ (by omega) hf
  have he : [Value.slice A l c] = [Value.slice A' x.length c'] := e
  injection he with he _
  injection he with h1 h2 h3
  subst h1 h2 h3
  exact ⟨x, _, _, rfl, hl, hC, hw⟩
theorem open41 {H : Type} {enc : TypeId × Value → H} {W : World} {base : Nat} {spare : Nat → Bool} {held : Bool} {v : Value} {d : DataW H} {p : List MemPlace} (hv : Value.okWide Try.prog W .any base 41 v) (h : DataW.Trod enc Try.prog W 0 spare held 41 v d p) :
    ∃ x : S41, v = .agg #[.int .i64 x.f0, .int .i64 x.f1, .int .i64 x.f2] ∧ wf41 x := by
  unfold Value.okWide at hv
  rw [Try.underlying41] at hv
  obtain ⟨cs, rfl, _⟩ := hv
  obtain ⟨fuel, hf⟩ := h
  obtain ⟨x, hK, hw⟩ := (opens41 fuel).out enc W 0 spare held fuel _ _ (by omega) hf
  refine ⟨x, ?_, hw⟩
  congr 1
  exact Array.toList_inj.1 (k41_open hK)
theorem bulk_len {H : Type} : ∀ E : List (DataW H), (∀ y ∈ E, 1 ≤ Rows.uptoBulk y) → E.length ≤ Rows.uptoBulkAll E
  | [], _ => Nat.zero_le _
  | y :: E, h => by
    have h1 := h y List.mem_cons_self
    have h2 := bulk_len E (fun z hz => h z (List.mem_cons_of_mem _ hz))
    simp only [Rows.uptoBulkAll, List.length_cons]
    omega
theorem bulk_pos {H : Type} (y : DataW H) : 1 ≤ Rows.uptoBulk y := by
  unfold Rows.uptoBulk
  split <;> omega
theorem open35 {H : Type} {enc : TypeId × Value → H} {W : World} {base : Nat} {spare : Nat → Bool} {held : Bool} {v : Value} {d : DataW H} {p : List MemPlace} (hv : Value.okWide Try.prog W .any base 35 v) (h : DataW.Trod enc Try.prog W 0 spare held 35 v d p) :
    ∃ (x : List Int) (A : Option Addr) (c : Nat), v = .slice A x.length c ∧ x.length ≤ c ∧ Kd.C (Kd.int .i64) W A x.length x ∧ x.length ≤ Rows.uptoBulk d := by
  have hsl : ∃ A l c, v = .slice A l c := by
    unfold Value.okWide at hv
    rw [Try.underlying35] at hv
    cases v <;> first | exact ⟨_, _, _, rfl⟩ | (exfalso; simp [Cell.okWide, Cell.ok, Try.underlying35] at hv)
  obtain ⟨A, l, c, rfl⟩ := hsl
  obtain ⟨fuel, hf⟩ := h
  have hO : Opens Try.prog (fuel + 1) 35 (Kd.slice 3 (Kd.int .i64)) (fun l => ∀ x ∈ l, (Lit.int .i64 x).wf = true) := Opens.slice Try.underlying35 (by kernel_rfl) (Opens.int Try.underlying3 fuel)
  obtain ⟨x, ⟨A', c', e, hl, hC⟩, _⟩ := hO.out enc W 0 spare held fuel _ _ (by omega) hf
  have he : [Value.slice A l c] = [Value.slice A' x.length c'] := e
  injection he with he _
  injection he with h1 h2 h3
  subst h1 h2 h3
  refine ⟨x, _, _, rfl, hl, hC, ?_⟩
  rcases DataW.trod_slice Try.underlying35 hf with ⟨he, _⟩ | ⟨a, len, cap, elems, rest, m, _, he, hx, hb, hl, hm, hlen, hel, _⟩
  · injection he with he _
    injection he with _ h2 _
    omega
  · injection he with he _
    injection he with _ h2 _
    have hd := (Prod.mk.inj hx).1
    subst hd
    have := bulk_len (elems.map (fun x => x.fst)) (fun y _ => bulk_pos y)
    rw [List.length_map] at this
    simp only [Rows.uptoBulk]
    omega
end Go.Proofs.Ytjbgealnnlmchaa.G
