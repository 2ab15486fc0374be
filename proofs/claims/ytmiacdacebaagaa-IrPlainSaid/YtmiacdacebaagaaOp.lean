/- An argument of type api.Insn reads as an instruction; its list is no longer than its weight allows. No condition. -/
import Derived.Test.YtmiacdacebaagaaGx0
import Derived.Test.YtmiacdacebaagaaArgs
import Derived.Test.YtmiacdacebaagaaWSized
set_option linter.unusedVariables false
set_option linter.unusedSimpArgs false
namespace Go.Proofs.Ytmiacdacebaagaa.G
open Go.RowKit Go.Proofs.Ytmiacdacebaagaa.B Go.Proofs.YtmiacdacebaagaaW.PrintWords Go.Proofs.YtmiacdacebaagaaW.PrintLast Go.Proofs.YtmiacdacebaagaaW.PrintMore

structure I24 where
  f0 : Int
  f1 : Int
  f2 : Int
  f3 : Int
  f4 : Int
  f5 : Int
  f6 : ByteArray
  f7 : List Int
def tup (x : I24) : Int × Int × Int × Int × Int × Int × ByteArray × List Int := (x.f0, x.f1, x.f2, x.f3, x.f4, x.f5, x.f6, x.f7)
def wf24 (x : I24) : Prop := (Lit.int .i64 x.f0).wf = true ∧ (Lit.int .i64 x.f1).wf = true ∧ (Lit.int .i64 x.f2).wf = true ∧ (Lit.int .i64 x.f3).wf = true ∧ (Lit.int .i64 x.f4).wf = true ∧ (Lit.int .i64 x.f5).wf = true
theorem opens24 (n : Nat) : Opens Try.prog (n + 3) 24 (Kd.iso (Kd.pair (Kd.int .i64) (Kd.pair (Kd.int .i64) (Kd.pair (Kd.int .i64) (Kd.pair (Kd.int .i64) (Kd.pair (Kd.int .i64) (Kd.pair (Kd.int .i64) (Kd.pair Kd.string (Kd.slice 3 (Kd.int .i64))))))))) tup) wf24 := by
  have hA : Opens Try.prog (n + 2) 22 (Kd.slice 3 (Kd.int .i64)) (fun l => ∀ x ∈ l, (Lit.int .i64 x).wf = true) := Opens.slice Try.underlying22 (by kernel_rfl) (Opens.int Try.underlying3 (n + 1))
  have hF := OpensF.cons (f := { name := "Op", type := 3, offset := 0, embedded := false, tag := "", pkgPath := "", byteOffset := 0 }) (by kernel_rfl) (Opens.int Try.underlying3 (n + 2)) (OpensF.cons (f := { name := "A", type := 3, offset := 1, embedded := false, tag := "", pkgPath := "", byteOffset := 8 }) (by kernel_rfl) (Opens.int Try.underlying3 (n + 2)) (OpensF.cons (f := { name := "B", type := 3, offset := 2, embedded := false, tag := "", pkgPath := "", byteOffset := 16 }) (by kernel_rfl) (Opens.int Try.underlying3 (n + 2)) (OpensF.cons (f := { name := "C", type := 3, offset := 3, embedded := false, tag := "", pkgPath := "", byteOffset := 24 }) (by kernel_rfl) (Opens.int Try.underlying3 (n + 2)) (OpensF.cons (f := { name := "W", type := 3, offset := 4, embedded := false, tag := "", pkgPath := "", byteOffset := 32 }) (by kernel_rfl) (Opens.int Try.underlying3 (n + 2)) (OpensF.cons (f := { name := "N", type := 2, offset := 5, embedded := false, tag := "", pkgPath := "", byteOffset := 40 }) (by kernel_rfl) (Opens.int Try.underlying2 (n + 2)) (OpensF.cons (f := { name := "Sign", type := 9, offset := 6, embedded := false, tag := "", pkgPath := "", byteOffset := 48 }) (by kernel_rfl) (Opens.string Try.underlying9 (n + 2)) (OpensF.one (f := { name := "Args", type := 22, offset := 7, embedded := false, tag := "", pkgPath := "", byteOffset := 64 }) (by kernel_rfl) hA)))))))
  have h := Opens.struct (f := tup) (fun y => ⟨y.1, y.2.1, y.2.2.1, y.2.2.2.1, y.2.2.2.2.1, y.2.2.2.2.2.1, y.2.2.2.2.2.2.1, y.2.2.2.2.2.2.2⟩) (fun _ => rfl) Try.underlying24 (by kernel_rfl) hF
  refine Opens.imp h ?_
  rintro b ⟨a, rfl, h0, h1, h2, h3, h4, h5, _⟩
  exact ⟨h0, h1, h2, h3, h4, h5⟩
theorem open24 {H : Type} {enc : TypeId × Value → H} {W : World} {base : Nat} {spare : Nat → Bool} {held : Bool} {v : Value} {d : DataW H} {p : List MemPlace} (hv : Value.okWide Try.prog W .any base 24 v) (h : DataW.Trod enc Try.prog W 0 spare held 24 v d p) :
    ∃ (x : I24) (A : Option Addr) (c : Nat), v = .agg #[.int .i64 x.f0, .int .i64 x.f1, .int .i64 x.f2, .int .i64 x.f3, .int .i64 x.f4, .int .i64 x.f5, .string x.f6, .slice A x.f7.length c] ∧ x.f7.length ≤ c ∧ Kd.C (Kd.int .i64) W A x.f7.length x.f7 ∧ wf24 x := by
  unfold Value.okWide at hv
  rw [Try.underlying24] at hv
  obtain ⟨cs, rfl, _⟩ := hv
  obtain ⟨fuel, hf⟩ := h
  obtain ⟨x, hK, hw⟩ := (opens24 fuel).out enc W 0 spare held fuel _ _ (by omega) hf
  obtain ⟨_, _, e0, rfl, _, _, rfl, rfl, _, _, rfl, rfl, _, _, rfl, rfl, _, _, rfl, rfl, _, _, rfl, rfl, _, _, rfl, rfl, A, c, rfl, hl, hC⟩ := hK
  refine ⟨x, A, c, ?_, hl, hC, hw⟩
  congr 1
  exact Array.toList_inj.1 e0
theorem sized24 {H : Type} {enc : TypeId × Value → H} {W : World} {base : Nat} {spare : Nat → Bool} {held : Bool} {a b c e f g s : Value} {A : Option Addr} {len cap : Nat} {d : DataW H} {p : List MemPlace} {ts : List TypeId} {ds : List (DataW H)} {j : Nat}
    (hsz : (DataW.weightsEach Try.prog ts ds).all (· ≤ reachBytes) = true) (ht : ts[j]? = some 24) (hd : ds[j]? = some d)
    (h : DataW.Trod enc Try.prog W base spare held 24 (.agg #[a, b, c, e, f, g, s, .slice A len cap]) d p) : len * 8 ≤ 140737488351232 := by
  obtain ⟨fuel, hf⟩ := h
  obtain ⟨xs, n, _, hx, _, hlen, hfs⟩ := DataW.trod_struct Try.underlying24 hf
  have hd1 := (Prod.mk.inj hx).1
  subst hd1
  have h7 := hfs 7 { name := "Args", type := 22, offset := 7, embedded := false, tag := "", pkgPath := "", byteOffset := 64 } rfl
  have hl : 7 < xs.length := by rw [hlen]; decide
  rw [List.getElem?_eq_getElem hl] at h7
  have hs : (DataW.weightsEach Try.prog [3, 3, 3, 3, 3, 2, 9, 22] (xs.map (·.1))).all (· ≤ reachBytes) = true := by
    refine List.all_eq_true.2 (fun k hk => ?_)
    refine List.all_eq_true.1 hsz k (DataW.weights_mem_each ht hd k ?_)
    simp only [DataW.weights, Try.underlying24]
    exact hk
  exact sized_ints (enc := enc) (W := W) (base := base) (spare := spare) (held := held) (j := 7) (t := 22) (e := 3) (k := .i64) (a := A) (cap := cap) (d := (xs[7]'hl).1) (ps := (xs[7]'hl).2) hs rfl (by rw [List.getElem?_map, List.getElem?_eq_getElem hl]; rfl) Try.underlying22 Try.underlying3 (by kernel_rfl) (by kernel_rfl) ⟨n, h7⟩
end Go.Proofs.Ytmiacdacebaagaa.G
