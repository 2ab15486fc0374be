/- An argument of type []api.Token reads as a list of tokens, of bulk no more than what is read. No condition. -/
import Derived.Test.YtikfgdkplgfiiaaRows
import Derived.Test.YtikfgdkplgfiiaaNg
import Derived.Test.YtikfgdkplgfiiaaArgs
set_option linter.unusedVariables false
set_option linter.unusedSimpArgs false
namespace Go.Proofs.Ytikfgdkplgfiiaa.G
open Go.RowKit Go.Proofs.Ytikfgdkplgfiiaa.B Go.Proofs.YtikfgdkplgfiiaaW.PrintWords Go.Proofs.YtikfgdkplgfiiaaW.PrintLast Go.Proofs.YtikfgdkplgfiiaaW.PrintMore

def sumS : List S32 → Nat
  | [] => 0
  | x :: r => x.f2.size + 1 + sumS r
theorem sum_le {H : Type} : ∀ (L : List S32) (E : List (DataW H)), L.length = E.length → (∀ (i : Nat) a y, L[i]? = some a → E[i]? = some y → a.f2.size + 1 ≤ Rows.uptoBulk y) → sumS L ≤ Rows.uptoBulkAll E := by
  intro L
  induction L with
  | nil => intro E _ _; exact Nat.zero_le _
  | cons x L ih =>
    intro E hl h
    cases E with
    | nil => simp at hl
    | cons y E =>
      have h1 := h 0 x y rfl rfl
      have h2 := ih E (by simpa using hl) (fun i a y ha hy => h (i + 1) a y ha hy)
      simp only [sumS, Rows.uptoBulkAll]
      omega
theorem sum_len : ∀ L : List S32, L.length ≤ sumS L := by
  intro L
  induction L with
  | nil => exact Nat.zero_le _
  | cons x L ih => simp only [sumS, List.length_cons]; omega
theorem sum_join : ∀ L : List S32, (joinS ((textsS L).map (·.toList))).length ≤ sumS L := by
  intro L
  induction L with
  | nil => exact Nat.zero_le _
  | cons x L ih =>
    have hc : (textsS (x :: L)).map (·.toList) = x.f2.toList :: (textsS L).map (·.toList) := rfl
    have hx : x.f2.toList.length = x.f2.size := tl_len _
    cases L with
    | nil =>
      show x.f2.toList.length ≤ x.f2.size + 1 + 0
      omega
    | cons y L =>
      show (x.f2.toList ++ 32 :: joinS ((textsS (y :: L)).map (·.toList))).length ≤ x.f2.size + 1 + sumS (y :: L)
      rw [List.length_append, List.length_cons]
      omega
theorem el32 {H : Type} {enc : TypeId × Value → H} {w : World} {base : Nat} {spare : Nat → Bool} {held : Bool} {fuel : Nat} {cs : List Value} {x : DataW H × List MemPlace} (h : DataW.trod enc Try.prog w base spare held fuel 32 cs = some x) :
    ∃ a : S32, k32.K w a cs ∧ a.f2.size + 1 ≤ Rows.uptoBulk x.1 := by
  obtain ⟨xs, n, _, rfl, hcs, hxs, hf⟩ := DataW.trod_struct Try.underlying32 h
  have h4 : Try.prog.cellsOf 32 = 4 := by kernel_rfl
  have c3 : Try.prog.cellsOf 3 = 1 := by kernel_rfl
  have c2 : Try.prog.cellsOf 2 = 1 := by kernel_rfl
  have c9 : Try.prog.cellsOf 9 = 1 := by kernel_rfl
  rw [h4] at hcs
  obtain ⟨a0, a1, a2, a3, rfl⟩ : ∃ a b c d, cs = [a, b, c, d] := by
    match cs, hcs with
    | [a, b, c, d], _ => exact ⟨a, b, c, d, rfl⟩
  obtain ⟨x0, x1, x2, x3, rfl⟩ : ∃ a b c d, xs = [a, b, c, d] := by
    match xs, hxs with
    | [a, b, c, d], _ => exact ⟨a, b, c, d, rfl⟩
  have f0 : DataW.trod enc Try.prog w base spare held n 3 [a0] = some x0 := by have := hf 0 { name := "Kind", type := 3, offset := 0, embedded := false, tag := "", pkgPath := "", byteOffset := 0 } rfl; dsimp only at this; rw [c3] at this; exact this
  have f1 : DataW.trod enc Try.prog w base spare held n 3 [a1] = some x1 := by have := hf 1 { name := "At", type := 3, offset := 1, embedded := false, tag := "", pkgPath := "", byteOffset := 8 } rfl; dsimp only at this; rw [c3] at this; exact this
  have f2 : DataW.trod enc Try.prog w base spare held n 9 [a2] = some x2 := by have := hf 2 { name := "Text", type := 9, offset := 2, embedded := false, tag := "", pkgPath := "", byteOffset := 16 } rfl; dsimp only at this; rw [c9] at this; exact this
  have f3 : DataW.trod enc Try.prog w base spare held n 2 [a3] = some x3 := by have := hf 3 { name := "N", type := 2, offset := 3, embedded := false, tag := "", pkgPath := "", byteOffset := 32 } rfl; dsimp only at this; rw [c2] at this; exact this
  obtain ⟨z0, e0, _, _⟩ := DataW.trod_int Try.underlying3 f0
  obtain ⟨z1, e1, _, _⟩ := DataW.trod_int Try.underlying3 f1
  obtain ⟨z2, e2, r2, _⟩ := DataW.trod_string Try.underlying9 f2
  obtain ⟨z3, e3, _, _⟩ := DataW.trod_int Try.underlying2 f3
  injection e0 with e0
  injection e1 with e1
  injection e2 with e2
  injection e3 with e3
  subst e0 e1 e2 e3
  refine ⟨⟨z0, z1, z2, z3⟩, k32.K_of_M (k32_mkM w 0 (fun _ => True) _), ?_⟩
  have hz : z2.data.toList.length = z2.size := by rw [Array.length_toList]; rfl
  simp only [List.map_cons, List.map_nil, Rows.uptoBulk, Rows.uptoBulkAll, r2, hz]
  omega
theorem open23 {H : Type} {enc : TypeId × Value → H} {W : World} {base : Nat} {spare : Nat → Bool} {held : Bool} {v : Value} {d : DataW H} {p : List MemPlace} (hv : Value.okWide Try.prog W .any base 23 v) (h : DataW.Trod enc Try.prog W 0 spare held 23 v d p) :
    ∃ (L : List S32) (A : Option Addr) (c : Nat), v = .slice A L.length c ∧ L.length ≤ c ∧ Kd.C k32 W A L.length L ∧ sumS L + 1 ≤ Rows.uptoBulk d := by
  have hsl : ∃ A l c, v = .slice A l c := by
    unfold Value.okWide at hv
    rw [Try.underlying23] at hv
    cases v <;> first | exact ⟨_, _, _, rfl⟩ | (exfalso; simp [Cell.okWide, Cell.ok, Try.underlying23] at hv)
  obtain ⟨A, l, c, rfl⟩ := hsl
  obtain ⟨fuel, hf⟩ := h
  have hsz : Try.prog.cellsOf 32 = 4 := by kernel_rfl
  rcases DataW.trod_slice Try.underlying23 hf with ⟨he, hx⟩ | ⟨a, len, cap, elems, rest, m, _, he, hx, hb, hl, hm, hlen, hel, _⟩
  · injection he with he _
    injection he with h1 h2 h3
    subst h1 h2 h3
    have := (Prod.mk.inj hx).1
    subst this
    exact ⟨[], none, 0, rfl, Nat.le_refl _, Kd.C_nil k32 W, by simp [sumS, Rows.uptoBulk]⟩
  · injection he with he _
    injection he with h1 h2 h3
    subst h1 h2 h3
    have hd := (Prod.mk.inj hx).1
    subst hd
    have h1 : ∀ i, i < l → ∃ a' : S32, (∀ y, elems[i]? = some y → a'.f2.size + 1 ≤ Rows.uptoBulk y.1) ∧ ∃ c : List Value, c.length = 4 ∧ k32.K W a' c ∧ ∀ j u, c[j]? = some u → W.cell? (a.add (i * 4 + j)) = some u := by
      intro i hi
      have he := hel i hi
      rw [List.getElem?_eq_getElem (by omega)] at he
      obtain ⟨c, hc, ht2⟩ := Option.bind_eq_some_iff.1 he
      obtain ⟨a', hK, hw⟩ := el32 ht2
      rw [hsz] at hc
      obtain ⟨_, hcl, hcc⟩ := World.cells?_some hc
      refine ⟨a', fun y hy => ?_, c, hcl, hK, fun j u hj => ?_⟩
      · rw [List.getElem?_eq_getElem (by omega)] at hy
        injection hy with hy
        rw [← hy]
        exact hw
      · have hjl : j < 4 := by
          have := (List.getElem?_eq_some_iff.1 hj).1
          omega
        have := hcc j hjl
        rw [Go.Proofs.Ytikfgdkplgfiiaa.B.add_add] at this
        rw [this, hj]
    obtain ⟨L, hll, hp⟩ := list_of (p := fun i a' => (∀ y, elems[i]? = some y → a'.f2.size + 1 ≤ Rows.uptoBulk y.1) ∧ ∃ c : List Value, c.length = 4 ∧ k32.K W a' c ∧ ∀ j u, c[j]? = some u → W.cell? (a.add (i * 4 + j)) = some u) l h1
    refine ⟨L, some a, c, by rw [hll], by omega, ⟨rfl, by rw [hll]; unfold maxLen at hm; omega, fun _ => ⟨a, rfl, fun j p hj => ?_⟩⟩, ?_⟩
    · obtain ⟨_, c, h2, h3, h4⟩ := hp j p hj
      exact ⟨c, h2, h3, h4⟩
    · have := sum_le L (elems.map (fun x => x.fst)) (by rw [List.length_map]; omega) (fun i a y ha hy => by
        rw [List.getElem?_map] at hy
        obtain ⟨z, hz, rfl⟩ := Option.map_eq_some_iff.1 hy
        exact (hp i a ha).1 z hz)
      simp only [Rows.uptoBulk]
      omega
end Go.Proofs.Ytikfgdkplgfiiaa.G
