/- The law LexBack, plain. -/
import Derived.Test.YtikfgdkplgfiiaaNg
namespace Go.Proofs.Ytikfgdkplgfiiaa.G
open Go.RowKit Go.Proofs.Ytikfgdkplgfiiaa.B Go.Proofs.YtikfgdkplgfiiaaW.PrintWords Go.Proofs.YtikfgdkplgfiiaaW.PrintLast Go.Proofs.YtikfgdkplgfiiaaW.PrintMore

theorem joinS_len (m : Nat) : ∀ xs : List L8, (∀ x ∈ xs, x.length ≤ m) → (joinS xs).length ≤ xs.length * (m + 1) := by
  intro xs
  induction xs with
  | nil => intro _; exact Nat.zero_le _
  | cons x xs ih =>
    intro h
    have hx := h x (List.mem_cons_self ..)
    have h2 := ih (fun y hy => h y (List.mem_cons_of_mem _ hy))
    rw [List.length_cons, Nat.succ_mul]
    cases xs with
    | nil => simp only [joinS]; omega
    | cons y r =>
      simp only [joinS, List.length_append, List.length_cons] at h2 ⊢
      omega
theorem texts_toks {s : L8} (h1 : ¬ 20000 < s.length) (h2 : (toks s).2 = none) : (textsS (lexS s).1).map (·.toList) = ((toks s).1.map At.tk).map Tk.text := by
  rw [lexS_ok h1 h2]
  unfold textsS
  simp only [List.map_map]
  apply List.map_congr_left
  intro z _
  exact toB_list _
theorem back_plain (s : L8) (h0 : (lexS s).2.2 = 0) : (joinS ((textsS (lexS s).1).map (·.toList))).length ≤ 140737488355328 ∧
    (20000 < (joinS ((textsS (lexS s).1).map (·.toList))).length → lexS (joinS ((textsS (lexS s).1).map (·.toList))) = ([], 0, 5)) ∧
    (¬ 20000 < (joinS ((textsS (lexS s).1).map (·.toList))).length → (lexS (joinS ((textsS (lexS s).1).map (·.toList)))).2 = (0, 0) ∧ (lexS (joinS ((textsS (lexS s).1).map (·.toList)))).1.length = (lexS s).1.length ∧
      ∀ (i : Nat) (x y : S32), (lexS s).1[i]? = some x → (lexS (joinS ((textsS (lexS s).1).map (·.toList)))).1[i]? = some y → Alike false x y) := by
  obtain ⟨h1, h2⟩ := lexS_zero h0
  rw [texts_toks h1 h2]
  have hare : ∀ x ∈ (toks s).1.map At.tk, IsTok x := by
    intro x hx
    obtain ⟨z, hz, rfl⟩ := List.mem_map.1 hx
    exact toks_are s z hz
  obtain ⟨j1, j2⟩ := join_toks _ hare
  refine ⟨?_, ?_, ?_⟩
  · have hb := joinS_len 20000 (((toks s).1.map At.tk).map Tk.text) (by
      intro x hx
      obtain ⟨y, hy, rfl⟩ := List.mem_map.1 hx
      obtain ⟨z, hz, rfl⟩ := List.mem_map.1 hy
      have := toks_texts s z hz
      omega)
    rw [List.length_map, List.length_map] at hb
    have := toks_len s
    omega
  · intro hb
    unfold lexS
    rw [if_pos hb]
  · intro hb
    rw [lexS_ok hb j1, lexS_ok h1 h2]
    generalize joinS (((toks s).1.map At.tk).map Tk.text) = J at j1 j2 hb
    refine ⟨rfl, ?_, ?_⟩
    · have := congrArg List.length j2
      simp only [List.length_map] at this ⊢
      exact this
    · intro i x y hx hy
      simp only [List.getElem?_map, Option.map_eq_some_iff] at hx hy
      obtain ⟨zx, hzx, rfl⟩ := hx
      obtain ⟨zy, hzy, rfl⟩ := hy
      have := congrArg (fun l : List Tk => l[i]?) j2
      simp only [List.getElem?_map, hzx, hzy, Option.map_some] at this
      injection this with this
      unfold Alike atS32
      rw [this]
      simp
theorem lexS_none {s : L8} (h : (lexS s).2.2 ≠ 0) : (lexS s).1 = [] := by
  by_cases hb : 20000 < s.length
  · unfold lexS; rw [if_pos hb]
  · cases he : (toks s).2 with
    | some re => obtain ⟨r, e⟩ := re; rw [lexS_bad hb he]
    | none => rw [lexS_ok hb he] at h; simp at h
end Go.Proofs.Ytikfgdkplgfiiaa.G
