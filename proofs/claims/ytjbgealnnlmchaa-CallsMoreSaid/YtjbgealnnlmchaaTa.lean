/- slices.Compact of a rising list: the same numbers, each once. Plain Lean. -/
import Derived.Lib.SlicesCompact
set_option linter.unusedVariables false
set_option linter.unusedSimpArgs false
namespace Go.Proofs.Ytjbgealnnlmchaa.G
open Go.Lib

theorem upTo_rise (d : Array Int) (hd : ∀ j, 0 < j → j < d.size → d[j - 1]! ≤ d[j]!) : ∀ m, m ≤ d.size → (compactUpTo d m).Pairwise (· < ·) ∧ (∀ x, x ∈ compactUpTo d m ↔ ∃ j, j < m ∧ d[j]! = x) ∧ (∀ x ∈ compactUpTo d m, 0 < m → x ≤ d[m - 1]!) := by
  intro m
  induction m with
  | zero => exact fun _ => ⟨List.Pairwise.nil, fun x => ⟨fun h => (by cases h), fun ⟨j, h, _⟩ => absurd h (Nat.not_lt_zero _)⟩, fun x _ h => absurd h (by omega)⟩
  | succ m ih =>
    intro hm
    obtain ⟨h1, h2, h3⟩ := ih (by omega)
    rw [compactUpTo_succ]
    have hle : ∀ x ∈ compactUpTo d m, x ≤ d[m]! := fun x hx => by
      rcases Nat.eq_zero_or_pos m with h0 | h0
      · subst h0; cases hx
      · exact Int.le_trans (h3 x hx h0) (hd m h0 (by omega))
    cases hk : keeps d m with
    | true =>
      rw [if_pos rfl]
      have hlt : ∀ x ∈ compactUpTo d m, x < d[m]! := fun x hx => by
        rcases Nat.eq_zero_or_pos m with h0 | h0
        · subst h0; cases hx
        · have a1 := h3 x hx h0
          have a2 := hd m h0 (by omega)
          have a3 : d[m]! ≠ d[m - 1]! := by
            unfold keeps at hk
            have := of_decide_eq_true hk
            exact this.resolve_left (by omega)
          omega
      refine ⟨List.pairwise_append.2 ⟨h1, List.pairwise_singleton _ _, fun a ha b hb => by rw [List.mem_singleton] at hb; subst hb; exact hlt a ha⟩, fun x => ?_, fun x hx _ => ?_⟩
      · rw [List.mem_append, List.mem_singleton, h2 x]
        constructor
        · rintro (⟨j, a, b⟩ | rfl)
          · exact ⟨j, by omega, b⟩
          · exact ⟨m, by omega, rfl⟩
        · rintro ⟨j, a, b⟩
          by_cases hj : j = m
          · subst hj; exact .inr b.symm
          · exact .inl ⟨j, by omega, b⟩
      · rw [Nat.add_sub_cancel]
        rcases List.mem_append.1 hx with hx | hx
        · exact Int.le_of_lt (hlt x hx)
        · rw [List.mem_singleton] at hx; subst hx; exact Int.le_refl _
    | false =>
      rw [if_neg (by simp), List.append_nil]
      have hk2 : m ≠ 0 ∧ d[m]! = d[m - 1]! := by
        unfold keeps at hk
        have := of_decide_eq_false hk
        rw [not_or] at this
        exact ⟨this.1, Classical.not_not.1 this.2⟩
      refine ⟨h1, fun x => ?_, fun x hx _ => by rw [Nat.add_sub_cancel]; exact hle x hx⟩
      rw [h2 x]
      constructor
      · rintro ⟨j, a, b⟩; exact ⟨j, by omega, b⟩
      · rintro ⟨j, a, b⟩
        by_cases hj : j = m
        · subst hj; exact ⟨j - 1, by omega, hk2.2.symm.trans b⟩
        · exact ⟨j, by omega, b⟩
theorem compact_rise (zs : List Int) (h : zs.Pairwise (· ≤ ·)) : (compact zs).Pairwise (· < ·) ∧ ∀ x, x ∈ compact zs ↔ x ∈ zs := by
  have hz : ∀ j, j < zs.length → zs.toArray[j]! = zs.getD j 0 := fun j hj => by
    rw [List.getD_eq_getElem?_getD, List.getElem?_eq_getElem hj, getElem!_pos zs.toArray j (by simpa using hj)]
    simp
  have hd : ∀ j, 0 < j → j < zs.toArray.size → zs.toArray[j - 1]! ≤ zs.toArray[j]! := fun j h0 hj => by
    have hj' : j < zs.length := by simpa using hj
    rw [hz _ (by omega), hz _ hj', List.getD_eq_getElem?_getD, List.getD_eq_getElem?_getD, List.getElem?_eq_getElem (show j - 1 < zs.length by omega), List.getElem?_eq_getElem hj']
    exact List.pairwise_iff_getElem.1 h (j - 1) j (by omega) hj' (by omega)
  obtain ⟨h1, h2, _⟩ := upTo_rise zs.toArray hd zs.length (by simp)
  refine ⟨h1, fun x => (h2 x).trans ⟨?_, fun hx => ?_⟩⟩
  · rintro ⟨j, a, b⟩
    rw [← b, hz j a, List.getD_eq_getElem?_getD, List.getElem?_eq_getElem a]
    exact List.getElem_mem a
  · obtain ⟨j, hj⟩ := List.getElem?_of_mem hx
    obtain ⟨a, b⟩ := List.getElem?_eq_some_iff.1 hj
    refine ⟨j, a, ?_⟩
    rw [hz j a, List.getD_eq_getElem?_getD, hj]
    rfl
/-- A rising list is told by its numbers. -/
theorem riseI_unique : ∀ (r s : List Int), r.Pairwise (· < ·) → s.Pairwise (· < ·) → (∀ v, v ∈ r ↔ v ∈ s) → r = s
  | [], [], _, _, _ => rfl
  | [], y :: s, _, _, h => absurd ((h y).2 List.mem_cons_self) (by simp)
  | x :: r, [], _, _, h => absurd ((h x).1 List.mem_cons_self) (by simp)
  | x :: r, y :: s, hr, hs, h => by
    obtain ⟨r1, r2⟩ := List.pairwise_cons.1 hr
    obtain ⟨s1, s2⟩ := List.pairwise_cons.1 hs
    have hxy : x = y := by
      rcases List.mem_cons.1 ((h x).1 List.mem_cons_self) with e | e
      · exact e
      · rcases List.mem_cons.1 ((h y).2 List.mem_cons_self) with e2 | e2
        · exact e2.symm
        · have a1 := s1 x e
          have a2 := r1 y e2
          omega
    subst hxy
    rw [riseI_unique r s r2 s2 (fun v => by
      constructor
      · intro hv
        rcases List.mem_cons.1 ((h v).1 (List.mem_cons_of_mem _ hv)) with e | e
        · subst e; have := r1 _ hv; omega
        · exact e
      · intro hv
        rcases List.mem_cons.1 ((h v).2 (List.mem_cons_of_mem _ hv)) with e | e
        · subst e; have := s1 _ hv; omega
        · exact e)]
end Go.Proofs.Ytjbgealnnlmchaa.G
