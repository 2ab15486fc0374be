/- Plain parts of the laws on two sets. Plain Lean, no program. -/
import Derived.Test.YtmcecmcnbhhniaaPb
namespace Go.Proofs.Ytmcecmcnbhhniaa.G

theorem filter_both (p : Int → Bool) (l : List Int) : l.length = (l.filter p).length + (l.filter (fun x => !p x)).length := by
  induction l with
  | nil => rfl
  | cons x l ih =>
    cases h : p x with
    | true => rw [List.filter_cons_of_pos h, List.filter_cons_of_neg (by simp [h])]; simp only [List.length_cons]; omega
    | false => rw [List.filter_cons_of_neg (by simp [h]), List.filter_cons_of_pos (by simp [h])]; simp only [List.length_cons]; omega
/-- Both together are what one has without the other, and the other. -/
theorem both_len {s t : List Sp} (hs : WF s) (ht : WF t) : lenS (unionS s t).1 = lenS (minusS s t) + lenS t := by
  obtain ⟨u1, u2, _⟩ := union_spec hs ht
  obtain ⟨m1, m2⟩ := minus_spec hs ht
  rw [← listS_len u1, ← listS_len m1, ← listS_len ht, filter_both (fun n => decide (n ∈ listS t)) (listS (unionS s t).1)]
  have h1 : (listS (unionS s t).1).filter (fun n => decide (n ∈ listS t)) = listS t := up_only ((listS_up u1).filter _) (listS_up ht) (fun n => by
    rw [List.mem_filter, mem_listS (unionS s t).1, u2 n]
    simp only [decide_eq_true_eq, mem_listS]
    exact ⟨fun h => h.2, fun h => ⟨.inr h, h⟩⟩)
  have h2 : (listS (unionS s t).1).filter (fun n => !decide (n ∈ listS t)) = listS (minusS s t) := up_only ((listS_up u1).filter _) (listS_up m1) (fun n => by
    rw [List.mem_filter, mem_listS (unionS s t).1, u2 n, mem_listS (minusS s t), m2 n]
    simp only [Bool.not_eq_true', decide_eq_false_iff_not, mem_listS]
    exact ⟨fun h => ⟨h.1.resolve_right h.2, h.2⟩, fun h => ⟨.inl h.1, h.2⟩⟩)
  rw [h1, h2]
  omega
/-- Either order is the same. -/
theorem union_comm {s t : List Sp} (hs : WF s) (ht : WF t) : (unionS s t).1 = (unionS t s).1 :=
  (union_spec hs ht).1.only (union_spec ht hs).1 (fun n => by rw [(union_spec hs ht).2.1 n, (union_spec ht hs).2.1 n]; exact Or.comm)
theorem minus_union {s t : List Sp} (hs : WF s) (ht : WF t) : (unionS (minusS s t) t).1 = (unionS s t).1 := by
  obtain ⟨m1, m2⟩ := minus_spec hs ht
  refine (union_spec m1 ht).1.only (union_spec hs ht).1 (fun n => ?_)
  rw [(union_spec m1 ht).2.1 n, m2 n, (union_spec hs ht).2.1 n]
  constructor
  · rintro (h | h)
    · exact .inl h.1
    · exact .inr h
  · rintro (h | h)
    · by_cases ht' : inS t n
      · exact .inr ht'
      · exact .inl ⟨h, ht'⟩
    · exact .inr h
theorem union_again {s t : List Sp} (hs : WF s) (ht : WF t) : (unionS (unionS s t).1 (unionS t s).1).2 = false := by
  have hu := (union_spec hs ht).1
  have hv := (union_spec ht hs).1
  rw [Bool.eq_false_iff]
  intro h
  obtain ⟨n, h1, h2⟩ := (union_spec hu hv).2.2.1 h
  rw [← union_comm hs ht] at h1
  exact h2 h1
theorem minus_again {s t : List Sp} (hs : WF s) (ht : WF t) : minusS (minusS s t) t = minusS s t := by
  obtain ⟨m1, m2⟩ := minus_spec hs ht
  refine (minus_spec m1 ht).1.only m1 (fun n => ?_)
  rw [(minus_spec m1 ht).2 n, m2 n]
  exact ⟨fun h => h.1, fun h => ⟨h, h.2⟩⟩
theorem minus_self {s : List Sp} (hs : WF s) : minusS s s = [] :=
  (minus_spec hs hs).1.only WF.nil (fun n => by rw [(minus_spec hs hs).2 n]; exact ⟨fun h => absurd h.1 h.2, fun h => absurd h (inS_nil n)⟩)
theorem minus_nil {s : List Sp} (hs : WF s) : minusS s [] = s :=
  (minus_spec hs WF.nil).1.only hs (fun n => by rw [(minus_spec hs WF.nil).2 n]; exact ⟨fun h => h.1, fun h => ⟨h, inS_nil n⟩⟩)
theorem minus_has {s t : List Sp} (hs : WF s) (ht : WF t) (n : Int) : hasS (minusS s t) n = (hasS s n && !hasS t n) := by
  rw [Bool.eq_iff_iff, hasS_iff (minus_spec hs ht).1, (minus_spec hs ht).2 n, Bool.and_eq_true, hasS_iff hs, Bool.not_eq_true', hasS_false ht]
/-- The ends that Spans tells, by their places. -/
theorem spans_get {l : List Sp} {j : Nat} {x : Sp} (h : l[j]? = some x) : (spansS l)[2 * j]? = some x.lo ∧ (spansS l)[2 * j + 1]? = some x.hi := by
  induction l generalizing j with
  | nil => simp at h
  | cons y l ih =>
    have hc : spansS (y :: l) = [y.lo, y.hi] ++ spansS l := by simp [spansS]
    rw [hc]
    cases j with
    | zero =>
      obtain rfl : y = x := by simpa using h
      exact ⟨rfl, rfl⟩
    | succ j =>
      have := ih (j := j) (by simpa using h)
      rw [List.getElem?_append_right (by simp; omega), List.getElem?_append_right (by simp; omega)]
      rw [show 2 * (j + 1) - [y.lo, y.hi].length = 2 * j by simp; omega, show 2 * (j + 1) + 1 - [y.lo, y.hi].length = 2 * j + 1 by simp; omega]
      exact this
theorem spans_length (l : List Sp) : (spansS l).length = 2 * l.length := by
  induction l with
  | nil => rfl
  | cons x l ih => simp only [spansS, List.flatMap_cons, List.length_append, List.length_cons, List.length_nil] at ih ⊢; omega
theorem has_take {l : List Sp} (hw : WF l) {j : Nat} {x : Sp} (h : l[j]? = some x) (n : Int) : hasS (l.take (j + 1)) n = (hasS (l.take j) n || (decide (x.lo ≤ n) && decide (n ≤ x.hi))) := by
  have hw1 : ∀ k, WF (l.take k) := fun k => (show WF (l.take k ++ l.drop k) by rw [List.take_append_drop]; exact hw).left
  rw [Bool.eq_iff_iff, hasS_iff (hw1 _), Bool.or_eq_true, hasS_iff (hw1 _), List.take_add_one, h]
  rw [inS_append]
  simp only [Option.toList, inS_cons, Bool.and_eq_true, decide_eq_true_eq]
  exact or_congr Iff.rfl ⟨fun h => h.elim id (fun h => absurd h (inS_nil n)), .inl⟩
/-- A span lies behind the one ahead of it. -/
theorem apart_at {l : List Sp} (hw : WF l) {j : Nat} {x y : Sp} (hx : l[j]? = some x) (hy : l[j + 1]? = some y) : x.hi + 1 < y.lo := by
  obtain ⟨h1, e1⟩ := List.getElem?_eq_some_iff.1 hx
  obtain ⟨h2, e2⟩ := List.getElem?_eq_some_iff.1 hy
  have := List.pairwise_iff_getElem.1 hw.apart j (j + 1) h1 h2 (by omega)
  rwa [e1, e2] at this
end Go.Proofs.Ytmcecmcnbhhniaa.G
