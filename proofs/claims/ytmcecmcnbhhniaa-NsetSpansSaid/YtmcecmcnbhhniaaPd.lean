/- The reference's functions on rising lists, against sets as spans. Plain Lean. -/
import Derived.Test.YtmcecmcnbhhniaaPb
import Derived.Test.YtmcecmcnbhhniaaGx3
set_option linter.unusedVariables false
set_option linter.unusedSimpArgs false
namespace Go.Proofs.Ytmcecmcnbhhniaa.G
open Go.RowKit Go.Proofs.YtmcecmcnbhhniaaW.PrintWords

theorem rd_nat {l : List Int} {i : Nat} (h : i < l.length) : rd l (i : Int) = l[i] := by unfold rd; rw [Int.toNat_natCast, List.getD_eq_getElem?_getD, List.getElem?_eq_getElem h]; rfl
theorem w_succ {i : Nat} (h : i ≤ 1000000000) : wrap64 ((i : Int) + 1) = ((i + 1 : Nat) : Int) := by unfold wrap64; omega
theorem has_l0 (l : List Int) (x : Int) (hl : l.length ≤ 4000000) : ∀ (k i : Nat), i ≤ l.length → l.length - i < k → crosstreeref13_Has.l0 k l x (i : Int) = some (decide (x ∈ l.drop i)) := by
  intro k
  induction k with
  | zero => intro i h1 h2; omega
  | succ k ih =>
    intro i h1 h2
    unfold crosstreeref13_Has.l0
    by_cases hi : i < l.length
    · have hi' : (i : Int) < (l.length : Int) := by omega
      rw [if_pos hi', if_pos (Int.natCast_nonneg i), rd_nat hi, w_succ (by omega), ih (i + 1) (by omega) (by omega), List.drop_eq_getElem_cons hi]
      by_cases he : l[i] = x
      · rw [if_pos he, decide_eq_true (by rw [he]; exact List.mem_cons_self ..)]
      · rw [if_neg he]
        congr 1
        rw [decide_eq_decide, List.mem_cons]
        exact ⟨.inr, fun h => h.elim (fun e => absurd e.symm he) id⟩
    · rw [if_neg (by omega), List.drop_eq_nil_of_le (by omega)]
      simp
theorem has_f (l : List Int) (x : Int) (hl : l.length ≤ 4000000) (k : Nat) (hk : l.length < k) : crosstreeref13_Has.f k l x = some (decide (x ∈ l)) := by
  unfold crosstreeref13_Has.f
  have := has_l0 l x hl k 0 (Nat.zero_le _) (by omega)
  rwa [List.drop_zero] at this
/-- A number put into a rising list. -/
def ins (x : Int) : List Int → List Int
  | [] => [x]
  | y :: r => if x < y then x :: y :: r else y :: ins x r
theorem mem_ins (x n : Int) (l : List Int) : n ∈ ins x l ↔ n = x ∨ n ∈ l := by
  induction l with
  | nil => simp [ins]
  | cons y l ih =>
    unfold ins
    split
    · simp
    · rw [List.mem_cons, ih, List.mem_cons]
      constructor
      · rintro (h | h | h)
        · exact .inr (.inl h)
        · exact .inl h
        · exact .inr (.inr h)
      · rintro (h | h | h)
        · exact .inr (.inl h)
        · exact .inl h
        · exact .inr (.inr h)
theorem up_ins {x : Int} {l : List Int} (h : Up l) (hx : x ∉ l) : Up (ins x l) := by
  induction l with
  | nil => exact List.pairwise_singleton _ _
  | cons y l ih =>
    obtain ⟨h1, h2⟩ := List.pairwise_cons.1 h
    unfold ins
    split
    · rename_i hlt
      exact List.pairwise_cons.2 ⟨fun z hz => by
        rcases List.mem_cons.1 hz with rfl | hz
        · exact hlt
        · have := h1 z hz
          omega, h⟩
    · rename_i hlt
      refine List.pairwise_cons.2 ⟨fun z hz => ?_, ih h2 (fun hm => hx (List.mem_cons_of_mem _ hm))⟩
      rcases (mem_ins x z l).1 hz with rfl | hz
      · have : z ≠ y := fun he => hx (he ▸ List.mem_cons_self ..)
        omega
      · exact h1 z hz
theorem with_true (l : List Int) (x : Int) (hl : l.length ≤ 4000000) : ∀ (k i : Nat) (out : List Int), i ≤ l.length → l.length - i < k → x ∉ l.drop i → out.length ≤ 4000001 + i → crosstreeref12_WithInt.l0 k l x out true (i : Int) = some (out ++ l.drop i) := by
  intro k
  induction k with
  | zero => intro i out h1 h2; omega
  | succ k ih =>
    intro i out h1 h2 hx ho
    unfold crosstreeref12_WithInt.l0
    by_cases hi : i < l.length
    · have hi' : (i : Int) < (l.length : Int) := by omega
      rw [List.drop_eq_getElem_cons hi] at hx ⊢
      have hne : ¬ (l[i] = x) := fun he => hx (by rw [← he]; exact List.mem_cons_self ..)
      rw [if_pos hi', if_pos (Int.natCast_nonneg i), rd_nat hi, if_neg hne, if_pos rfl, if_pos (by omega), w_succ (by omega), ih (i + 1) _ (by omega) (by omega) (fun hm => hx (List.mem_cons_of_mem _ hm)) (by rw [List.length_append, List.length_singleton]; omega)]
      simp
    · rw [if_neg (by omega), List.drop_eq_nil_of_le (by omega)]
      simp
theorem with_false (l : List Int) (x : Int) (hl : l.length ≤ 4000000) : ∀ (k i : Nat) (out : List Int), i ≤ l.length → l.length - i < k → x ∉ l.drop i → out.length ≤ i → crosstreeref12_WithInt.l0 k l x out false (i : Int) = some (out ++ ins x (l.drop i)) := by
  intro k
  induction k with
  | zero => intro i out h1 h2; omega
  | succ k ih =>
    intro i out h1 h2 hx ho
    unfold crosstreeref12_WithInt.l0
    by_cases hi : i < l.length
    · have hi' : (i : Int) < (l.length : Int) := by omega
      rw [List.drop_eq_getElem_cons hi] at hx ⊢
      have hne : ¬ (l[i] = x) := fun he => hx (by rw [← he]; exact List.mem_cons_self ..)
      rw [if_pos hi', if_pos (Int.natCast_nonneg i), rd_nat hi, if_neg hne, if_neg (by simp), w_succ (by omega)]
      have hx2 : x ∉ l.drop (i + 1) := fun hm => hx (List.mem_cons_of_mem _ hm)
      unfold ins
      by_cases hlt : x < l[i]
      · rw [if_pos hlt, if_pos hlt, if_pos (by omega)]
        show (if (out ++ [x]).length < 17592186044416 then crosstreeref12_WithInt.l0 k l x (out ++ [x] ++ [l[i]]) true _ else none) = _
        rw [if_pos (by rw [List.length_append, List.length_singleton]; omega), with_true l x hl k (i + 1) _ (by omega) (by omega) hx2 (by simp only [List.length_append, List.length_singleton]; omega)]
        simp
      · rw [if_neg hlt, if_neg hlt, if_pos (by omega), ih (i + 1) _ (by omega) (by omega) hx2 (by rw [List.length_append, List.length_singleton]; omega)]
        simp
    · rw [if_neg (by omega), List.drop_eq_nil_of_le (by omega), if_neg (by simp), if_pos (by omega)]
      rfl
theorem with_f {l : List Int} {x : Int} (hl : l.length ≤ 4000000) (hx : x ∉ l) (k : Nat) (hk : l.length < k) : crosstreeref12_WithInt.f k l x = some (ins x l) := by
  unfold crosstreeref12_WithInt.f
  have := with_false l x hl k 0 [] (Nat.zero_le _) (by omega) (by simpa using hx) (by simp)
  rwa [List.drop_zero, List.nil_append] at this
theorem listS_len_le {l : List Sp} (h : WF l) : (listS l).length ≤ 1000001 := by
  have := (lenS_le h).2
  rw [← listS_len h] at this
  omega
/-- Add. -/
theorem refAdd {l : List Sp} (h : WF l) (n : Int) (k : Nat) (hk : (listS l).length < k) : crosstreeref13_Add.f k (listS l) n = some (listS (addS l n).1, (addS l n).2) := by
  unfold crosstreeref13_Add.f
  have hle := listS_len_le h
  by_cases h0 : n < 0
  · rw [if_pos h0]
    have : addS l n = (l, false) := by unfold addS; rw [if_neg (by omega)]
    rw [this]
  · rw [if_neg h0]
    by_cases h9 : n > 1000000
    · rw [if_pos h9]
      have : addS l n = (l, false) := by unfold addS; rw [if_neg (by omega)]
      rw [this]
    · rw [if_neg h9, has_f _ _ (by omega) k hk]
      show (if decide (n ∈ listS l) = true then some (listS l, false) else (crosstreeref12_WithInt.f k (listS l) n).bind fun t153 => some (t153, true)) = _
      obtain ⟨a1, a2, a3⟩ := add_spec h n
      by_cases hin : n ∈ listS l
      · rw [if_pos (decide_eq_true hin)]
        have hh : hasS l n = true := (hasS_iff h n).2 ((mem_listS l n).1 hin)
        have : addS l n = (l, false) := by unfold addS; rw [if_neg (by simp [hh])]
        rw [this]
      · rw [if_neg (by simpa using hin), with_f (by omega) hin k hk]
        have hnin : ¬ inS l n := fun hi => hin ((mem_listS l n).2 hi)
        have hr : inRange n := ⟨by omega, by omega⟩
        have h2 : (addS l n).2 = true := a3.2 ⟨hr, hnin⟩
        rw [h2]
        have : ins n (listS l) = listS (addS l n).1 := up_only (up_ins (listS_up h) hin) (listS_up a1) (fun m => by
          rw [mem_ins, mem_listS, mem_listS, a2 m]
          constructor
          · rintro (rfl | hm)
            · exact .inr ⟨rfl, hr⟩
            · exact .inl hm
          · rintro (hm | hm)
            · exact .inr hm
            · exact .inl hm.1)
        rw [this]
        rfl
theorem newS_len (l : List Int) : (listS (newS l)).length ≤ l.length := by
  have : ∀ (m : List Int) (s : List Sp), WF s → (listS (m.foldl (fun s n => (addS s n).1) s)).length ≤ (listS s).length + m.length := by
    intro m
    induction m with
    | nil => intro s _; exact Nat.le_refl _
    | cons n m ih =>
      intro s hs
      obtain ⟨a1, _, _⟩ := add_spec hs n
      have h1 := ih _ a1
      have h2 : (listS (addS s n).1).length ≤ (listS s).length + 1 := by
        have hf := refAdd hs n ((listS s).length + 1) (by omega)
        unfold crosstreeref13_Add.f at hf
        by_cases hin : n ∈ listS s
        · have hh : hasS s n = true := (hasS_iff hs n).2 ((mem_listS s n).1 hin)
          have : addS s n = (s, false) := by unfold addS; rw [if_neg (by simp [hh])]
          rw [this]
          exact Nat.le_succ _
        · have hle := listS_len_le hs
          by_cases hr : inRange n
          · unfold inRange at hr
            rw [if_neg (by omega), if_neg (by omega), has_f _ _ (by omega) _ (by omega)] at hf
            change (if decide (n ∈ listS s) = true then some (listS s, false) else (crosstreeref12_WithInt.f _ (listS s) n).bind fun t153 => some (t153, true)) = _ at hf
            rw [if_neg (by simpa using hin), with_f (by omega) hin _ (by omega)] at hf
            injection hf with hf
            injection hf with hf _
            rw [← hf]
            have : ∀ r : List Int, (ins n r).length = r.length + 1 := by
              intro r
              induction r with
              | nil => rfl
              | cons y r ih => unfold ins; split <;> simp [ih]
            rw [this]
            exact Nat.le_refl _
          · have : addS s n = (s, false) := by unfold addS; rw [if_neg (fun h => hr ⟨h.1, h.2.1⟩)]
            rw [this]
            exact Nat.le_succ _
      rw [List.foldl_cons, List.length_cons]
      omega
  have h := this l [] WF.nil
  have h0 : (listS []).length = 0 := rfl
  unfold newS
  omega
theorem newS_snoc (l : List Int) (i : Nat) (h : i < l.length) : newS (l.take (i + 1)) = (addS (newS (l.take i)) l[i]).1 := by
  rw [List.take_add_one, List.getElem?_eq_getElem h]
  unfold newS
  rw [List.foldl_append]
  rfl
theorem of_l0 (l : List Int) (hl : l.length ≤ 2000) : ∀ (k i : Nat), i ≤ l.length → (l.length - i) + 2001 < k → crosstreeref13_Of.l0 k l (listS (newS (l.take i))) (i : Int) = some (listS (newS l)) := by
  intro k
  induction k with
  | zero => intro i h1 h2; omega
  | succ k ih =>
    intro i h1 h2
    unfold crosstreeref13_Of.l0
    by_cases hi : i < l.length
    · have hi' : (i : Int) < (l.length : Int) := by omega
      have hlen := newS_len (l.take i)
      rw [List.length_take] at hlen
      rw [if_pos hi', if_pos (Int.natCast_nonneg i), rd_nat hi, refAdd (newS_wf _) _ k (by omega)]
      show crosstreeref13_Of.l0 k l (listS (addS (newS (l.take i)) l[i]).1) (wrap64 ((i : Int) + 1)) = _
      rw [w_succ (by omega), ← newS_snoc l i hi]
      exact ih (i + 1) (by omega) (by omega)
    · have he : i = l.length := by omega
      subst he
      rw [if_neg (by omega), List.take_length]
theorem of_f (l : List Int) (hl : l.length ≤ 2000) : crosstreeref13_Of.f 9000 l = some (listS (newS l)) := of_l0 l hl 9000 0 (Nat.zero_le _) (by omega)
/-- Union by adding one by one. -/
def addAll (p : List Sp × Bool) (m : List Int) : List Sp × Bool := m.foldl (fun p n => ((addS p.1 n).1, p.2 || (addS p.1 n).2)) p
theorem addAll_spec (m : List Int) : ∀ {s : List Sp} {b : Bool}, WF s → WF (addAll (s, b) m).1 ∧ (∀ n, inS (addAll (s, b) m).1 n ↔ inS s n ∨ (n ∈ m ∧ inRange n)) ∧ ((addAll (s, b) m).2 = true ↔ b = true ∨ ∃ n ∈ m, inRange n ∧ ¬ inS s n) := by
  induction m with
  | nil => intro s b h; exact ⟨h, by simp [addAll], by simp [addAll]⟩
  | cons n m ih =>
    intro s b h
    obtain ⟨a1, a2, a3⟩ := add_spec h n
    obtain ⟨i1, i2, i3⟩ := ih (b := b || (addS s n).2) a1
    refine ⟨i1, fun x => (i2 x).trans ?_, i3.trans ?_⟩
    · rw [a2 x, List.mem_cons]
      constructor
      · rintro ((h1 | ⟨rfl, h1⟩) | ⟨h1, h2⟩)
        · exact .inl h1
        · exact .inr ⟨.inl rfl, h1⟩
        · exact .inr ⟨.inr h1, h2⟩
      · rintro (h1 | ⟨rfl | h1, h2⟩)
        · exact .inl (.inl h1)
        · exact .inl (.inr ⟨rfl, h2⟩)
        · exact .inr ⟨h1, h2⟩
    · rw [Bool.or_eq_true, a3, or_assoc]
      refine or_congr Iff.rfl ⟨?_, ?_⟩
      · rintro (h1 | ⟨x, h1, h2, h3⟩)
        · exact ⟨n, List.mem_cons_self .., h1⟩
        · exact ⟨x, List.mem_cons_of_mem _ h1, h2, fun h4 => h3 ((a2 x).2 (.inl h4))⟩
      · rintro ⟨x, h1, h2, h3⟩
        by_cases hx : x = n
        · subst hx
          exact .inl ⟨h2, h3⟩
        · rcases List.mem_cons.1 h1 with h1 | h1
          · exact absurd h1 hx
          · exact .inr ⟨x, h1, h2, fun h4 => by rcases (a2 x).1 h4 with h5 | ⟨h5, _⟩; exact h3 h5; exact hx h5⟩
theorem addAll_union {s t : List Sp} (hs : WF s) (ht : WF t) : addAll (s, false) (listS t) = unionS s t := by
  obtain ⟨a1, a2, a3⟩ := addAll_spec (listS t) (b := false) hs
  obtain ⟨u1, u2, u3⟩ := union_spec hs ht
  have hr : ∀ n, (n ∈ listS t ∧ inRange n) ↔ inS t n := fun n => ⟨fun h => (mem_listS t n).1 h.1, fun h => ⟨(mem_listS t n).2 h, ht.range h⟩⟩
  have h1 : (addAll (s, false) (listS t)).1 = (unionS s t).1 := a1.only u1 (fun n => by rw [a2 n, u2 n, hr n])
  have h2 : (addAll (s, false) (listS t)).2 = (unionS s t).2 := by
    rw [Bool.eq_iff_iff, a3, u3]
    constructor
    · rintro (h | ⟨n, h3, _, h5⟩)
      · cases h
      · exact ⟨n, (mem_listS t n).1 h3, h5⟩
    · rintro ⟨n, h3, h4⟩
      exact .inr ⟨n, (mem_listS t n).2 h3, ht.range h3, h4⟩
  exact Prod.ext h1 h2
theorem addAll_snoc (p : List Sp × Bool) (m : List Int) (i : Nat) (h : i < m.length) : addAll p (m.take (i + 1)) = ((addS (addAll p (m.take i)).1 m[i]).1, (addAll p (m.take i)).2 || (addS (addAll p (m.take i)).1 m[i]).2) := by
  rw [List.take_add_one, List.getElem?_eq_getElem h]
  unfold addAll
  rw [List.foldl_append]
  rfl
theorem union_l0 {s : List Sp} (hs : WF s) (m : List Int) (hm : m.length ≤ 4000000) : ∀ (k i : Nat), i ≤ m.length → (m.length - i) + 2000001 < k → crosstreeref13_Union.l0 k (listS (addAll (s, false) (m.take i)).1) m (addAll (s, false) (m.take i)).2 (i : Int) = some (listS (addAll (s, false) m).1, (addAll (s, false) m).2) := by
  intro k
  induction k with
  | zero => intro i h1 h2; omega
  | succ k ih =>
    intro i h1 h2
    unfold crosstreeref13_Union.l0
    by_cases hi : i < m.length
    · have hi' : (i : Int) < (m.length : Int) := by omega
      have hw := (addAll_spec (m.take i) (b := false) hs).1
      have hlen := listS_len_le hw
      rw [if_pos hi', if_pos (Int.natCast_nonneg i), rd_nat hi, refAdd hw _ k (by omega), w_succ (by omega)]
      have hih := ih (i + 1) (by omega) (by omega)
      rw [addAll_snoc _ _ _ hi] at hih
      show (if (addAll (s, false) (m.take i)).2 = true then crosstreeref13_Union.l0 k (listS (addS (addAll (s, false) (m.take i)).1 m[i]).1) m true _ else crosstreeref13_Union.l0 k (listS (addS (addAll (s, false) (m.take i)).1 m[i]).1) m (addS (addAll (s, false) (m.take i)).1 m[i]).2 _) = _
      cases hb : (addAll (s, false) (m.take i)).2 with
      | true => rw [if_pos rfl]; rw [hb] at hih; exact hih
      | false => rw [if_neg (by simp)]; rw [hb] at hih; exact hih
    · have he : i = m.length := by omega
      subst he
      rw [if_neg (by omega), List.take_length]
theorem union_f {s t : List Sp} (hs : WF s) (ht : WF t) : crosstreeref13_Union.f 9000000 (listS s) (listS t) = some (listS (unionS s t).1, (unionS s t).2) := by
  have hl := listS_len_le ht
  have := union_l0 hs (listS t) (by omega) 9000000 0 (Nat.zero_le _) (by omega)
  rw [addAll_union hs ht] at this
  exact this
theorem minus_l0 (l m : List Int) (hl : l.length ≤ 4000000) (hm : m.length ≤ 4000000) : ∀ (k i : Nat) (out : List Int), i ≤ l.length → (l.length - i) + m.length + 1 < k → out.length ≤ i → crosstreeref13_Minus.l0 k l m out (i : Int) = some (out ++ (l.drop i).filter (fun n => !decide (n ∈ m))) := by
  intro k
  induction k with
  | zero => intro i out h1 h2; omega
  | succ k ih =>
    intro i out h1 h2 ho
    unfold crosstreeref13_Minus.l0
    by_cases hi : i < l.length
    · have hi' : (i : Int) < (l.length : Int) := by omega
      rw [if_pos hi', if_pos (Int.natCast_nonneg i), rd_nat hi, has_f _ _ hm k (by omega), w_succ (by omega), List.drop_eq_getElem_cons hi]
      show (if decide (l[i] ∈ m) = true then crosstreeref13_Minus.l0 k l m out _ else if out.length < 17592186044416 then crosstreeref13_Minus.l0 k l m (out ++ [l[i]]) _ else none) = _
      by_cases hin : l[i] ∈ m
      · rw [if_pos (decide_eq_true hin), ih (i + 1) out (by omega) (by omega) (by omega), List.filter_cons_of_neg (by simp [hin])]
      · rw [if_neg (by simpa using hin), if_pos (by omega), ih (i + 1) _ (by omega) (by omega) (by rw [List.length_append, List.length_singleton]; omega), List.filter_cons_of_pos (by simp [hin])]
        simp
    · rw [if_neg (by omega), List.drop_eq_nil_of_le (by omega)]
      simp
theorem minus_f {s t : List Sp} (hs : WF s) (ht : WF t) : crosstreeref13_Minus.f 9000000 (listS s) (listS t) = some (listS (minusS s t)) := by
  have h1 := listS_len_le hs
  have h2 := listS_len_le ht
  have := minus_l0 (listS s) (listS t) (by omega) (by omega) 9000000 0 [] (Nat.zero_le _) (by omega) (by simp)
  rw [List.drop_zero, List.nil_append] at this
  refine this.trans ?_
  congr 1
  obtain ⟨m1, m2⟩ := minus_spec hs ht
  refine up_only ((listS_up hs).filter _) (listS_up m1) (fun n => ?_)
  rw [List.mem_filter, mem_listS s, mem_listS (minusS s t), m2 n]
  simp [mem_listS]
theorem spans_l0 (l : List Int) (hl : l.length ≤ 2000000) (hr : ∀ n ∈ l, inRange n) : ∀ (k i : Nat) (out : List Int) (p : Option Int), i ≤ l.length → 2 * (l.length - i) + 1 < k → out.length ≤ 2 * i → (p = if i = 0 then none else l[i - 1]?) →
    crosstreeref13_Spans.l0 k l out (i : Int) = some (out ++ runs p (l.drop i)) := by
  intro k
  induction k using Nat.strongRecOn with
  | ind k ih =>
  intro i out p h1 h2 ho hp
  obtain ⟨k, rfl⟩ : ∃ q, k = q + 1 := ⟨k - 1, by omega⟩
  unfold crosstreeref13_Spans.l0
  by_cases hi : i < l.length
  · have hi' : (i : Int) < (l.length : Int) := by omega
    rw [if_pos hi']
    obtain ⟨k, rfl⟩ : ∃ q, k = q + 1 := ⟨k - 1, by omega⟩
    have hcur := hr l[i] (List.getElem_mem hi)
    unfold inRange at hcur
    -- what j1 does
    have hj : ∀ b : Bool, crosstreeref13_Spans.j1 (k + 1) l out (i : Int) b = some ((out ++ (if b = true then [l[i]] else [])) ++ ((if (l.drop (i + 1)).head? = some (l[i] + 1) then [] else [l[i]]) ++ runs (some l[i]) (l.drop (i + 1)))) := by
      intro b
      have hih : ∀ out2 : List Int, out2.length ≤ 2 * (i + 1) → crosstreeref13_Spans.l0 k l out2 ((i + 1 : Nat) : Int) = some (out2 ++ runs (some l[i]) (l.drop (i + 1))) := fun out2 h => ih k (by omega) (i + 1) out2 (some l[i]) (by omega) (by omega) h (by rw [if_neg (by omega), Nat.add_sub_cancel, List.getElem?_eq_getElem hi])
      have hlast : wrap64 ((l.length : Int) - 1) = (l.length : Int) - 1 := by unfold wrap64; omega
      have hc1 : wrap64 (l[i] + 1) = l[i] + 1 := by unfold wrap64; omega
      unfold crosstreeref13_Spans.j1
      by_cases hn : i + 1 < l.length
      · have hne : ¬ ((i : Int) = wrap64 ((l.length : Int) - 1)) := by rw [hlast]; omega
        have hn' : ((i + 1 : Nat) : Int) < (l.length : Int) := by omega
        have hhd : (l.drop (i + 1)).head? = some l[i + 1] := by rw [List.drop_eq_getElem_cons hn]; rfl
        cases b with
        | true =>
          simp only [↓reduceIte]
          rw [if_pos (Int.natCast_nonneg i), if_pos hi', if_pos (show out.length < 17592186044416 by omega)]
          show (if (i : Int) = wrap64 ((l.length : Int) - 1) then _ else _) = _
          rw [if_neg hne, w_succ (by omega), if_pos (Int.natCast_nonneg _), if_pos hn', rd_nat hn, rd_nat hi, hc1, hhd]
          by_cases he : l[i + 1] = l[i] + 1
          · rw [if_pos he, if_pos (show some l[i + 1] = some (l[i] + 1) by rw [he]), hih _ (by rw [List.length_append, List.length_singleton]; omega)]
            simp
          · rw [if_neg he, if_neg (show ¬ (some l[i + 1] = some (l[i] + 1)) by intro h; injection h with h; exact he h), if_pos (show (out ++ [l[i]]).length < 17592186044416 by rw [List.length_append, List.length_singleton]; omega), hih _ (by simp only [List.length_append, List.length_singleton]; omega)]
            simp
        | false =>
          simp only [Bool.false_eq_true, ↓reduceIte]
          rw [if_neg hne, w_succ (by omega), if_pos (Int.natCast_nonneg _), if_pos hn', if_pos (Int.natCast_nonneg i), if_pos hi', rd_nat hn, rd_nat hi, hc1, hhd]
          by_cases he : l[i + 1] = l[i] + 1
          · rw [if_pos he, if_pos (show some l[i + 1] = some (l[i] + 1) by rw [he]), hih _ (by omega)]
            simp
          · rw [if_neg he, if_neg (show ¬ (some l[i + 1] = some (l[i] + 1)) by intro h; injection h with h; exact he h), if_pos (show out.length < 17592186044416 by omega), hih _ (by rw [List.length_append, List.length_singleton]; omega)]
            simp
      · have hei : (i : Int) = wrap64 ((l.length : Int) - 1) := by rw [hlast]; omega
        have hhd : (l.drop (i + 1)).head? = none := by rw [List.drop_eq_nil_of_le (by omega)]; rfl
        rw [hhd, if_neg (by simp : ¬ ((none : Option Int) = some (l[i] + 1)))]
        cases b with
        | true =>
          simp only [↓reduceIte]
          rw [if_pos (Int.natCast_nonneg i), if_pos hi', if_pos (show out.length < 17592186044416 by omega)]
          show (if (i : Int) = wrap64 ((l.length : Int) - 1) then _ else _) = _
          rw [if_pos hei, if_pos (show (out ++ [rd l (i : Int)]).length < 17592186044416 by rw [List.length_append, List.length_singleton]; omega), rd_nat hi, w_succ (by omega), hih _ (by simp only [List.length_append, List.length_singleton]; omega)]
          simp
        | false =>
          simp only [Bool.false_eq_true, ↓reduceIte]
          rw [if_pos hei, if_pos (Int.natCast_nonneg i), if_pos hi', if_pos (show out.length < 17592186044416 by omega), rd_nat hi, w_succ (by omega), hih _ (by rw [List.length_append, List.length_singleton]; omega)]
          simp
    rw [List.drop_eq_getElem_cons hi, runs]
    by_cases h0 : i = 0
    · subst h0
      rw [if_pos (by simp), hj true]
      rw [if_pos rfl] at hp
      subst hp
      simp
    · rw [if_neg (by omega), if_pos (Int.natCast_nonneg i)]
      have hpi : wrap64 ((i : Int) - 1) = ((i - 1 : Nat) : Int) := by unfold wrap64; omega
      have hlt : i - 1 < l.length := by omega
      have hprev := hr l[i - 1] (List.getElem_mem hlt)
      unfold inRange at hprev
      have hc1 : wrap64 (l[i - 1] + 1) = l[i - 1] + 1 := by unfold wrap64; omega
      rw [hpi, if_pos (Int.natCast_nonneg _), if_pos (by omega), rd_nat hi, rd_nat hlt, hc1, hj]
      rw [if_neg h0, List.getElem?_eq_getElem hlt] at hp
      subst hp
      by_cases he : l[i] = l[i - 1] + 1
      · have e1 : (l[i] != l[i - 1] + 1) = false := bne_eq_false_iff_eq.mpr he
        rw [e1]
        simp only [Bool.false_eq_true, ↓reduceIte]
        rw [if_pos (show some l[i - 1] = some (l[i] - 1) by congr 1; omega)]
        simp
      · have e1 : (l[i] != l[i - 1] + 1) = true := bne_iff_ne.mpr he
        rw [e1]
        simp only [↓reduceIte]
        rw [if_neg (show ¬ (some l[i - 1] = some (l[i] - 1)) by intro h; injection h with h; omega)]
        simp
  · rw [if_neg (by omega), List.drop_eq_nil_of_le (by omega), runs, List.append_nil]
theorem spans_f {l : List Sp} (h : WF l) : crosstreeref13_Spans.f 9000000 (listS l) = some (spansS l) := by
  have hl := listS_len_le h
  have := spans_l0 (listS l) (by omega) (fun n hn => h.range ((mem_listS l n).1 hn)) 9000000 0 [] none (Nat.zero_le _) (by omega) (by simp) rfl
  rw [List.drop_zero, List.nil_append, spans_eq h] at this
  exact this
end Go.Proofs.Ytmcecmcnbhhniaa.G
