/- The reference's blanks, numbers and tokens are the plain ones. Plain Lean, no program. -/
import Derived.Test.YtikfgdkplgfiiaaPc
namespace Go.Proofs.Ytikfgdkplgfiiaa.G
open Go.RowKit Go.Proofs.Ytikfgdkplgfiiaa.B Go.Proofs.YtikfgdkplgfiiaaW.PrintWords Go.Proofs.YtikfgdkplgfiiaaW.PrintLast Go.Proofs.YtikfgdkplgfiiaaW.PrintMore

def blankR (n : Nat) : Sk → Int × Int
  | .ok r => (((n - r.length : Nat) : Int), 0)
  | .bad r => (-1, ((n - r.length : Nat) : Int))
theorem drop_of_suffix {s : ByteArray} {a : Nat} {r : L8} (h : ∃ j, s.toList.drop (a + j) = r ∧ a + j ≤ s.size) : s.toList.drop (s.size - r.length) = r ∧ r.length ≤ s.size - a := by
  obtain ⟨j, h1, h2⟩ := h
  have h3 : r.length = s.size - (a + j) := by rw [← h1, List.length_drop, tl_len]
  refine ⟨?_, by omega⟩
  rw [h3, show s.size - (s.size - (a + j)) = a + j by omega, h1]
theorem dropLine_suffix (l : L8) : ∃ j, l.drop j = dropLine l ∧ j ≤ l.length := by
  induction l with
  | nil => exact ⟨0, rfl, Nat.le_refl _⟩
  | cons c l ih =>
    unfold dropLine
    split
    · exact ⟨0, rfl, Nat.zero_le _⟩
    · obtain ⟨j, h1, h2⟩ := ih
      exact ⟨j + 1, by rw [List.drop_succ_cons, h1], by rw [List.length_cons]; omega⟩
theorem afterNote_suffix (l : L8) : ∀ r, afterNote l = some r → ∃ j, l.drop (j + 2) = r ∧ j + 2 ≤ l.length := by
  induction l with
  | nil => intro r h; cases h
  | cons c l ih =>
    intro r h
    unfold afterNote at h
    split at h
    · rename_i hb
      injection h with h
      cases l with
      | nil => simp [begins] at hb
      | cons d l =>
        refine ⟨0, ?_, by simp⟩
        rw [← h]
        rfl
    · obtain ⟨j, h1, h2⟩ := ih r h
      exact ⟨j + 1, by rw [show j + 1 + 2 = (j + 2) + 1 by omega, List.drop_succ_cons, h1], by rw [List.length_cons]; omega⟩
theorem line_l1 (s : ByteArray) (hs : s.size ≤ 1000000000) : ∀ (m k a : Nat), a ≤ s.size → s.size - a ≤ m → m < k → ∃ (k2 j : Nat), k ≤ k2 + j + 1 ∧ a + j ≤ s.size ∧ s.toList.drop (a + j) = dropLine (s.toList.drop a) ∧ crosstreeref01_Blank.l1 k s (a : Int) = crosstreeref01_Blank.l0 k2 s ((a + j : Nat) : Int) := by
  intro m
  induction m with
  | zero =>
    intro k a h1 h2 h3
    obtain ⟨k, rfl⟩ : ∃ q, k = q + 1 := ⟨k - 1, by omega⟩
    have hd : s.toList.drop a = [] := by rw [List.drop_eq_nil_iff, tl_len]; omega
    refine ⟨k, 0, by omega, h1, by rw [Nat.add_zero, hd]; rfl, ?_⟩
    rw [crosstreeref01_Blank.l1, if_neg (by omega), Nat.add_zero]
  | succ m ih =>
    intro k a h1 h2 h3
    obtain ⟨k, rfl⟩ : ∃ q, k = q + 1 := ⟨k - 1, by omega⟩
    by_cases hlt : a < s.size
    · obtain ⟨c, t, e1, e2⟩ := drop_cons hlt
      have hb := (bt_drop e1).1
      rw [crosstreeref01_Blank.l1, if_pos (by omega), if_pos (by omega), hb, e1]
      unfold dropLine
      by_cases hc : c.toNat = 10
      · rw [if_pos hc, if_pos (by omega)]
        exact ⟨k, 0, by omega, h1, e1, rfl⟩
      · rw [if_neg hc, if_neg (by omega), w64 (x := (a : Int) + 1) (by omega) (by omega), show (a : Int) + 1 = ((a + 1 : Nat) : Int) by omega]
        obtain ⟨k2, j, i1, i2, i3, i4⟩ := ih k (a + 1) (by omega) (by omega) (by omega)
        refine ⟨k2, j + 1, by omega, by omega, ?_, ?_⟩
        · rw [show a + (j + 1) = a + 1 + j by omega, i3, e2]
        · rw [i4, show a + (j + 1) = a + 1 + j by omega]
    · have hd : s.toList.drop a = [] := by rw [List.drop_eq_nil_iff, tl_len]; omega
      refine ⟨k, 0, by omega, h1, by rw [Nat.add_zero, hd]; rfl, ?_⟩
      rw [crosstreeref01_Blank.l1, if_neg (by omega), Nat.add_zero]
theorem begins_two {a b : UInt8} {l : L8} (h : begins a b l = true) : ∃ t, l = a :: b :: t := by
  cases l with
  | nil => simp [begins] at h
  | cons c l =>
    cases l with
    | nil => simp [begins] at h
    | cons d l =>
      simp only [begins, Bool.and_eq_true, decide_eq_true_eq] at h
      exact ⟨l, by rw [h.1, h.2]⟩
theorem note_l2 (s : ByteArray) (hs : s.size ≤ 1000000000) (o : Int) : ∀ (m k a : Nat), a ≤ s.size → s.size - a ≤ m → m < k →
    (afterNote (s.toList.drop a) = none ∧ crosstreeref01_Blank.l2 k s o (a : Int) = some (-1, o)) ∨
    ∃ (r : L8) (k2 j : Nat), afterNote (s.toList.drop a) = some r ∧ k ≤ k2 + j + 1 ∧ a + j ≤ s.size ∧ s.toList.drop (a + j) = r ∧ crosstreeref01_Blank.l2 k s o (a : Int) = crosstreeref01_Blank.l0 k2 s ((a + j : Nat) : Int) := by
  intro m
  induction m with
  | zero =>
    intro k a h1 h2 h3
    obtain ⟨k, rfl⟩ : ∃ q, k = q + 1 := ⟨k - 1, by omega⟩
    have hd : s.toList.drop a = [] := by rw [List.drop_eq_nil_iff, tl_len]; omega
    refine .inl ⟨by rw [hd]; rfl, ?_⟩
    rw [crosstreeref01_Blank.l2, if_neg (by omega), if_pos (by omega)]
  | succ m ih =>
    intro k a h1 h2 h3
    obtain ⟨k, rfl⟩ : ∃ q, k = q + 1 := ⟨k - 1, by omega⟩
    by_cases hlt : a < s.size
    · obtain ⟨c, t, e1, e2⟩ := drop_cons hlt
      rw [crosstreeref01_Blank.l2, if_pos (by omega), starts_f s _ a hs h1 (by decide), Option.bind_some, e1]
      rw [show (⟨#[42, 47]⟩ : ByteArray).toList = [42, 47] from bytes_toList _, begins_prefix]
      unfold afterNote
      by_cases hb : begins 42 47 (c :: t) = true
      · rw [if_pos hb, if_pos hb, if_neg (by omega)]
        obtain ⟨t2, he⟩ := begins_two hb
        have hlen := congrArg List.length e1
        rw [he, List.length_drop, tl_len] at hlen
        simp only [List.length_cons] at hlen
        rw [w64 (x := (a : Int) + 2) (by omega) (by omega), show (a : Int) + 2 = ((a + 2 : Nat) : Int) by omega]
        refine .inr ⟨t2, k, 2, ?_, by omega, by omega, ?_, rfl⟩
        · injection he with _ he
          rw [he]
          rfl
        · have := congrArg (List.drop 2) e1
          rw [List.drop_drop, he] at this
          simpa using this
      · rw [if_neg hb, if_neg hb, w64 (x := (a : Int) + 1) (by omega) (by omega), show (a : Int) + 1 = ((a + 1 : Nat) : Int) by omega]
        rcases ih k (a + 1) (by omega) (by omega) (by omega) with ⟨i1, i2⟩ | ⟨r, k2, j, i1, i2, i3, i4, i5⟩
        · rw [e2] at i1
          exact .inl ⟨i1, i2⟩
        · rw [e2] at i1
          exact .inr ⟨r, k2, j + 1, i1, by omega, by omega, by rw [show a + (j + 1) = a + 1 + j by omega, i4], by rw [i5, show a + (j + 1) = a + 1 + j by omega]⟩
    · have hd : s.toList.drop a = [] := by rw [List.drop_eq_nil_iff, tl_len]; omega
      refine .inl ⟨by rw [hd]; rfl, ?_⟩
      rw [crosstreeref01_Blank.l2, if_neg (by omega), if_pos (by omega)]
theorem blank_l0 (s : ByteArray) (hs : s.size ≤ 1000000000) : ∀ (n k a : Nat), a ≤ s.size → s.size - a ≤ n → 10 * (s.size - a) + 10 ≤ k → crosstreeref01_Blank.l0 k s (a : Int) = some (blankR s.size (skip (s.toList.drop a))) := by
  intro n
  induction n with
  | zero =>
    intro k a h1 h2 h3
    obtain ⟨k, rfl⟩ : ∃ q, k = q + 1 := ⟨k - 1, by omega⟩
    have hd : s.toList.drop a = [] := by rw [List.drop_eq_nil_iff, tl_len]; omega
    rw [crosstreeref01_Blank.l0, if_neg (by omega), hd, skip_nil]
    have : a = s.size := by omega
    rw [this]
    rfl
  | succ n ih =>
    intro k a h1 h2 h3
    by_cases hlt : a < s.size
    · obtain ⟨k, rfl⟩ : ∃ q, k = q + 2 := ⟨k - 2, by omega⟩
      obtain ⟨c, t, e1, e2⟩ := drop_cons hlt
      have hb := (bt_drop e1).1
      have hj : crosstreeref01_Blank.l0 (k + 2) s (a : Int) = crosstreeref01_Blank.j1 (k + 1) s (a : Int) (isBl c) := by
        rw [crosstreeref01_Blank.l0, if_pos (by omega), if_pos (by omega), hb]
        unfold isBl
        by_cases c1 : c.toNat = 32
        · rw [if_pos (by omega)]; simp [c1]
        · rw [if_neg (by omega)]
          by_cases c2 : c.toNat = 9
          · rw [if_pos (by omega)]; simp [c2]
          · rw [if_neg (by omega)]
            by_cases c3 : c.toNat = 10
            · rw [if_pos (by omega)]; simp [c3]
            · rw [if_neg (by omega)]
              congr 1
              simp only [c1, c2, c3, decide_false, Bool.false_or]
              rw [Bool.eq_iff_iff, beq_iff_eq, decide_eq_true_eq]
              omega
      rw [hj, crosstreeref01_Blank.j1, e1, skip_cons]
      by_cases hbl : isBl c = true
      · rw [if_pos hbl, if_pos hbl, w64 (x := (a : Int) + 1) (by omega) (by omega), show (a : Int) + 1 = ((a + 1 : Nat) : Int) by omega, ih k (a + 1) (by omega) (by omega) (by omega), e2]
      · rw [if_neg hbl, if_neg hbl, starts_f s _ a hs h1 (by decide), Option.bind_some, e1]
        rw [show (⟨#[47, 47]⟩ : ByteArray).toList = [47, 47] from bytes_toList _, begins_prefix]
        by_cases hl : begins 47 47 (c :: t) = true
        · rw [if_pos hl, if_pos hl]
          obtain ⟨k2, j, i1, i2, i3, i4⟩ := line_l1 s hs (s.size - a) k a h1 (Nat.le_refl _) (by omega)
          obtain ⟨t2, he⟩ := begins_two hl
          rw [e1, he] at i3
          have hj1 : j ≠ 0 := fun h0 => by
            rw [h0, Nat.add_zero, e1, he] at i3
            have h9 := congrArg List.length i3
            rw [dropLine, if_neg (by decide), dropLine, if_neg (by decide)] at h9
            have := dropLine_le t2
            simp only [List.length_cons] at h9
            omega
          rw [i4, ih k2 (a + j) (by omega) (by omega) (by omega), i3]
          injection he with _ he
          rw [he]
          rfl
        · rw [if_neg hl, if_neg hl, starts_f s _ a hs h1 (by decide), Option.bind_some, e1]
          rw [show (⟨#[47, 42]⟩ : ByteArray).toList = [47, 42] from bytes_toList _, begins_prefix]
          by_cases hn : begins 47 42 (c :: t) = true
          · rw [if_pos hn, if_pos hn]
            obtain ⟨t2, he⟩ := begins_two hn
            have hlen := congrArg List.length e1
            rw [he, List.length_drop, tl_len] at hlen
            simp only [List.length_cons] at hlen
            have hd2 : s.toList.drop (a + 2) = t2 := by
              have := congrArg (List.drop 2) e1
              rw [List.drop_drop, he] at this
              simpa using this
            have ht : t.tail = t2 := by injection he with _ he; rw [he]; rfl
            rw [w64 (x := (a : Int) + 2) (by omega) (by omega), show (a : Int) + 2 = ((a + 2 : Nat) : Int) by omega, ht]
            rcases note_l2 s hs (a : Int) (s.size - (a + 2)) k (a + 2) (by omega) (Nat.le_refl _) (by omega) with ⟨i1, i2⟩ | ⟨r, k2, j, i1, i2, i3, i4, i5⟩
            · rw [hd2] at i1
              rw [i2, i1]
              have hl2 := congrArg List.length e1
              rw [List.length_drop, tl_len] at hl2
              simp only [blankR]
              rw [← hl2, show s.size - (s.size - a) = a by omega]
            · rw [hd2] at i1
              rw [i5, i1, ih k2 (a + 2 + j) (by omega) (by omega) (by omega), i4]
          · rw [if_neg hn, if_neg hn]
            have hl2 := congrArg List.length e1
            rw [List.length_drop, tl_len] at hl2
            simp only [blankR]
            rw [← hl2, show s.size - (s.size - a) = a by omega]
    · obtain ⟨k, rfl⟩ : ∃ q, k = q + 1 := ⟨k - 1, by omega⟩
      have hd : s.toList.drop a = [] := by rw [List.drop_eq_nil_iff, tl_len]; omega
      rw [crosstreeref01_Blank.l0, if_neg (by omega), hd, skip_nil]
      have : a = s.size := by omega
      rw [this]
      rfl
theorem blank_f (s : ByteArray) (hs : s.size ≤ 20000) (a : Nat) (ha : a ≤ s.size) (k : Nat) (hk : 300000 ≤ k) : crosstreeref01_Blank.f k s (a : Int) = some (blankR s.size (skip (s.toList.drop a))) :=
  blank_l0 s (by omega) (s.size - a) k a ha (Nat.le_refl _) (by omega)
end Go.Proofs.Ytikfgdkplgfiiaa.G
