/- The laws LexJoins, LexBlanks, plain; a token's text alone; what stands between tokens. Plain Lean, no program. -/
import Derived.Test.YtikfgdkplgfiiaaPi
namespace Go.Proofs.Ytikfgdkplgfiiaa.G
open Go.RowKit Go.Proofs.Ytikfgdkplgfiiaa.B Go.Proofs.YtikfgdkplgfiiaaW.PrintWords Go.Proofs.YtikfgdkplgfiiaaW.PrintLast Go.Proofs.YtikfgdkplgfiiaaW.PrintMore

theorem lexS_ok {l : L8} (h : ¬ 20000 < l.length) (he : (toks l).2 = none) : lexS l = ((toks l).1.map (atS32 l.length), 0, 0) := by
  unfold lexS; rw [if_neg h, he]
theorem lexS_bad {l : L8} {r e : Nat} (h : ¬ 20000 < l.length) (he : (toks l).2 = some (r, e)) : lexS l = ([], ((l.length - r : Nat) : Int), (e : Int)) := by
  unfold lexS; rw [if_neg h, he]
/-- An error is no 0. -/
theorem toksF_err : ∀ (k : Nat) (l : L8) (r e : Nat), (toksF k l).2 = some (r, e) → e ≠ 0 ∧ r ≤ l.length := by
  intro k
  induction k with
  | zero => intro l r e h; cases h
  | succ k ih =>
    intro l r e h
    unfold toksF at h
    cases hs : skip l with
    | bad q =>
      rw [hs] at h
      simp only [Option.some.injEq, Prod.mk.injEq] at h
      have := skip_le (.inr hs)
      exact ⟨by omega, by omega⟩
    | ok q =>
      rw [hs] at h
      cases q with
      | nil => cases h
      | cons c t =>
        simp only [] at h
        have hl := skip_le (.inl hs)
        by_cases he : (tokS (c :: t)).err = 0
        · rw [if_pos he] at h
          obtain ⟨t1, t2, _⟩ := tok_text he
          have := ih _ r e h
          rw [List.length_drop] at this
          exact ⟨this.1, by omega⟩
        · rw [if_neg he] at h
          simp only [Option.some.injEq, Prod.mk.injEq] at h
          rw [List.length_cons] at hl
          exact ⟨by omega, by omega⟩
theorem toks_err2 {l : L8} {r e : Nat} (h : (toks l).2 = some (r, e)) : e ≠ 0 ∧ r ≤ l.length := toksF_err _ l r e h
theorem lexS_zero {l : L8} (h : (lexS l).2.2 = 0) : ¬ 20000 < l.length ∧ (toks l).2 = none := by
  by_cases hb : 20000 < l.length
  · unfold lexS at h
    rw [if_pos hb] at h
    exact absurd h (by decide)
  · refine ⟨hb, ?_⟩
    cases ht : (toks l).2 with
    | none => rfl
    | some p =>
      obtain ⟨r, e⟩ := p
      rw [lexS_bad hb ht] at h
      have := (toks_err2 ht).1
      simp only [] at h
      omega
theorem alike_at (n m : Nat) (x : At) (k : Nat) : Alike false (atS32 n (shl k x)) (atS32 m x) := ⟨rfl, rfl, rfl, fun h => by cases h⟩
theorem alike_at' (n m : Nat) (x : At) : Alike false (atS32 n x) (atS32 m x) := ⟨rfl, rfl, rfl, fun h => by cases h⟩
theorem toksF_left : ∀ (k : Nat) (l : L8) (z : At), z ∈ (toksF k l).1 → z.left ≤ l.length := by
  intro k
  induction k with
  | zero => intro l z h; cases h
  | succ k ih =>
    intro l z h
    unfold toksF at h
    cases hs : skip l with
    | bad q => rw [hs] at h; cases h
    | ok q =>
      rw [hs] at h
      cases q with
      | nil => cases h
      | cons c t =>
        simp only [] at h
        have hl := skip_le (.inl hs)
        rw [List.length_cons] at hl
        by_cases he : (tokS (c :: t)).err = 0
        · rw [if_pos he] at h
          rcases List.mem_cons.1 h with rfl | h
          · exact hl
          · have := ih _ z h
            rw [List.length_drop, List.length_cons] at this
            omega
        · rw [if_neg he] at h
          cases h
theorem toks_left (l : L8) (z : At) (h : z ∈ (toks l).1) : z.left ≤ l.length := toksF_left _ l z h
theorem lexS_at (l : L8) : 0 ≤ (lexS l).2.1 ∧ (lexS l).2.1 ≤ (l.length : Int) := by
  unfold lexS
  split
  · exact ⟨Int.le_refl _, Int.natCast_nonneg _⟩
  · cases (toks l).2 with
    | some p => simp only []; omega
    | none => exact ⟨Int.le_refl _, Int.natCast_nonneg _⟩
theorem lexS_f1 (l : L8) (x : S32) (h : x ∈ (lexS l).1) : 0 ≤ x.f1 ∧ x.f1 ≤ (l.length : Int) := by
  unfold lexS at h
  split at h
  · cases h
  · cases ht : (toks l).2 with
    | some p => rw [ht] at h; cases h
    | none =>
      rw [ht] at h
      obtain ⟨z, hz, rfl⟩ := List.mem_map.1 h
      show (0 : Int) ≤ ((l.length - z.left : Nat) : Int) ∧ ((l.length - z.left : Nat) : Int) ≤ (l.length : Int)
      omega
/-! ### LexJoins -/
theorem joins_plain {l m : L8} (hl : (lexS l).2.2 = 0) (hm : (lexS m).2.2 = 0) (hlen : l.length + m.length < 20000) :
    (lexS (l ++ 10 :: m)).2.2 = 0 ∧ (lexS (l ++ 10 :: m)).1.length = ((lexS l).1 ++ (lexS m).1).length ∧ ∀ (i : Nat) x y, (lexS (l ++ 10 :: m)).1[i]? = some x → ((lexS l).1 ++ (lexS m).1)[i]? = some y → Alike false x y := by
  obtain ⟨a1, a2⟩ := lexS_zero hl
  obtain ⟨b1, b2⟩ := lexS_zero hm
  have hj := (toks_join m l.length l (Nat.le_refl _)).1 a2
  rw [lexS_ok a1 a2, lexS_ok b1 b2, lexS_ok (l := l ++ 10 :: m) (by rw [List.length_append, List.length_cons]; omega) (by rw [hj]; exact b2), hj]
  refine ⟨rfl, by simp, fun i x y hx hy => ?_⟩
  simp only [] at hx hy
  rw [List.getElem?_map, List.getElem?_append] at hx
  rw [List.getElem?_append] at hy
  rw [List.length_map] at hx hy
  split at hx
  · rename_i hi
    rw [if_pos hi, List.getElem?_map] at hy
    rw [List.getElem?_map] at hx
    cases hz : (toks l).1[i]? with
    | none => rw [hz] at hy; cases hy
    | some z =>
      rw [hz] at hx hy
      simp only [Option.map_some, Option.some.injEq] at hx hy
      subst hx hy
      exact alike_at _ _ _ _
  · rename_i hi
    rw [if_neg hi, List.getElem?_map] at hy
    cases hz : (toks m).1[i - (toks l).1.length]? with
    | none => rw [hz] at hy; cases hy
    | some z =>
      rw [hz] at hx hy
      simp only [Option.map_some, Option.some.injEq] at hx hy
      subst hx hy
      exact alike_at' _ _ _
/-! ### LexBlanks -/
def headN : L8 := [47, 42, 32, 42, 32, 47, 32, 42, 42, 32, 42, 47, 9]
def tailN : L8 := [32, 47, 47, 32, 120]
theorem skip_spaces (n : Nat) (Z : L8) : skip (List.replicate n 32 ++ Z) = skip Z := by
  induction n with
  | zero => rfl
  | succ n ih => rw [List.replicate_succ, List.cons_append, skip_cons, if_pos isBl_32, ih]
theorem skip_head (Z : L8) : skip (headN ++ Z) = skip Z := by
  have h1 : skip (headN ++ Z) = skip (9 :: Z) := by
    show skip (47 :: 42 :: 32 :: 42 :: 32 :: 47 :: 32 :: 42 :: 42 :: 32 :: 42 :: 47 :: 9 :: Z) = _
    rw [skip_cons, if_neg (by decide), if_neg (by simp [begins]), if_pos (by simp [begins])]
    have ha : afterNote (32 :: 42 :: 32 :: 47 :: 32 :: 42 :: 42 :: 32 :: 42 :: 47 :: 9 :: Z) = some (9 :: Z) := by
      simp [afterNote_cons, begins]
    rw [List.tail_cons]
    rw [ha]
  rw [h1, skip_cons, if_pos (by decide)]
theorem toks_skip {l m : L8} (h : skip l = skip m) : toks l = toks m := by rw [toks_step, h, ← toks_step]
theorem tail_none : afterNote tailN = none := by rfl
theorem tail_toks : toks tailN = ([], none) := by rfl
/-- Blanks ahead and behind. -/
theorem blanks_toks (n : Nat) (l : L8) : ((toks l).2 = none → toks (List.replicate n 32 ++ headN ++ l ++ 10 :: tailN) = ((toks l).1.map (shl 6), none)) ∧ (∀ r e, (toks l).2 = some (r, e) → (toks (List.replicate n 32 ++ headN ++ l ++ 10 :: tailN)).2 = some (r + 6, e)) := by
  have h0 : toks (List.replicate n 32 ++ headN ++ l ++ 10 :: tailN) = toks (l ++ 10 :: tailN) := by
    rw [List.append_assoc, List.append_assoc]
    refine (toks_skip (skip_spaces n _)).trans (toks_skip (skip_head _))
  obtain ⟨j1, j2⟩ := toks_join tailN l.length l (Nat.le_refl _)
  rw [h0]
  refine ⟨fun h => ?_, fun r e h => j2 r e tail_none h⟩
  rw [j1 h, tail_toks]
  simp [tailN]
def blanksT (n : Nat) (l : L8) : L8 := List.replicate n 32 ++ headN ++ l ++ 10 :: tailN
theorem blanksT_len (n : Nat) (l : L8) : (blanksT n l).length = n + 13 + l.length + 6 := by
  unfold blanksT
  simp [headN, tailN]
  omega
theorem blanks_plain (n : Nat) (l : L8) (hn : n ≤ 255) (hl : l.length ≤ 10000) :
    (lexS (blanksT n l)).2.2 = (lexS l).2.2 ∧ ((lexS l).2.2 ≠ 0 → (lexS (blanksT n l)).2.1 = (lexS l).2.1 + ((n + 13 : Nat) : Int)) ∧ (lexS (blanksT n l)).1.length = (lexS l).1.length ∧
    (∀ (i : Nat) x y, (lexS l).1[i]? = some x → (lexS (blanksT n l)).1[i]? = some y → Alike false x y ∧ y.f1 = x.f1 + ((n + 13 : Nat) : Int)) := by
  have h1 : ¬ 20000 < l.length := by omega
  have h2 : ¬ 20000 < (blanksT n l).length := by rw [blanksT_len]; omega
  obtain ⟨b1, b2⟩ := blanks_toks n l
  have hlen := blanksT_len n l
  cases ht : (toks l).2 with
  | none =>
    have hz : toks (blanksT n l) = ((toks l).1.map (shl 6), none) := b1 ht
    rw [lexS_ok h1 ht, lexS_ok h2 (by rw [hz]), hz, hlen]
    refine ⟨rfl, fun h => absurd rfl h, by simp, fun i x y hx hy => ?_⟩
    simp only [] at hx hy
    rw [List.getElem?_map] at hx
    rw [List.getElem?_map, List.getElem?_map] at hy
    cases hq : (toks l).1[i]? with
    | none => rw [hq] at hx; cases hx
    | some z =>
      rw [hq] at hx hy
      simp only [Option.map_some, Option.some.injEq] at hx hy
      subst hx hy
      have hle := toks_left l z (List.mem_of_getElem? hq)
      refine ⟨⟨rfl, rfl, rfl, fun h => by cases h⟩, ?_⟩
      show ((n + 13 + l.length + 6 - (z.left + 6) : Nat) : Int) = ((l.length - z.left : Nat) : Int) + ((n + 13 : Nat) : Int)
      omega
  | some p =>
    obtain ⟨r, e⟩ := p
    have hz := b2 r e ht
    have hr := (toks_err2 ht).2
    rw [lexS_bad h1 ht, lexS_bad h2 hz, hlen]
    refine ⟨rfl, fun _ => ?_, rfl, fun i x y hx => by simp at hx⟩
    show ((n + 13 + l.length + 6 - (r + 6) : Nat) : Int) = ((l.length - r : Nat) : Int) + ((n + 13 : Nat) : Int)
    omega
/-! ### What is left is left alone -/
theorem skipF_fix (k : Nat) : ∀ (l r : L8), skipF k l = .ok r → l.length ≤ k → skip r = .ok r := by
  induction k with
  | zero =>
    intro l r h hl
    obtain rfl := List.eq_nil_of_length_eq_zero (Nat.le_zero.1 hl)
    unfold skipF at h
    injection h with h
    subst h
    rfl
  | succ k ih =>
    intro l r h hl
    cases l with
    | nil =>
      unfold skipF at h
      injection h with h
      subst h
      rfl
    | cons c t =>
      rw [List.length_cons] at hl
      have hd := dropLine_le t.tail
      rw [List.length_tail] at hd
      unfold skipF at h
      split at h
      · exact ih t r h (by omega)
      · rename_i h1
        split at h
        · exact ih _ r h (by omega)
        · rename_i h2
          split at h
          · cases ha : afterNote t.tail with
            | none => rw [ha] at h; cases h
            | some q =>
              rw [ha] at h
              have := afterNote_lt _ _ ha
              rw [List.length_tail] at this
              exact ih q r h (by omega)
          · rename_i h3
            injection h with h
            subst h
            rw [skip_cons, if_neg h1, if_neg h2, if_neg h3]
theorem skip_fix {l r : L8} (h : skip l = .ok r) : skip r = .ok r := skipF_fix _ l r h (Nat.le_refl _)
theorem skip_first {c : UInt8} {t : L8} (h : skip (c :: t) = .ok (c :: t)) : isBl c = false ∧ begins 47 47 (c :: t) = false ∧ begins 47 42 (c :: t) = false := by
  rw [skip_cons] at h
  have hne : ∀ m : L8, m.length ≤ t.length → skip m ≠ .ok (c :: t) := fun m hm he => by
    have := skip_le (.inl he)
    rw [List.length_cons] at this
    omega
  have hd := dropLine_le t.tail
  rw [List.length_tail] at hd
  split at h
  · exact absurd h (hne t (Nat.le_refl _))
  · rename_i h1
    split at h
    · exact absurd h (hne _ (by omega))
    · rename_i h2
      split at h
      · cases ha : afterNote t.tail with
        | none => rw [ha] at h; cases h
        | some q =>
          rw [ha] at h
          have := afterNote_lt _ _ ha
          rw [List.length_tail] at this
          exact absurd h (hne q (by omega))
      · rename_i h3
        exact ⟨by simpa using h1, by simpa using h2, by simpa using h3⟩
theorem begins_prefix_of {a b : UInt8} {x l : L8} (h : x <+: l) (hb : begins a b x = true) : begins a b l = true := by
  obtain ⟨t, rfl⟩ := begins_two hb
  obtain ⟨q, rfl⟩ := h
  simp [begins]
/-- A beginning of what is left is left alone. -/
theorem skip_prefix {c : UInt8} {t x : L8} (h : skip (c :: t) = .ok (c :: t)) (hx : (c :: x) <+: (c :: t)) : skip (c :: x) = .ok (c :: x) := by
  obtain ⟨h1, h2, h3⟩ := skip_first h
  rw [skip_cons, if_neg (by simp [h1]), if_neg, if_neg]
  · intro hb
    rw [begins_prefix_of hx hb] at h3
    exact absurd h3 (by simp)
  · intro hb
    rw [begins_prefix_of hx hb] at h2
    exact absurd h2 (by simp)
/-! ### LexRises: between tokens there are blanks and notes alone -/
theorem afterNote_cross (u v : L8) (hv : v ≠ []) : afterNote u = none → ∀ r, afterNote (u ++ v) = some r → r.length < v.length := by
  induction u with
  | nil => intro _ r h; exact afterNote_lt _ _ h
  | cons c u ih =>
    intro h r hr
    rw [afterNote_cons] at h
    rw [List.cons_append, afterNote_cons] at hr
    by_cases hb : begins 42 47 (c :: u) = true
    · rw [if_pos hb] at h; cases h
    · rw [if_neg hb] at h
      by_cases hb2 : begins 42 47 (c :: (u ++ v)) = true
      · rw [if_pos hb2] at hr
        injection hr with hr
        cases u with
        | nil =>
          subst hr
          rw [List.nil_append, List.length_tail]
          have := List.length_pos_iff.2 hv
          omega
        | cons d u => exact absurd hb2 hb
      · rw [if_neg hb2] at hr
        exact ih h r hr
theorem dropLine_cons (c : UInt8) (l : L8) : dropLine (c :: l) = if c.toNat = 10 then c :: l else dropLine l := rfl
theorem dropLine_cross (u v : L8) : dropLine (u ++ v) = dropLine u ++ v ∨ (dropLine u = [] ∧ dropLine (u ++ v) = dropLine v) := by
  induction u with
  | nil => exact .inr ⟨rfl, rfl⟩
  | cons c u ih =>
    rw [List.cons_append, dropLine_cons, dropLine_cons]
    split
    · exact .inl rfl
    · exact ih
theorem skip_between : ∀ (n : Nat) (u v : L8), u.length ≤ n → skip (u ++ v) = .ok v → skip u = .ok [] := by
  intro n
  induction n with
  | zero =>
    intro u v hu _
    obtain rfl := List.eq_nil_of_length_eq_zero (Nat.le_zero.1 hu)
    rfl
  | succ n ih =>
    intro u v hu h
    cases u with
    | nil => rfl
    | cons c u =>
      rw [List.length_cons] at hu
      rw [List.cons_append, skip_cons] at h
      rw [skip_cons]
      have far : ∀ m : L8, m.length < v.length → skip m ≠ .ok v := fun m hm he => by
        have := skip_le (.inl he)
        omega
      by_cases h1 : isBl c = true
      · rw [if_pos h1] at h ⊢
        exact ih u v (by omega) h
      · rw [if_neg h1] at h ⊢
        by_cases h2 : begins 47 47 (c :: (u ++ v)) = true
        · rw [if_pos h2] at h
          cases u with
          | nil =>
            exfalso
            rw [List.nil_append] at h
            cases v with
            | nil => simp [begins] at h2
            | cons d v =>
              have hd := dropLine_le (d :: v).tail
              rw [List.length_tail] at hd
              exact far _ (by simp only [List.length_cons] at hd ⊢; omega) h
          | cons d u =>
            have h2' : begins 47 47 (c :: d :: u) = true := h2
            rw [if_pos h2']
            show skip (dropLine u) = .ok []
            have h' : skip (dropLine (u ++ v)) = .ok v := h
            have hd := dropLine_le u
            rw [List.length_cons] at hu
            rcases dropLine_cross u v with h3 | ⟨h3, h4⟩
            · rw [h3] at h'
              exact ih _ v (by omega) h'
            · rw [h3]
              rfl
        · rw [if_neg h2] at h
          have h2u : ¬ begins 47 47 (c :: u) = true := fun hb => h2 (begins_prefix_of (by exact ⟨v, rfl⟩) hb)
          rw [if_neg h2u]
          by_cases h3 : begins 47 42 (c :: (u ++ v)) = true
          · rw [if_pos h3] at h
            cases u with
            | nil =>
              exfalso
              rw [List.nil_append] at h
              cases v with
              | nil => simp [begins] at h3
              | cons d v =>
                cases ha : afterNote (d :: v).tail with
                | none => rw [ha] at h; cases h
                | some q =>
                  rw [ha] at h
                  have := afterNote_lt _ _ ha
                  rw [List.length_tail] at this
                  exact far q (by omega) h
            | cons d u =>
              have h3' : begins 47 42 (c :: d :: u) = true := h3
              rw [if_pos h3']
              show (match afterNote u with | some r => skip r | none => Sk.bad (c :: d :: u)) = .ok []
              have h' : (match afterNote (u ++ v) with | some r => skip r | none => Sk.bad (c :: d :: (u ++ v))) = .ok v := h
              rw [List.length_cons] at hu
              cases ha : afterNote u with
              | some q =>
                rw [afterNote_some _ v _ ha] at h'
                have := afterNote_lt _ _ ha
                exact ih q v (by omega) h'
              | none =>
                exfalso
                cases hb : afterNote (u ++ v) with
                | none => rw [hb] at h'; cases h'
                | some r =>
                  rw [hb] at h'
                  by_cases hv : v = []
                  · rw [hv, List.append_nil, ha] at hb; cases hb
                  · exact far r (afterNote_cross u v hv ha r hb) h'
          · rw [if_neg h3] at h
            injection h with h
            have := congrArg List.length h
            simp only [List.length_cons, List.length_append] at this
            omega
theorem between_lex {u v : L8} (hu : ¬ 20000 < u.length) (h : skip (u ++ v) = .ok v) : lexS u = ([], 0, 0) := by
  have hs := skip_between u.length u v (Nat.le_refl _) h
  rw [lexS_A hu, lexA_end hs]
end Go.Proofs.Ytikfgdkplgfiiaa.G
