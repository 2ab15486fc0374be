/- Texts put together: blanks, notes and tokens of one text behind another. Plain Lean, no program. -/
import Derived.Test.YtikfgdkplgfiiaaPh
namespace Go.Proofs.Ytikfgdkplgfiiaa.G
open Go.RowKit Go.Proofs.Ytikfgdkplgfiiaa.B Go.Proofs.YtikfgdkplgfiiaaW.PrintWords Go.Proofs.YtikfgdkplgfiiaaW.PrintLast Go.Proofs.YtikfgdkplgfiiaaW.PrintMore

/-! ### A byte behind a text that goes on nothing -/
theorem takeWhile_ext {p : UInt8 → Bool} {e : UInt8} (he : p e = false) (l Y : L8) : (l ++ e :: Y).takeWhile p = l.takeWhile p := by
  induction l with
  | nil => rw [List.nil_append, List.takeWhile_cons, he]; rfl
  | cons c l ih =>
    rw [List.cons_append, List.takeWhile_cons, List.takeWhile_cons, ih]
theorem isWd_10 : isWd 10 = false := by decide
theorem isWd_32 : isWd 32 = false := by decide
theorem wordLen_ext {e : UInt8} (he : isWd e = false) (l Y : L8) : wordLen (l ++ e :: Y) = wordLen l := by unfold wordLen; rw [takeWhile_ext he]
theorem begins_ext {a b e : UInt8} (heb : e ≠ b) {l : L8} (hl : l ≠ []) (Y : L8) : begins a b (l ++ e :: Y) = begins a b l := by
  cases l with
  | nil => exact absurd rfl hl
  | cons c l =>
    cases l with
    | nil =>
      show (decide (c = a) && decide (e = b)) = false
      simp [heb]
    | cons d l => rfl
theorem numS_ext {e : UInt8} (he : isWd e = false) (hx : e ≠ 120) {l : L8} (hl : l ≠ []) (Y : L8) : numS (l ++ e :: Y) = numS l := by
  have h1 : hexS (l ++ e :: Y) = hexS l := begins_ext hx hl Y
  have h2 : digsS (l ++ e :: Y) = digsS l := by unfold digsS; rw [takeWhile_ext he, h1]
  have h3 : (l ++ e :: Y).head? = l.head? := by cases l with | nil => exact absurd rfl hl | cons c l => rfl
  rw [numS_eq, numS_eq, h1, h2, wordLen_ext he, h3]
theorem sign_bytes {x : L8} (h : x ∈ signsL) : (∀ c ∈ x, isBl c = false) ∧ 0 < x.length ∧ x.length ≤ 2 := by
  have : ∀ x ∈ signsL, (∀ c ∈ x, isBl c = false) ∧ 0 < x.length ∧ x.length ≤ 2 := by decide
  exact this x h
theorem prefix_ext {e : UInt8} (he : isBl e = true) {x l : L8} (hx : x ∈ signsL) (hl : l ≠ []) (Y : L8) : x.isPrefixOf (l ++ e :: Y) = x.isPrefixOf l := by
  obtain ⟨h1, h2, h3⟩ := sign_bytes hx
  cases x with
  | nil => simp at h2
  | cons a x =>
    cases l with
    | nil => exact absurd rfl hl
    | cons c l =>
      rw [List.cons_append]
      simp only [List.isPrefixOf]
      congr 1
      cases x with
      | nil => rfl
      | cons b x =>
        have hx0 : x = [] := List.eq_nil_of_length_eq_zero (by simp only [List.length_cons] at h3; omega)
        subst hx0
        cases l with
        | nil =>
          have hb : b ≠ e := fun hbe => by
            have := h1 b (by simp)
            rw [hbe, he] at this
            exact absurd this (by simp)
          simp [List.isPrefixOf, hb]
        | cons d l => simp [List.isPrefixOf]
theorem find_congr {α : Type} {p q : α → Bool} : ∀ (l : List α), (∀ x ∈ l, p x = q x) → l.find? p = l.find? q := by
  intro l
  induction l with
  | nil => exact fun _ => rfl
  | cons a l ih =>
    intro h
    rw [List.find?_cons, List.find?_cons, h a (List.mem_cons_self ..), ih (fun x hx => h x (List.mem_cons_of_mem _ hx))]
theorem sign_ext {e : UInt8} (he : isBl e = true) {l : L8} (hl : l ≠ []) (Y : L8) : signS (l ++ e :: Y) = signS l :=
  find_congr signsL (fun _ hx => prefix_ext he hx hl Y)
theorem char_ext10 {l : L8} (Y : L8) : (l ≠ []) → charS (l ++ 10 :: Y) = charS l := by
  intro hl
  cases l with
  | nil => exact absurd rfl hl
  | cons c l =>
    cases l with
    | nil =>
      cases Y with
      | nil => rfl
      | cons f Y =>
        have hno : ¬ (f.toNat = 39 ∧ 32 ≤ (10 : UInt8).toNat ∧ (10 : UInt8).toNat ≤ 126 ∧ (10 : UInt8).toNat ≠ 39 ∧ (10 : UInt8).toNat ≠ 92) := fun h => absurd h.2.1 (by decide)
        exact if_neg hno
    | cons d l =>
      cases l with
      | nil =>
        have hno : ¬ ((10 : UInt8).toNat = 39 ∧ 32 ≤ d.toNat ∧ d.toNat ≤ 126 ∧ d.toNat ≠ 39 ∧ d.toNat ≠ 92) := fun h => absurd h.1 (by decide)
        exact if_neg (t := some d) (e := none) hno
      | cons f l => rfl
theorem char_ext_ok {e : UInt8} {l : L8} {d : UInt8} (Y : L8) (h : charS l = some d) : charS (l ++ e :: Y) = some d := by
  obtain ⟨c, f, t, rfl, _⟩ := charS_some h
  exact h
theorem tokS_cons (c : UInt8) (t : L8) : tokS (c :: t) = if isLet c = true then (if 24 < wordLen (c :: t) then ⟨0, [], 0, 5⟩ else ⟨if isWordS ((c :: t).take (wordLen (c :: t))) = true then 2 else 1, (c :: t).take (wordLen (c :: t)), 0, 0⟩)
    else if isDig c = true then ⟨3, (c :: t).take (numS (c :: t)).2.1, (numS (c :: t)).1, (numS (c :: t)).2.2⟩
    else if c.toNat = 39 then (match charS (c :: t) with | some d => ⟨3, (c :: t).take 3, d.toNat, 0⟩ | none => ⟨0, [], 0, 2⟩)
    else match signS (c :: t) with | some x => ⟨4, x, 0, 0⟩ | none => ⟨0, [], 0, 2⟩ := rfl
theorem tok_ext {e : UInt8} (he : isBl e = true) (hw : isWd e = false) (hx : e ≠ 120) {l : L8} (hl : l ≠ []) (Y : L8) (hc : charS (l ++ e :: Y) = charS l ∨ (tokS l).err = 0) : tokS (l ++ e :: Y) = tokS l := by
  cases l with
  | nil => exact absurd rfl hl
  | cons c t =>
    have n1 := numS_len (c :: t)
    have hwl := wordLen_le (c :: t)
    have e1 := numS_ext hw hx hl Y
    have e2 := wordLen_ext hw (c :: t) Y
    have e3 := sign_ext he hl Y
    rw [List.cons_append] at e1 e2 e3 hc ⊢
    rw [tokS_cons, tokS_cons] at *
    have tk : ∀ n, n ≤ (c :: t).length → (c :: (t ++ e :: Y)).take n = (c :: t).take n := fun n hn => by
      rw [← List.cons_append, List.take_append_of_le_length hn]
    rw [e1, e2, e3, tk _ hwl, tk _ (Nat.le_trans n1.1 hwl)]
    split
    · rfl
    · rename_i h1
      split
      · rfl
      · rename_i h2
        split
        · rename_i h3
          rw [if_neg h1, if_neg h2, if_pos h3] at hc
          cases hcs : charS (c :: t) with
          | some d =>
            have := char_ext_ok (e := e) Y hcs
            rw [List.cons_append] at this
            rw [this]
            simp only []
            rw [tk 3 (by obtain ⟨c', f, t', he', _⟩ := charS_some hcs; rw [he']; simp)]
          | none =>
            rcases hc with hc | hc
            · rw [hc, hcs]
            · rw [hcs] at hc
              simp at hc
        · rfl
theorem isBl_10 : isBl 10 = true := by decide
theorem isBl_32 : isBl 32 = true := by decide
theorem tok_ext10 {l : L8} (hl : l ≠ []) (Y : L8) : tokS (l ++ 10 :: Y) = tokS l := tok_ext isBl_10 isWd_10 (by decide) hl Y (.inl (char_ext10 Y hl))
theorem tok_ext32 {l : L8} (hl : l ≠ []) (Y : L8) (he : (tokS l).err = 0) : tokS (l ++ 32 :: Y) = tokS l := tok_ext isBl_32 isWd_32 (by decide) hl Y (.inr he)
/-! ### Blanks -/
theorem dropLine_ext (l Y : L8) : dropLine (l ++ 10 :: Y) = dropLine l ++ 10 :: Y := by
  induction l with
  | nil => rfl
  | cons c l ih =>
    rw [List.cons_append]
    unfold dropLine
    split
    · rfl
    · exact ih
theorem afterNote_cons (c : UInt8) (l : L8) : afterNote (c :: l) = if begins 42 47 (c :: l) = true then some l.tail else afterNote l := rfl
theorem tail_ext {l X : L8} (h : l ≠ []) : (l ++ X).tail = l.tail ++ X := by
  cases l with
  | nil => exact absurd rfl h
  | cons c l => rfl
theorem afterNote_some (l X : L8) : ∀ r, afterNote l = some r → afterNote (l ++ X) = some (r ++ X) := by
  induction l with
  | nil => intro r h; cases h
  | cons c l ih =>
    intro r h
    rw [afterNote_cons] at h
    rw [List.cons_append, afterNote_cons]
    by_cases hb : begins 42 47 (c :: l) = true
    · obtain ⟨t, he⟩ := begins_two hb
      injection he with h1 h2
      subst h1 h2
      rw [if_pos hb] at h
      injection h with h
      subst h
      rfl
    · rw [if_neg hb] at h
      cases l with
      | nil => cases h
      | cons d l =>
        rw [if_neg (show ¬ (begins 42 47 (c :: ((d :: l) ++ X)) = true) from hb)]
        exact ih r h
theorem afterNote_none (l Y : L8) (h : afterNote l = none) : afterNote (l ++ 10 :: Y) = afterNote Y := by
  induction l with
  | nil =>
    rw [List.nil_append, afterNote_cons, if_neg]
    cases Y with
    | nil => simp [begins]
    | cons d Y => simp [begins]
  | cons c l ih =>
    rw [afterNote_cons] at h
    rw [List.cons_append, afterNote_cons]
    by_cases hb : begins 42 47 (c :: l) = true
    · rw [if_pos hb] at h; cases h
    · rw [if_neg hb] at h
      rw [if_neg]
      · exact ih h
      · rw [← List.cons_append, begins_ext (by decide) (by simp)]
        exact hb
theorem skip_join : ∀ (n : Nat) (l Y : L8), l.length ≤ n → (∀ r, skip l = .ok r → skip (l ++ 10 :: Y) = if r = [] then skip Y else .ok (r ++ 10 :: Y)) ∧ (∀ r, afterNote Y = none → skip l = .bad r → skip (l ++ 10 :: Y) = .bad (r ++ 10 :: Y)) := by
  intro n
  induction n with
  | zero =>
    intro l Y hl
    obtain rfl := List.eq_nil_of_length_eq_zero (Nat.le_zero.1 hl)
    refine ⟨fun r h => ?_, fun r _ h => by rw [skip_nil] at h; cases h⟩
    rw [skip_nil] at h
    injection h with h
    subst h
    rw [if_pos rfl, List.nil_append, skip_cons, if_pos isBl_10]
  | succ n ih =>
    intro l Y hl
    cases l with
    | nil =>
      refine ⟨fun r h => ?_, fun r _ h => by rw [skip_nil] at h; cases h⟩
      rw [skip_nil] at h
      injection h with h
      subst h
      rw [if_pos rfl, List.nil_append, skip_cons, if_pos isBl_10]
    | cons c t =>
      have hlen : t.length ≤ n := by simp at hl; omega
      have b1 : begins 47 47 (c :: (t ++ 10 :: Y)) = begins 47 47 (c :: t) := by rw [← List.cons_append]; exact begins_ext (by decide) (by simp) Y
      have b2 : begins 47 42 (c :: (t ++ 10 :: Y)) = begins 47 42 (c :: t) := by rw [← List.cons_append]; exact begins_ext (by decide) (by simp) Y
      rw [List.cons_append, skip_cons, skip_cons, b1, b2]
      by_cases hb : isBl c = true
      · rw [if_pos hb, if_pos hb]
        exact ih t Y hlen
      · rw [if_neg hb, if_neg hb]
        by_cases h1 : begins 47 47 (c :: t) = true
        · rw [if_pos h1, if_pos h1]
          have htn : t ≠ [] := by obtain ⟨t2, he⟩ := begins_two h1; injection he with _ he; rw [he]; simp
          rw [tail_ext htn, dropLine_ext]
          have hd := dropLine_le t.tail
          rw [List.length_tail] at hd
          exact ih _ Y (by omega)
        · rw [if_neg h1, if_neg h1]
          by_cases h2 : begins 47 42 (c :: t) = true
          · rw [if_pos h2, if_pos h2]
            have htn : t ≠ [] := by obtain ⟨t2, he⟩ := begins_two h2; injection he with _ he; rw [he]; simp
            rw [tail_ext htn]
            cases ha : afterNote t.tail with
            | none =>
              refine ⟨fun r h => (by cases h), fun r hy h => ?_⟩
              rw [afterNote_none _ _ ha, hy]
              simp only [] at h ⊢
              injection h with h
              subst h
              rfl
            | some q =>
              rw [afterNote_some _ _ _ ha]
              have := afterNote_lt _ _ ha
              rw [List.length_tail] at this
              exact ih q Y (by omega)
          · rw [if_neg h2, if_neg h2]
            refine ⟨fun r h => ?_, fun r _ h => by cases h⟩
            injection h with h
            subst h
            rw [if_neg (by simp)]
            rfl
/-! ### Tokens -/
def shl (k : Nat) (x : At) : At := ⟨x.tk, x.left + k⟩
theorem toks_join (Y : L8) : ∀ (n : Nat) (l : L8), l.length ≤ n → ((toks l).2 = none → toks (l ++ 10 :: Y) = ((toks l).1.map (shl (Y.length + 1)) ++ (toks Y).1, (toks Y).2)) ∧
    (∀ r e, afterNote Y = none → (toks l).2 = some (r, e) → (toks (l ++ 10 :: Y)).2 = some (r + (Y.length + 1), e)) := by
  intro n
  induction n with
  | zero =>
    intro l hl
    obtain rfl := List.eq_nil_of_length_eq_zero (Nat.le_zero.1 hl)
    have h0 : toks [] = ([], none) := toks_end skip_nil
    rw [h0]
    refine ⟨fun _ => ?_, fun r e _ h => by cases h⟩
    have hs : skip ([] ++ 10 :: Y) = skip Y := by rw [List.nil_append, skip_cons, if_pos isBl_10]
    rw [toks_step, hs, ← toks_step]
    simp
  | succ n ih =>
    intro l hl
    obtain ⟨k1, k2⟩ := skip_join l.length l Y (Nat.le_refl _)
    cases hs : skip l with
    | bad r =>
      refine ⟨fun h => (by rw [toks_bad hs] at h; cases h), fun r' e hy h => ?_⟩
      rw [toks_bad hs] at h
      rw [toks_bad (k2 r hy hs)]
      simp only [Option.some.injEq, Prod.mk.injEq] at h ⊢
      rw [List.length_append, List.length_cons]
      exact ⟨by omega, h.2⟩
    | ok r =>
      have k3 := k1 r hs
      cases r with
      | nil =>
        rw [if_pos rfl] at k3
        refine ⟨fun _ => ?_, fun r' e _ h => by rw [toks_end hs] at h; cases h⟩
        rw [toks_step, k3, ← toks_step, toks_end hs]
        simp
      | cons c t =>
        rw [if_neg (by simp), List.cons_append] at k3
        have htk : tokS (c :: (t ++ 10 :: Y)) = tokS (c :: t) := by rw [← List.cons_append]; exact tok_ext10 (by simp) Y
        by_cases he : (tokS (c :: t)).err = 0
        · have hle := skip_le (.inl hs)
          obtain ⟨t1, t2, _⟩ := tok_text he
          have hd : ((c :: t).drop (tokS (c :: t)).text.length).length ≤ n := by rw [List.length_drop]; omega
          obtain ⟨j1, j2⟩ := ih _ hd
          have hdr : (c :: (t ++ 10 :: Y)).drop (tokS (c :: (t ++ 10 :: Y))).text.length = (c :: t).drop (tokS (c :: t)).text.length ++ 10 :: Y := by
            rw [htk, ← List.cons_append, List.drop_append_of_le_length t2]
          rw [toks_more hs he, toks_more k3 (by rw [htk]; exact he), hdr, htk]
          refine ⟨fun h => ?_, fun r' e hy h => ?_⟩
          · rw [j1 h]
            simp only [List.map_cons, List.cons_append, Prod.mk.injEq, and_true, List.cons.injEq]
            unfold shl
            simp only [List.length_append, List.length_cons]
            congr 1
            omega
          · exact j2 r' e hy h
        · rw [toks_err hs he, toks_err k3 (by rw [htk]; exact he), htk]
          refine ⟨fun h => (by cases h), fun r' e _ h => ?_⟩
          simp only [Option.some.injEq, Prod.mk.injEq, List.length_append, List.length_cons] at h ⊢
          exact ⟨by omega, h.2⟩
end Go.Proofs.Ytikfgdkplgfiiaa.G
