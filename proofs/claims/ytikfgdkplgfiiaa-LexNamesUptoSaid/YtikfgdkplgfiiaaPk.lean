/- A token's text alone is that token; names and words; texts put together with blanks. Plain Lean, no program. -/
import Derived.Test.YtikfgdkplgfiiaaPj
namespace Go.Proofs.Ytikfgdkplgfiiaa.G
open Go.RowKit Go.Proofs.Ytikfgdkplgfiiaa.B Go.Proofs.YtikfgdkplgfiiaaW.PrintWords Go.Proofs.YtikfgdkplgfiiaaW.PrintLast Go.Proofs.YtikfgdkplgfiiaaW.PrintMore

theorem takeWhile_idem (p : UInt8 → Bool) (l : L8) : (l.takeWhile p).takeWhile p = l.takeWhile p := by
  induction l with
  | nil => rfl
  | cons c l ih =>
    rw [List.takeWhile_cons]
    cases h : p c with
    | true => simp only [if_true]; rw [List.takeWhile_cons, h, ih]; rfl
    | false => rfl
theorem wordLen_self (l : L8) : wordLen (l.take (wordLen l)) = wordLen l := by
  rw [wordLen_take]
  unfold wordLen
  rw [takeWhile_idem]
theorem hexS_self (l : L8) : hexS (l.take (wordLen l)) = hexS l := by
  rw [Bool.eq_iff_iff]
  constructor
  · exact begins_prefix_of (List.take_prefix _ _)
  · intro h
    obtain ⟨t, rfl, h2⟩ := hex_begin h
    obtain ⟨m, hm⟩ : ∃ m, wordLen (48 :: 120 :: t) = m + 2 := ⟨wordLen (48 :: 120 :: t) - 2, by omega⟩
    rw [hm]
    rfl
theorem numS_self {l : L8} (h0 : 0 < wordLen l) : numS (l.take (wordLen l)) = numS l := by
  have h1 := hexS_self l
  have h2 : digsS (l.take (wordLen l)) = digsS l := by
    unfold digsS
    rw [h1, wordLen_take, takeWhile_idem]
  have h3 : (l.take (wordLen l)).head? = l.head? := by
    obtain ⟨m, hm⟩ : ∃ m, wordLen l = m + 1 := ⟨wordLen l - 1, by omega⟩
    rw [hm]
    cases l <;> rfl
  rw [numS_eq, numS_eq, h1, h2, h3, wordLen_self]
theorem sign_self {x : L8} (h : x ∈ signsL) : signS x = some x ∧ (∃ c t, x = c :: t ∧ isLet c = false ∧ isDig c = false ∧ c.toNat ≠ 39) := by
  have key : ∀ x ∈ signsL, signS x = some x ∧ (x.head?.all (fun c => !isLet c && !isDig c && decide (c.toNat ≠ 39))) = true ∧ x ≠ [] := by decide
  obtain ⟨h1, h2, h3⟩ := key x h
  refine ⟨h1, ?_⟩
  cases x with
  | nil => exact absurd rfl h3
  | cons c t =>
    simp only [List.head?_cons, Option.all_some, Bool.and_eq_true, Bool.not_eq_true', decide_eq_true_eq] at h2
    exact ⟨c, t, rfl, h2.1.1, h2.1.2, h2.2⟩
/-- A token's text alone is that token. -/
theorem tok_self {l : L8} (he : (tokS l).err = 0) : tokS (tokS l).text = tokS l := by
  cases l with
  | nil => simp [tokS] at he
  | cons c t =>
    have hwl := wordLen_le (c :: t)
    rw [tokS_cons] at he ⊢
    by_cases h1 : isLet c = true
    · rw [if_pos h1] at he ⊢
      have h0 : 0 < wordLen (c :: t) := wordLen_pos ((isWd_iff c).2 (.inl h1))
      by_cases h24 : 24 < wordLen (c :: t)
      · rw [if_pos h24] at he; simp at he
      · rw [if_neg h24]
        obtain ⟨m, hm⟩ : ∃ m, wordLen (c :: t) = m + 1 := ⟨wordLen (c :: t) - 1, by omega⟩
        have hself := wordLen_self (c :: t)
        show tokS ((c :: t).take (wordLen (c :: t))) = _
        have hcons : (c :: t).take (wordLen (c :: t)) = c :: t.take m := by rw [hm]; rfl
        rw [hcons] at hself ⊢
        rw [tokS_cons, if_pos h1, hself, if_neg h24]
        have : (c :: t.take m).take (wordLen (c :: t)) = c :: t.take m := by rw [← hcons, List.take_take, Nat.min_self]
        rw [this]
    · rw [if_neg h1] at he ⊢
      by_cases h2 : isDig c = true
      · rw [if_pos h2] at he ⊢
        have h0 : 0 < wordLen (c :: t) := wordLen_pos ((isWd_iff c).2 (.inr h2))
        have hn := (numS_len (c :: t)).2.1 he
        show tokS ((c :: t).take (numS (c :: t)).2.1) = ⟨3, (c :: t).take (numS (c :: t)).2.1, (numS (c :: t)).1, (numS (c :: t)).2.2⟩
        have hns := numS_self h0
        rw [hn]
        obtain ⟨m, hm⟩ : ∃ m, wordLen (c :: t) = m + 1 := ⟨wordLen (c :: t) - 1, by omega⟩
        have hcons : (c :: t).take (wordLen (c :: t)) = c :: t.take m := by rw [hm]; rfl
        rw [hcons] at hns ⊢
        rw [tokS_cons, if_neg h1, if_pos h2, hns, hn]
        have : (c :: t.take m).take (wordLen (c :: t)) = c :: t.take m := by rw [← hcons, List.take_take, Nat.min_self]
        rw [this]
      · rw [if_neg h2] at he ⊢
        by_cases h3 : c.toNat = 39
        · rw [if_pos h3] at he ⊢
          cases hc : charS (c :: t) with
          | none => rw [hc] at he; simp at he
          | some d =>
            obtain ⟨c', e, t', hl, hcond⟩ := charS_some hc
            simp only []
            rw [hl]
            injection hl with hc1 _
            subst hc1
            show tokS [c, d, e] = ⟨3, [c, d, e], d.toNat, 0⟩
            rw [tokS_cons, if_neg h1, if_neg h2, if_pos h3]
            have : charS [c, d, e] = some d := if_pos hcond
            rw [this]
            rfl
        · rw [if_neg h3] at he ⊢
          cases hs : signS (c :: t) with
          | none => rw [hs] at he; simp at he
          | some x =>
            simp only []
            obtain ⟨hx, hpre⟩ := signS_some hs
            obtain ⟨s1, c', t', hx', s2, s3, s4⟩ := sign_self hx
            rw [hx'] at s1 ⊢
            rw [tokS_cons, if_neg (by simp [s2]), if_neg (by simp [s3]), if_neg s4, s1]
/-- A token of a text. -/
structure IsTok (x : Tk) : Prop where
  alone : tokS x.text = x
  err : x.err = 0
  skip : skip x.text = .ok x.text
  ne : x.text ≠ []
theorem tok_of {l : L8} {c : UInt8} {t : L8} (h : skip l = .ok (c :: t)) (he : (tokS (c :: t)).err = 0) : IsTok (tokS (c :: t)) := by
  obtain ⟨t1, t2, t3⟩ := tok_text he
  have hne : (tokS (c :: t)).text ≠ [] := List.length_pos_iff.1 t1
  refine ⟨tok_self he, he, ?_, hne⟩
  have hfix := skip_fix h
  have hpre : (tokS (c :: t)).text <+: (c :: t) := by rw [t3]; exact List.take_prefix _ _
  cases hx : (tokS (c :: t)).text with
  | nil => exact absurd hx hne
  | cons d x =>
    rw [hx] at hpre
    have hd : d = c := by
      obtain ⟨q, hq⟩ := hpre
      injection hq
    subst hd
    exact skip_prefix hfix hpre
theorem toksF_are : ∀ (k : Nat) (l : L8) (z : At), z ∈ (toksF k l).1 → IsTok z.tk := by
  intro k
  induction k with
  | zero => intro l z h; cases h
  | succ k ih =>
    intro l z h
    unfold toksF at h
    cases hs : skip l with
    | bad q => rw [hs] at h; cases h
    | ok q =>
      rw [hs] at h
      cases q with
      | nil => cases h
      | cons c t =>
        simp only [] at h
        by_cases he : (tokS (c :: t)).err = 0
        · rw [if_pos he] at h
          rcases List.mem_cons.1 h with rfl | h
          · exact tok_of hs he
          · exact ih _ z h
        · rw [if_neg he] at h
          cases h
theorem toks_are (l : L8) (z : At) (h : z ∈ (toks l).1) : IsTok z.tk := toksF_are _ l z h
theorem toks_alone {x : Tk} (h : IsTok x) : toks x.text = ([⟨x, x.text.length⟩], none) := by
  obtain ⟨h1, h2, h3, h4⟩ := h
  cases hx : x.text with
  | nil => exact absurd hx h4
  | cons c t =>
    rw [hx] at h1 h3
    rw [toks_more h3 (by rw [h1]; exact h2), h1, hx]
    rw [List.drop_eq_nil_of_le (Nat.le_refl _), toks_end skip_nil]
    rfl
theorem toks_sep {x : Tk} (h : IsTok x) (Z : L8) : toks (x.text ++ 32 :: Z) = (⟨x, x.text.length + (Z.length + 1)⟩ :: (toks Z).1, (toks Z).2) := by
  obtain ⟨h1, h2, h3, h4⟩ := h
  cases hx : x.text with
  | nil => exact absurd hx h4
  | cons c t =>
    rw [hx] at h1 h3 h4
    obtain ⟨f1, f2, f3⟩ := skip_first h3
    have hs : skip (c :: (t ++ 32 :: Z)) = .ok (c :: (t ++ 32 :: Z)) := by
      have b1 : begins 47 47 (c :: (t ++ 32 :: Z)) = begins 47 47 (c :: t) := by rw [← List.cons_append]; exact begins_ext (by decide) h4 Z
      have b2 : begins 47 42 (c :: (t ++ 32 :: Z)) = begins 47 42 (c :: t) := by rw [← List.cons_append]; exact begins_ext (by decide) h4 Z
      rw [skip_cons, b1, b2, f1, f2, f3]
      simp
    have ht : tokS (c :: (t ++ 32 :: Z)) = x := by
      rw [← List.cons_append, tok_ext32 h4 Z (by rw [h1]; exact h2), h1]
    rw [List.cons_append, toks_more hs (by rw [ht]; exact h2), ht, hx]
    have hd : (c :: (t ++ 32 :: Z)).drop (c :: t).length = 32 :: Z := by rw [← List.cons_append, List.drop_left]
    rw [hd]
    have hz : toks (32 :: Z) = toks Z := toks_skip (by rw [skip_cons, if_pos isBl_32])
    rw [hz]
    simp only [List.length_append, List.length_cons]
    congr 3
    omega
/-- The texts with a blank between. -/
def joinS : List L8 → L8
  | [] => []
  | [x] => x
  | x :: y :: r => x ++ 32 :: joinS (y :: r)
theorem join_toks : ∀ (q : List Tk), (∀ x ∈ q, IsTok x) → (toks (joinS (q.map Tk.text))).2 = none ∧ (toks (joinS (q.map Tk.text))).1.map At.tk = q := by
  intro q
  induction q with
  | nil => intro _; exact ⟨by rw [show joinS (([] : List Tk).map Tk.text) = [] from rfl, toks_end skip_nil], by rw [show joinS (([] : List Tk).map Tk.text) = [] from rfl, toks_end skip_nil]; rfl⟩
  | cons x q ih =>
    intro h
    have hx := h x (List.mem_cons_self ..)
    obtain ⟨i1, i2⟩ := ih (fun y hy => h y (List.mem_cons_of_mem _ hy))
    cases q with
    | nil =>
      show (toks x.text).2 = none ∧ (toks x.text).1.map At.tk = [x]
      rw [toks_alone hx]
      exact ⟨rfl, rfl⟩
    | cons y q =>
      show (toks (x.text ++ 32 :: joinS ((y :: q).map Tk.text))).2 = none ∧ (toks (x.text ++ 32 :: joinS ((y :: q).map Tk.text))).1.map At.tk = x :: y :: q
      rw [toks_sep hx]
      exact ⟨i1, by rw [List.map_cons, i2]⟩
end Go.Proofs.Ytikfgdkplgfiiaa.G
