/- Tokens: what a token has of its text; all tokens of a text. Plain Lean, no program. -/
import Derived.Test.YtikfgdkplgfiiaaPa
namespace Go.Proofs.Ytikfgdkplgfiiaa.G
open Go.RowKit Go.Proofs.Ytikfgdkplgfiiaa.B Go.Proofs.YtikfgdkplgfiiaaW.PrintWords Go.Proofs.YtikfgdkplgfiiaaW.PrintLast Go.Proofs.YtikfgdkplgfiiaaW.PrintMore

theorem wordLen_pos {c : UInt8} {t : L8} (h : isWd c = true) : 0 < wordLen (c :: t) := by
  rw [wordLen_cons, if_pos h]; omega
theorem take_len {l : L8} {n : Nat} (h : n ≤ l.length) : (l.take n).length = n := by rw [List.length_take]; omega
theorem numS_len (l : L8) : (numS l).2.1 ≤ wordLen l ∧ ((numS l).2.2 = 0 → (numS l).2.1 = wordLen l) ∧ ((numS l).2.2 = 0 ∨ (numS l).2.2 = 2 ∨ (numS l).2.2 = 5) := by
  unfold numS
  generalize (if hexS l = true then 16 else 10) = base
  generalize (if hexS l = true then 2 else 0) = fr
  split
  · simp
  · split
    · simp
    · split <;> simp
theorem charS_some {l : L8} {d : UInt8} (h : charS l = some d) : ∃ c e t, l = c :: d :: e :: t ∧ e.toNat = 39 ∧ 32 ≤ d.toNat ∧ d.toNat ≤ 126 ∧ d.toNat ≠ 39 ∧ d.toNat ≠ 92 := by
  unfold charS at h
  split at h
  · rename_i c d' e t
    split at h
    · rename_i hc
      injection h with h
      subst h
      exact ⟨c, e, t, rfl, hc⟩
    · cases h
  · cases h
theorem signS_some {l x : L8} (h : signS l = some x) : x ∈ signsL ∧ x <+: l := by
  unfold signS at h
  have h2 := List.find?_some (p := fun x : L8 => x.isPrefixOf l) h
  exact ⟨List.mem_of_find?_eq_some h, List.isPrefixOf_iff_prefix.1 h2⟩
theorem sign_len {x : L8} (h : x ∈ signsL) : 0 < x.length ∧ x.length ≤ 2 := by
  have : ∀ x ∈ signsL, 0 < x.length ∧ x.length ≤ 2 := by decide
  exact this x h
theorem tok_text {l : L8} (h : (tokS l).err = 0) : 0 < (tokS l).text.length ∧ (tokS l).text.length ≤ l.length ∧ (tokS l).text = l.take (tokS l).text.length := by
  cases l with
  | nil => simp [tokS] at h
  | cons c t =>
    have hwl := wordLen_le (c :: t)
    unfold tokS at h ⊢
    simp only [] at h ⊢
    split at h
    · rename_i hc
      rw [if_pos hc]
      split at h
      · simp at h
      · rename_i h24
        rw [if_neg h24]
        simp only []
        rw [take_len hwl]
        exact ⟨wordLen_pos ((isWd_iff c).2 (.inl hc)), hwl, rfl⟩
    · rename_i hc
      rw [if_neg hc]
      split at h
      · rename_i hd
        rw [if_pos hd]
        simp only [] at h ⊢
        obtain ⟨h1, h2, _⟩ := numS_len (c :: t)
        rw [h2 h, take_len hwl]
        exact ⟨wordLen_pos ((isWd_iff c).2 (.inr hd)), hwl, rfl⟩
      · rename_i hd
        rw [if_neg hd]
        split at h
        · rename_i hq
          rw [if_pos hq]
          cases hs : charS (c :: t) with
          | none => rw [hs] at h; simp at h
          | some d =>
            obtain ⟨c', e, t', he, _⟩ := charS_some hs
            rw [he]
            simp
        · rename_i hq
          rw [if_neg hq]
          cases hs : signS (c :: t) with
          | none => rw [hs] at h; simp at h
          | some x =>
            obtain ⟨h1, h2⟩ := signS_some hs
            simp only []
            exact ⟨(sign_len h1).1, h2.length_le, List.prefix_iff_eq_take.1 h2⟩
theorem skipF_le (k : Nat) : ∀ l r, skipF k l = .ok r ∨ skipF k l = .bad r → r.length ≤ l.length := by
  induction k with
  | zero =>
    intro l r h
    rcases h with h | h
    · unfold skipF at h
      injection h with h
      subst h
      exact Nat.le_refl _
    · unfold skipF at h; cases h
  | succ k ih =>
    intro l r h
    cases l with
    | nil =>
      rcases h with h | h
      · unfold skipF at h
        injection h with h
        subst h
        exact Nat.le_refl _
      · unfold skipF at h; cases h
    | cons c t =>
      unfold skipF at h
      have hd := dropLine_le t.tail
      rw [List.length_tail] at hd
      rw [List.length_cons]
      split at h
      · have := ih t r h
        omega
      · split at h
        · have := ih _ r h
          omega
        · split at h
          · cases ha : afterNote t.tail with
            | none =>
              rw [ha] at h
              rcases h with h | h
              · cases h
              · injection h with h; subst h; simp
            | some q =>
              rw [ha] at h
              have h1 := ih _ r h
              have h2 := afterNote_lt _ _ ha
              rw [List.length_tail] at h2
              omega
          · rcases h with h | h
            · injection h with h; subst h; simp
            · cases h
theorem skip_le {l r : L8} (h : skip l = .ok r ∨ skip l = .bad r) : r.length ≤ l.length := skipF_le _ l r h
def toks (l : L8) : List At × Option (Nat × Nat) := toksF (l.length + 1) l
theorem toksF_more : ∀ (k m : Nat) (l : L8), l.length < k → l.length < m → toksF k l = toksF m l := by
  intro k
  induction k with
  | zero => intro m l h; omega
  | succ k ih =>
    intro m l h1 h2
    cases m with
    | zero => omega
    | succ m =>
      unfold toksF
      cases hs : skip l with
      | bad r => rfl
      | ok r =>
        cases r with
        | nil => rfl
        | cons c t =>
          simp only []
          by_cases he : (tokS (c :: t)).err = 0
          · rw [if_pos he, if_pos he]
            have hl := skip_le (.inl hs)
            obtain ⟨t1, t2, _⟩ := tok_text he
            have hd : ((c :: t).drop (tokS (c :: t)).text.length).length < (c :: t).length := by rw [List.length_drop]; omega
            rw [ih m _ (by omega) (by omega)]
          · rw [if_neg he, if_neg he]
theorem toks_step (l : L8) : toks l = match skip l with
    | .bad r => ([], some (r.length, 2))
    | .ok [] => ([], none)
    | .ok (c :: t) => if (tokS (c :: t)).err = 0 then
        ((⟨tokS (c :: t), t.length + 1⟩ : At) :: (toks ((c :: t).drop (tokS (c :: t)).text.length)).1, (toks ((c :: t).drop (tokS (c :: t)).text.length)).2)
      else ([], some (t.length + 1, (tokS (c :: t)).err)) := by
  unfold toks
  rw [toksF]
  cases hs : skip l with
  | bad r => rfl
  | ok r =>
    cases r with
    | nil => rfl
    | cons c t =>
      simp only []
      by_cases he : (tokS (c :: t)).err = 0
      · rw [if_pos he, if_pos he]
        have hl := skip_le (.inl hs)
        obtain ⟨t1, t2, _⟩ := tok_text he
        have hd : ((c :: t).drop (tokS (c :: t)).text.length).length < (c :: t).length := by rw [List.length_drop]; omega
        rw [toksF_more l.length _ _ (by omega) (Nat.lt_succ_self _)]
      · rw [if_neg he, if_neg he]
theorem toks_bad {l r : L8} (h : skip l = .bad r) : toks l = ([], some (r.length, 2)) := by rw [toks_step, h]
theorem toks_end {l : L8} (h : skip l = .ok []) : toks l = ([], none) := by rw [toks_step, h]
theorem toks_err {l t : L8} {c : UInt8} (h : skip l = .ok (c :: t)) (he : (tokS (c :: t)).err ≠ 0) : toks l = ([], some (t.length + 1, (tokS (c :: t)).err)) := by rw [toks_step, h]; simp only []; rw [if_neg he]
theorem toks_more {l t : L8} {c : UInt8} (h : skip l = .ok (c :: t)) (he : (tokS (c :: t)).err = 0) : toks l = ((⟨tokS (c :: t), t.length + 1⟩ : At) :: (toks ((c :: t).drop (tokS (c :: t)).text.length)).1, (toks ((c :: t).drop (tokS (c :: t)).text.length)).2) := by rw [toks_step, h]; simp only []; rw [if_pos he]
/-! ### The results in Go's shape -/
def toB (l : L8) : ByteArray := ⟨l.toArray⟩
theorem toB_list (l : L8) : (toB l).toList = l := by rw [bytes_toList]; rfl
theorem list_toB (b : ByteArray) : toB b.toList = b := by apply bytes_eq; rw [toB_list]
theorem toB_size (l : L8) : (toB l).size = l.length := rfl
/-- Where a token stands in a text of n bytes. -/
def atS32 (n : Nat) (x : At) : S32 := ⟨(x.tk.kind : Int), ((n - x.left : Nat) : Int), toB x.tk.text, (x.tk.n : Int)⟩
/-- All: tokens, place, error. -/
def lexS (s : L8) : List S32 × Int × Int :=
  if 20000 < s.length then ([], 0, 5)
  else match (toks s).2 with
    | some (r, e) => ([], ((s.length - r : Nat) : Int), (e : Int))
    | none => ((toks s).1.map (atS32 s.length), 0, 0)
end Go.Proofs.Ytikfgdkplgfiiaa.G
