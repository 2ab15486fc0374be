/- All tokens, round by round. Plain Lean, no program. -/
import Derived.Test.YtikfgdkplgfiiaaPf
namespace Go.Proofs.Ytikfgdkplgfiiaa.G
open Go.RowKit Go.Proofs.Ytikfgdkplgfiiaa.B Go.Proofs.YtikfgdkplgfiiaaW.PrintWords Go.Proofs.YtikfgdkplgfiiaaW.PrintLast Go.Proofs.YtikfgdkplgfiiaaW.PrintMore

theorem dropLine_suf (l : L8) : dropLine l <:+ l := by
  induction l with
  | nil => exact List.suffix_refl _
  | cons c l ih =>
    unfold dropLine
    split
    · exact List.suffix_refl _
    · exact ih.trans (List.suffix_cons c l)
theorem afterNote_suf (l : L8) : ∀ r, afterNote l = some r → r <:+ l := by
  induction l with
  | nil => intro r h; cases h
  | cons c l ih =>
    intro r h
    unfold afterNote at h
    split at h
    · injection h with h
      subst h
      exact (List.tail_suffix l).trans (List.suffix_cons c l)
    · exact (ih r h).trans (List.suffix_cons c l)
theorem skipF_suf (k : Nat) : ∀ l r, skipF k l = .ok r ∨ skipF k l = .bad r → r <:+ l := by
  induction k with
  | zero =>
    intro l r h
    rcases h with h | h
    · unfold skipF at h
      injection h with h
      subst h
      exact List.suffix_refl _
    · unfold skipF at h; cases h
  | succ k ih =>
    intro l r h
    cases l with
    | nil =>
      rcases h with h | h
      · unfold skipF at h
        injection h with h
        subst h
        exact List.suffix_refl _
      · unfold skipF at h; cases h
    | cons c t =>
      unfold skipF at h
      split at h
      · exact (ih t r h).trans (List.suffix_cons c t)
      · split at h
        · exact (ih _ r h).trans ((dropLine_suf _).trans ((List.tail_suffix t).trans (List.suffix_cons c t)))
        · split at h
          · cases ha : afterNote t.tail with
            | none =>
              rw [ha] at h
              rcases h with h | h
              · cases h
              · injection h with h; subst h; exact List.suffix_refl _
            | some q =>
              rw [ha] at h
              exact (ih _ r h).trans ((afterNote_suf _ _ ha).trans ((List.tail_suffix t).trans (List.suffix_cons c t)))
          · rcases h with h | h
            · injection h with h; subst h; exact List.suffix_refl _
            · cases h
theorem skip_suf {l r : L8} (h : skip l = .ok r ∨ skip l = .bad r) : r <:+ l := skipF_suf _ l r h
/-- Where a suffix begins. -/
theorem suf_at {s : ByteArray} {a : Nat} {r : L8} (h : r <:+ s.toList.drop a) (ha : a ≤ s.size) : s.toList.drop (s.size - r.length) = r ∧ a ≤ s.size - r.length ∧ r.length ≤ s.size := by
  have h1 : r <:+ s.toList := h.trans (List.drop_suffix a _)
  have h2 := List.suffix_iff_eq_drop.1 h1
  have h3 := h.length_le
  rw [List.length_drop, tl_len] at h3
  rw [tl_len] at h2
  exact ⟨h2.symm, by omega, by omega⟩
/-- What is told, some tokens being told. -/
def lexA (n : Nat) (acc : List S32) (l : L8) : List S32 × Int × Int := match (toks l).2 with
  | some (r, e) => ([], ((n - r : Nat) : Int), (e : Int))
  | none => (acc ++ (toks l).1.map (atS32 n), 0, 0)
theorem lexS_A {l : L8} (h : ¬ 20000 < l.length) : lexS l = lexA l.length [] l := by
  unfold lexS lexA
  rw [if_neg h]
  cases (toks l).2 <;> simp
theorem lexA_bad {n : Nat} {acc : List S32} {l r : L8} (h : skip l = .bad r) : lexA n acc l = ([], ((n - r.length : Nat) : Int), 2) := by
  unfold lexA; rw [toks_bad h]; rfl
theorem lexA_end {n : Nat} {acc : List S32} {l : L8} (h : skip l = .ok []) : lexA n acc l = (acc, 0, 0) := by
  unfold lexA; rw [toks_end h]; simp
theorem lexA_err {n : Nat} {acc : List S32} {l t : L8} {c : UInt8} (h : skip l = .ok (c :: t)) (he : (tokS (c :: t)).err ≠ 0) : lexA n acc l = ([], ((n - (c :: t).length : Nat) : Int), ((tokS (c :: t)).err : Int)) := by
  unfold lexA; rw [toks_err h he]; rfl
theorem lexA_more {n : Nat} {acc : List S32} {l t : L8} {c : UInt8} (h : skip l = .ok (c :: t)) (he : (tokS (c :: t)).err = 0) : lexA n acc l = lexA n (acc ++ [atS32 n ⟨tokS (c :: t), (c :: t).length⟩]) ((c :: t).drop (tokS (c :: t)).text.length) := by
  unfold lexA
  rw [toks_more h he]
  simp only [List.map_cons]
  cases (toks ((c :: t).drop (tokS (c :: t)).text.length)).2 with
  | some p => rfl
  | none => simp
end Go.Proofs.Ytikfgdkplgfiiaa.G
