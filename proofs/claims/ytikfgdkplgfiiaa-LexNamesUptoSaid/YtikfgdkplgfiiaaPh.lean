/- Same, plain; how many tokens there are. Plain Lean, no program. -/
import Derived.Test.YtikfgdkplgfiiaaPg
import Derived.Test.YtikfgdkplgfiiaaGx6
namespace Go.Proofs.Ytikfgdkplgfiiaa.G
open Go.RowKit Go.Proofs.Ytikfgdkplgfiiaa.B Go.Proofs.YtikfgdkplgfiiaaW.PrintWords Go.Proofs.YtikfgdkplgfiiaaW.PrintLast Go.Proofs.YtikfgdkplgfiiaaW.PrintMore

theorem toksF_len : ∀ (k : Nat) (l : L8), (toksF k l).1.length ≤ l.length := by
  intro k
  induction k with
  | zero => intro l; exact Nat.zero_le _
  | succ k ih =>
    intro l
    unfold toksF
    cases hs : skip l with
    | bad r => exact Nat.zero_le _
    | ok r =>
      cases r with
      | nil => exact Nat.zero_le _
      | cons c t =>
        simp only []
        by_cases he : (tokS (c :: t)).err = 0
        · rw [if_pos he]
          have hl := skip_le (.inl hs)
          obtain ⟨t1, t2, _⟩ := tok_text he
          have := ih ((c :: t).drop (tokS (c :: t)).text.length)
          rw [List.length_drop] at this
          simp only [List.length_cons] at this hl t2 ⊢
          omega
        · rw [if_neg he]
          exact Nat.zero_le _
theorem toks_len (l : L8) : (toks l).1.length ≤ l.length := toksF_len _ l
theorem lexS_len (l : L8) : (lexS l).1.length ≤ 20000 := by
  unfold lexS
  split
  · exact Nat.zero_le _
  · cases (toks l).2 with
    | some p => exact Nat.zero_le _
    | none =>
      have := toks_len l
      simp only [List.length_map]
      omega
theorem rd_T {l : List S32} {i : Nat} {x : S32} (h : l[i]? = some x) : rd_T32 l (i : Int) = x := by
  unfold rd_T32
  rw [Int.toNat_natCast, List.getD_eq_getElem?_getD, h]
  rfl
/-- Alike, but for their places. -/
def Alike (p : Bool) (x y : S32) : Prop := x.f0 = y.f0 ∧ x.f2.toList = y.f2.toList ∧ x.f3 = y.f3 ∧ (p = true → x.f1 = y.f1)
theorem same_l0 (l m : List S32) (p : Bool) (hl : l.length = m.length) (h9 : l.length ≤ 1000000) (h : ∀ (i : Nat) x y, l[i]? = some x → m[i]? = some y → Alike p x y) : ∀ (k i : Nat), i ≤ l.length → l.length - i < k → crosstreeref01_Same.l0 k l m p (i : Int) = some true := by
  intro k
  induction k with
  | zero => intro i h1 h2; omega
  | succ k ih =>
    intro i h1 h2
    rw [crosstreeref01_Same.l0]
    by_cases hlt : i < l.length
    · obtain ⟨x, hx⟩ : ∃ x, l[i]? = some x := ⟨_, List.getElem?_eq_getElem hlt⟩
      obtain ⟨y, hy⟩ : ∃ y, m[i]? = some y := ⟨_, List.getElem?_eq_getElem (by omega)⟩
      obtain ⟨a1, a2, a3, a4⟩ := h i x y hx hy
      have hw : wrap64 ((i : Int) + 1) = ((i + 1 : Nat) : Int) := by unfold wrap64; omega
      rw [if_pos (by omega), if_pos (by omega), if_pos (by omega), rd_T hx, rd_T hy, if_pos a1, if_pos a2, if_pos a3, hw, ih (i + 1) (by omega) (by omega)]
      cases p with
      | true => rw [if_pos rfl, if_pos (a4 rfl)]
      | false => rw [if_neg (by simp)]
    · rw [if_neg (by omega)]
theorem same_f {l m : List S32} {p : Bool} (hl : l.length = m.length) (h9 : l.length ≤ 1000000) (h : ∀ (i : Nat) x y, l[i]? = some x → m[i]? = some y → Alike p x y) : crosstreeref01_Same.f 2000000 l m p = some true := by
  unfold crosstreeref01_Same.f
  rw [if_pos (by omega)]
  exact same_l0 l m p hl h9 h 2000000 0 (Nat.zero_le _) (by omega)
theorem alike_refl (p : Bool) (l : List S32) : ∀ (i : Nat) x y, l[i]? = some x → l[i]? = some y → Alike p x y := fun i x y hx hy => by
  rw [hx] at hy
  injection hy with hy
  subst hy
  exact ⟨rfl, rfl, rfl, fun _ => rfl⟩
end Go.Proofs.Ytikfgdkplgfiiaa.G
