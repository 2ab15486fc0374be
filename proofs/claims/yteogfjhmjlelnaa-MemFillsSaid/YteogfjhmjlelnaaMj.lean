/- A byte put into a block's row. No condition. -/
import Derived.Test.YteogfjhmjlelnaaMi
set_option linter.unusedVariables false
set_option linter.unusedSimpArgs false
namespace Go.Proofs.Yteogfjhmjlelnaa.G
open Go.RowKit Go.Proofs.Yteogfjhmjlelnaa.B Go.Proofs.YteogfjhmjlelnaaW.PrintWords Go.Proofs.YteogfjhmjlelnaaW.PrintLast Go.Proofs.YteogfjhmjlelnaaW.PrintMore

theorem encB_set (x : Bt) : ∀ (l : List Bt) (i : Nat), i < l.length → (((((encB l).set (i * 5) (.int .i64 x.k)).set (i * 5 + 1) (.int .u8 x.v)).set (i * 5 + 2) (.int .i64 x.p.n)).set (i * 5 + 3) (.int .i64 x.p.b)).set (i * 5 + 4) (.int .i64 x.p.f) = encB (l.set i x)
  | [], i, h => by simp at h
  | y :: l, 0, _ => by simp [encB, Bt.cells]
  | y :: l, i + 1, h => by
    have ih := encB_set x l i (by simpa using h)
    have e : encB (y :: l) = y.cells ++ encB l := rfl
    rw [List.set_cons_succ, show encB (y :: l.set i x) = y.cells ++ encB (l.set i x) from rfl, ← ih, e]
    have hl : y.cells.length = 5 := rfl
    rw [show (i + 1) * 5 = y.cells.length + i * 5 by rw [hl]; omega]
    simp only [Nat.add_assoc, List.set_append_right _ _ (Nat.le_add_right _ _), Nat.add_sub_cancel_left]
theorem Bytes.put {w : World} {gb : Nat} {l : List Bt} (h : Bytes w gb l) {i : Nat} (hi : i < l.length) (x : Bt) :
    Bytes (((((w.setCell ⟨gb, i * 5, none⟩ (.int .i64 x.k)).setCell ⟨gb, i * 5 + 1, none⟩ (.int .u8 x.v)).setCell ⟨gb, i * 5 + 2, none⟩ (.int .i64 x.p.n)).setCell ⟨gb, i * 5 + 3, none⟩ (.int .i64 x.p.b)).setCell ⟨gb, i * 5 + 4, none⟩ (.int .i64 x.p.f)) gb (l.set i x) := by
  unfold Bytes at h ⊢
  refine blk_put (blk_put (blk_put (blk_put (blk_put h _ _ rfl) _ _ rfl) _ _ rfl) _ _ rfl) _ _ ?_
  rw [← encB_set x l i hi]
  simp
end Go.Proofs.Yteogfjhmjlelnaa.G
