/- ir.row tells its table's row. No condition. -/
import Derived.Test.YtmiacdacebaagaaGx0
import Derived.Test.YtmiacdacebaagaaBase
import Derived.Laws.Tables
import Derived.Great.Walk
set_option linter.unusedVariables false
set_option linter.unusedSimpArgs false
namespace Go.Proofs.Ytmiacdacebaagaa.G
open Go.RowKit Go.Proofs.Ytmiacdacebaagaa.B Go.Proofs.YtmiacdacebaagaaW.PrintWords Go.Proofs.YtmiacdacebaagaaW.PrintLast Go.Proofs.YtmiacdacebaagaaW.PrintMore

def rowTab : Array Value := #[.string ⟨#[]⟩, .string ⟨#[61]⟩, .string ⟨#[61]⟩, .string ⟨#[61, 66]⟩, .string ⟨#[61, 66, 67]⟩, .string ⟨#[61, 66, 67]⟩, .string ⟨#[61, 66]⟩, .string ⟨#[61, 66]⟩, .string ⟨#[61, 66]⟩, .string ⟨#[65, 66]⟩, .string ⟨#[65, 66]⟩, .string ⟨#[65, 66, 67]⟩, .string ⟨#[65, 66, 67]⟩, .string ⟨#[61, 66]⟩, .string ⟨#[65]⟩, .string ⟨#[61, 42]⟩, .string ⟨#[61, 66, 42]⟩, .string ⟨#[]⟩, .string ⟨#[65]⟩, .string ⟨#[63]⟩, .string ⟨#[61]⟩]
def rowZero : Array Value := #[.string ⟨#[]⟩, .string ⟨#[]⟩, .string ⟨#[]⟩, .string ⟨#[]⟩, .string ⟨#[]⟩, .string ⟨#[]⟩, .string ⟨#[]⟩, .string ⟨#[]⟩, .string ⟨#[]⟩, .string ⟨#[]⟩, .string ⟨#[]⟩, .string ⟨#[]⟩, .string ⟨#[]⟩, .string ⟨#[]⟩, .string ⟨#[]⟩, .string ⟨#[]⟩, .string ⟨#[]⟩, .string ⟨#[]⟩, .string ⟨#[]⟩, .string ⟨#[]⟩, .string ⟨#[]⟩]
def rowS (op : Int) : ByteArray :=
  if op < 1 ∨ 20 < op then ⟨#[]⟩
  else if op = 1 ∨ op = 2 ∨ op = 20 then ⟨#[61]⟩
  else if op = 3 ∨ op = 6 ∨ op = 7 ∨ op = 8 ∨ op = 13 then ⟨#[61, 66]⟩
  else if op = 4 ∨ op = 5 then ⟨#[61, 66, 67]⟩
  else if op = 9 ∨ op = 10 then ⟨#[65, 66]⟩
  else if op = 11 ∨ op = 12 then ⟨#[65, 66, 67]⟩
  else if op = 14 ∨ op = 18 then ⟨#[65]⟩
  else if op = 15 then ⟨#[61, 42]⟩
  else if op = 16 then ⟨#[61, 66, 42]⟩
  else if op = 19 then ⟨#[63]⟩
  else ⟨#[]⟩
theorem ops_cases {op : Int} (h1 : 1 ≤ op) (h2 : op ≤ 20) : op = 1 ∨ op = 2 ∨ op = 3 ∨ op = 4 ∨ op = 5 ∨ op = 6 ∨ op = 7 ∨ op = 8 ∨ op = 9 ∨ op = 10 ∨ op = 11 ∨ op = 12 ∨ op = 13 ∨ op = 14 ∨ op = 15 ∨ op = 16 ∨ op = 17 ∨ op = 18 ∨ op = 19 ∨ op = 20 := by omega
theorem rowTab_at {op : Int} (h1 : 1 ≤ op) (h2 : op ≤ 20) : rowTab[op.toNat]? = some (.string (rowS op)) := by
  rcases ops_cases h1 h2 with rfl | rfl | rfl | rfl | rfl | rfl | rfl | rfl | rfl | rfl | rfl | rfl | rfl | rfl | rfl | rfl | rfl | rfl | rfl | rfl <;> rfl
theorem setRow_alloc (w : World) (a b : Array Value) (t : TypeId) : (w.alloc (.cells a t)).setRow w.heap.size b = w.alloc (.cells b t) := by
  unfold World.setRow World.alloc
  congr 1
  apply Array.ext
  · simp
  · intro i h1 h2
    simp only [Array.getElem_modify]
    split
    · rename_i h; subst h; simp
    · rename_i h
      rw [Array.getElem_push_lt (by simp at h1; omega), Array.getElem_push_lt (by simp at h1; omega)]
set_option maxHeartbeats 1600000 in
theorem row_calls (op : Int) (w : World) :
    Calls Try.prog 13 #[.int .i64 op] w fun e w' => e = .returned (.tuple #[.string (rowS op), .bool (decide (1 ≤ op) && decide (op ≤ 20))]) ∧ Below w.heap.size w w' := by
  have HB := Aside0.mk (below_alloc (Below.refl w.heap.size w) (.cells rowTab 37))
  have HC := Aside0.mk (blk_new w (.cells rowTab 37))
  by_cases h1 : op < 1
  · have hs : rowS op = ⟨#[]⟩ := by simp [rowS, h1]
    have e1 : (decide (1 ≤ op) && decide (op ≤ 20)) = false := by simp; omega
    rw [hs, e1]
    clear hs e1
    go_enter Try.func13, Try.ntmps13
    go_upto_region 1 with (fail)
    refine wp_region_lit ?_
    refine Go.Great.wpList_runTo rfl (some 5) rfl (.agg rowTab) w ?b0 (Go.Great.wpList_runTo rfl (some 4) rfl (.pointer (some ⟨w.heap.size, 0, none⟩)) (w.alloc (.cells rowZero 37)) ?c0 (wpList_store_row rfl 37 _ _ rfl w.heap.size rowTab rfl rfl 37 rowZero (blk_new w _) (by kernel_rfl) (by kernel_rfl) (by kernel_rfl) (wpList_nil ?_)))
    case b0 => kernel_rfl
    case c0 => kernel_rfl
    rw [setRow_alloc]
    simp only [Act.put, List.setIfInBounds_toArray, List.set_cons_zero, List.set_cons_succ]
    generalize w.alloc (.cells rowTab 37) = W at HB HC ⊢
    go_wp2_with fail
    exact bodyPost_ret (v := .tuple #[.string ⟨#[]⟩, .bool false]) (by simp [results, Try.results13, go_sem]) rfl ⟨rfl, HB.out⟩
  · by_cases h2 : 20 < op
    · have hs : rowS op = ⟨#[]⟩ := by simp [rowS, h2]
      have e1 : (decide (1 ≤ op) && decide (op ≤ 20)) = false := by simp; omega
      rw [hs, e1]
      clear hs e1
      go_enter Try.func13, Try.ntmps13
      go_upto_region 1 with (fail)
      refine wp_region_lit ?_
      refine Go.Great.wpList_runTo rfl (some 5) rfl (.agg rowTab) w ?b1 (Go.Great.wpList_runTo rfl (some 4) rfl (.pointer (some ⟨w.heap.size, 0, none⟩)) (w.alloc (.cells rowZero 37)) ?c1 (wpList_store_row rfl 37 _ _ rfl w.heap.size rowTab rfl rfl 37 rowZero (blk_new w _) (by kernel_rfl) (by kernel_rfl) (by kernel_rfl) (wpList_nil ?_)))
      case b1 => kernel_rfl
      case c1 => kernel_rfl
      rw [setRow_alloc]
      simp only [Act.put, List.setIfInBounds_toArray, List.set_cons_zero, List.set_cons_succ]
      generalize w.alloc (.cells rowTab 37) = W at HB HC ⊢
      go_wp2_with fail
      exact bodyPost_ret (v := .tuple #[.string ⟨#[]⟩, .bool false]) (by simp [results, Try.results13, go_sem]) rfl ⟨rfl, HB.out⟩
    · have e1 : (decide (1 ≤ op) && decide (op ≤ 20)) = true := by simp; omega
      rw [e1]
      clear e1
      have hc0 := (blk_cell HC.out op.toNat).trans (rowTab_at (by omega) (by omega))
      go_enter Try.func13, Try.ntmps13
      go_upto_region 1 with (fail)
      refine wp_region_lit ?_
      refine Go.Great.wpList_runTo rfl (some 5) rfl (.agg rowTab) w ?b2 (Go.Great.wpList_runTo rfl (some 4) rfl (.pointer (some ⟨w.heap.size, 0, none⟩)) (w.alloc (.cells rowZero 37)) ?c2 (wpList_store_row rfl 37 _ _ rfl w.heap.size rowTab rfl rfl 37 rowZero (blk_new w _) (by kernel_rfl) (by kernel_rfl) (by kernel_rfl) (wpList_nil ?_)))
      case b2 => kernel_rfl
      case c2 => kernel_rfl
      rw [setRow_alloc]
      simp only [Act.put, List.setIfInBounds_toArray, List.set_cons_zero, List.set_cons_succ]
      generalize w.alloc (.cells rowTab 37) = W at HB HC hc0 ⊢
      clear HC
      have h3 : 0 ≤ op := by omega
      have h4 : op < 21 := by omega
      go_wp2_with fail
      exact bodyPost_ret (v := .tuple #[.string (rowS op), .bool true]) (by simp [results, Try.results13, go_sem]) rfl ⟨rfl, HB.out⟩
end Go.Proofs.Ytmiacdacebaagaa.G
