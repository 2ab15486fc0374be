/- ir.Writes tells register A just if the row begins with '='. The argument reads as an instruction. -/
import Derived.Test.YtmiacdacebaagaaIa
import Derived.Test.YtmiacdacebaagaaGx1
import Derived.Test.YtmiacdacebaagaaGx3
set_option linter.unusedVariables false
set_option linter.unusedSimpArgs false
namespace Go.Proofs.Ytmiacdacebaagaa.G
open Go.RowKit Go.Proofs.Ytmiacdacebaagaa.B Go.Proofs.YtmiacdacebaagaaW.PrintWords Go.Proofs.YtmiacdacebaagaaW.PrintLast Go.Proofs.YtmiacdacebaagaaW.PrintMore

def wr (op : Int) : Bool := (decide (1 ≤ op) && decide (op ≤ 8)) || op == 13 || op == 15 || op == 16 || op == 20
theorem pre_ok (op : Int) : strings_HasPrefix.f (rowS op) ⟨#[61]⟩ = some (wr op) := by
  by_cases h : 1 ≤ op ∧ op ≤ 20
  · rcases ops_cases h.1 h.2 with rfl | rfl | rfl | rfl | rfl | rfl | rfl | rfl | rfl | rfl | rfl | rfl | rfl | rfl | rfl | rfl | rfl | rfl | rfl | rfl <;> (simp only [strings_HasPrefix.f, stringslite_HasPrefix.f, bytes_toList]; kernel_rfl)
  · have hs : rowS op = ⟨#[]⟩ := by unfold rowS; rw [if_pos (by omega)]
    have hw : wr op = false := by simp [wr]; omega
    rw [hs, hw]; rfl
theorem refwrites_ok (op : Int) : crosstreeref08_writes.f op = some (wr op) := by
  unfold crosstreeref08_writes.f wr
  by_cases h1 : op ≥ 1
  · by_cases h8 : op ≤ 8
    · simp [h1, h8]
    · simp only [if_pos h1, if_neg h8]
      by_cases e13 : op = 13
      · subst e13; rfl
      · by_cases e15 : op = 15
        · subst e15; rfl
        · by_cases e16 : op = 16
          · subst e16; rfl
          · simp [e13, e15, e16, h8]
  · have : op ≠ 13 ∧ op ≠ 15 ∧ op ≠ 16 := by omega
    simp [h1, this]
theorem refWrites_ok (a0 a1 a2 a3 a4 a5 : Int) (s : ByteArray) (l : List Int) : crosstreeref08_Writes.f a0 a1 a2 a3 a4 a5 s l = some (if wr a0 = true then a1 else -1) := by
  unfold crosstreeref08_Writes.f
  rw [refwrites_ok]
  show (if wr a0 = true then some a1 else some (-1)) = _
  split <;> rfl
set_option maxHeartbeats 1600000 in
theorem writes_calls (a0 a1 a2 a3 a4 a5 : Int) (s : ByteArray) (A : Option Addr) (n c : Nat) (w : World) :
    Calls Try.prog 11 #[.agg #[.int .i64 a0, .int .i64 a1, .int .i64 a2, .int .i64 a3, .int .i64 a4, .int .i64 a5, .string s, .slice A n c]] w fun e w' => e = .returned (.int .i64 (if wr a0 = true then a1 else -1)) ∧ Below w.heap.size w w' := by
  have HB := Aside0.mk (below_alloc (Below.refl w.heap.size w) (.cells #[.int .i64 a0, .int .i64 a1, .int .i64 a2, .int .i64 a3, .int .i64 a4, .int .i64 a5, .string s, .slice A n c] 24))
  have HX := Aside0.mk (blk_new w (.cells #[.int .i64 a0, .int .i64 a1, .int .i64 a2, .int .i64 a3, .int .i64 a4, .int .i64 a5, .string s, .slice A n c] 24))
  generalize hr : (if wr a0 = true then a1 else -1) = r
  have HR := Aside0.mk hr
  clear hr
  go_enter Try.func11, Try.ntmps11
  go_upto_region 1 with (fail)
  generalize w.alloc (.cells #[.int .i64 a0, .int .i64 a1, .int .i64 a2, .int .i64 a3, .int .i64 a4, .int .i64 a5, .string s, .slice A n c] 24) = W at HB HX ⊢
  have h0 : W.cell? ⟨w.heap.size, 0, none⟩ = some (.int .i64 a0) := (blk_cell HX.out 0).trans rfl
  go_wp2_with fail
  refine (row_calls a0 _).mono ?_
  rintro e w1 ⟨rfl, hb1⟩
  clear h0
  go_wp2_with fail
  refine (strings_HasPrefix.calls (rowS a0) ⟨#[61]⟩ (wr a0) _ (pre_ok a0)).mono ?_
  rintro e w2 ⟨rfl, hd⟩
  have HB2 := Aside0.mk (below_step (below_step HB.out hb1) hd.below)
  have h1 : w2.cell? ⟨w.heap.size, 1, none⟩ = some (.int .i64 a1) := (blk_cell (blk_below (blk_below HX.out hb1) hd.below) 1).trans rfl
  clear HB HX hb1 hd
  cases hw : wr a0 with
  | true =>
    go_wp2_with fail
    go_ret
    exact ⟨ret_int (by rw [← HR.out, hw]; rfl), HB2.out⟩
  | false =>
    go_wp2_with fail
    go_ret
    exact ⟨ret_int (by rw [← HR.out, hw]; rfl), HB2.out⟩
end Go.Proofs.Ytmiacdacebaagaa.G
