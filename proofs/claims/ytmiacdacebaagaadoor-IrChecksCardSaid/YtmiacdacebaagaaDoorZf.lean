/- Merged texts (by slim.py): what the law's proof names. -/
import Derived.Test.YtmiacdacebaagaaDoorZe
namespace Go.Proofs.YtmiacdacebaagaaDoor.G
open Go.RowKit Go.Proofs.YtmiacdacebaagaaDoorW.PrintWords Go.Proofs.YtmiacdacebaagaaDoorW.PrintLast Go.Proofs.YtmiacdacebaagaaDoorW.PrintMore
attribute [local go_sem] max2_int min2_int max_two min_two max_three min_three max_four min_four
set_option linter.unusedVariables false
set_option linter.unusedSimpArgs false
mutual
def crosstreeref08_Insn.j0 : Nat → Int → Bool → List (S48) → List (S36) → Int → ByteArray → Int → Int → List Int → List (S39) → Int → Int → Int → Int → Int → Int → ByteArray → List Int → Option (Int)
 | 0, _, _, _, _, _, _, _, _, _, _, _, _, _, _, _, _, _, _ => none
 | k + 1, x2, x23, x205000, x205001, x205002, x206000, x206001, x206002, x206003, x206004, x208000, x208001, x208002, x208003, x208004, x208005, x208006, x208007 => if x23 = true then (some 1) else ((crosstreeref08_Reads.f k x208000 x208001 x208002 x208003 x208004 x208005 x208006 x208007).bind fun t208 => ((crosstreeref08_writes.f x208000).bind fun t211 => (if t211 = true then (if t208.length < 17592186044416 then (crosstreeref08_Insn.j1 k x2 (t208 ++ [x208001]) x205000 x205001 x205002 x206000 x206001 x206002 x206003 x206004 x208000 x208001 x208002 x208003 x208004 x208005 x208006 x208007) else (none)) else (crosstreeref08_Insn.j1 k x2 t208 x205000 x205001 x205002 x206000 x206001 x206002 x206003 x206004 x208000 x208001 x208002 x208003 x208004 x208005 x208006 x208007))))
def crosstreeref08_Insn.j1 : Nat → Int → List Int → List (S48) → List (S36) → Int → ByteArray → Int → Int → List Int → List (S39) → Int → Int → Int → Int → Int → Int → ByteArray → List Int → Option (Int)
 | 0, _, _, _, _, _, _, _, _, _, _, _, _, _, _, _, _, _, _ => none
 | k + 1, x2, x8, x205000, x205001, x205002, x206000, x206001, x206002, x206003, x206004, x208000, x208001, x208002, x208003, x208004, x208005, x208006, x208007 => crosstreeref08_Insn.l0 k x2 x8 0 x205000 x205001 x205002 x206000 x206001 x206002 x206003 x206004 x208000 x208001 x208002 x208003 x208004 x208005 x208006 x208007
def crosstreeref08_Insn.l0 : Nat → Int → List Int → Int → List (S48) → List (S36) → Int → ByteArray → Int → Int → List Int → List (S39) → Int → Int → Int → Int → Int → Int → ByteArray → List Int → Option (Int)
 | 0, _, _, _, _, _, _, _, _, _, _, _, _, _, _, _, _, _, _, _ => none
 | k + 1, x2, x8, x9, x205000, x205001, x205002, x206000, x206001, x206002, x206003, x206004, x208000, x208001, x208002, x208003, x208004, x208005, x208006, x208007 => if x9 < (x8.length : Int) then (if 0 ≤ x9 then (if (rd x8 x9) < 0 then (some 8) else (if (rd x8 x9) ≥ x206001 then (some 8) else (crosstreeref08_Insn.l0 k x2 x8 (wrap64 (x9 + 1)) x205000 x205001 x205002 x206000 x206001 x206002 x206003 x206004 x208000 x208001 x208002 x208003 x208004 x208005 x208006 x208007))) else (none)) else ((crosstreeref08_Others.f k x205000 x205001 x205002 x206000 x206001 x206002 x206003 x206004 x208000 x208001 x208002 x208003 x208004 x208005 x208006 x208007).bind fun t217 => (if t217 = true then ((crosstreeref08_Next.f x208000 x208001 x208002 x208003 x208004 x208005 x208006 x208007 x2).bind fun t218 => (crosstreeref08_Insn.l1 k t218 0 x206000 x206001 x206002 x206003 x206004)) else (some 8)))
def crosstreeref08_Insn.l1 : Nat → List Int → Int → ByteArray → Int → Int → List Int → List (S39) → Option (Int)
 | 0, _, _, _, _, _, _, _ => none
 | k + 1, x8, x10, x206000, x206001, x206002, x206003, x206004 => if x10 < (x8.length : Int) then (if 0 ≤ x10 then (if (rd x8 x10) < 0 then (some 8) else (if (rd x8 x10) ≥ (x206004.length : Int) then (some 8) else (crosstreeref08_Insn.l1 k x8 (wrap64 (x10 + 1)) x206000 x206001 x206002 x206003 x206004))) else (none)) else (some 0)
end
def crosstreeref08_Insn.f (k : Nat) (l0_0 : List (S48)) (l0_1 : List (S36)) (a0_2 : Int) (a1_0 : ByteArray) (a1_1 : Int) (a1_2 : Int) (l1_3 : List Int) (l1_4 : List (S39)) (a2 : Int) : Option (Int) := if 0 ≤ a2 then (if a2 < (l1_4.length : Int) then (if ((rd_T39 l1_4 a2).f0) < 1 then (crosstreeref08_Insn.j0 k a2 true l0_0 l0_1 a0_2 a1_0 a1_1 a1_2 l1_3 l1_4 ((rd_T39 l1_4 a2).f0) ((rd_T39 l1_4 a2).f1) ((rd_T39 l1_4 a2).f2) ((rd_T39 l1_4 a2).f3) ((rd_T39 l1_4 a2).f4) ((rd_T39 l1_4 a2).f5) ((rd_T39 l1_4 a2).f6) ((rd_T39 l1_4 a2).f7)) else (crosstreeref08_Insn.j0 k a2 (decide (((rd_T39 l1_4 a2).f0) > 20)) l0_0 l0_1 a0_2 a1_0 a1_1 a1_2 l1_3 l1_4 ((rd_T39 l1_4 a2).f0) ((rd_T39 l1_4 a2).f1) ((rd_T39 l1_4 a2).f2) ((rd_T39 l1_4 a2).f3) ((rd_T39 l1_4 a2).f4) ((rd_T39 l1_4 a2).f5) ((rd_T39 l1_4 a2).f6) ((rd_T39 l1_4 a2).f7))) else (none)) else (none)
set_option maxHeartbeats 8000000 in
set_option maxRecDepth 100000 in
theorem crosstreeref08_Insn.calls (k : Nat) (A0_0 : Option Addr) (c0_0 : Nat) (l0_0 : List (S48)) (A0_1 : Option Addr) (c0_1 : Nat) (l0_1 : List (S36)) (a0_2 : Int) (a1_0 : ByteArray) (a1_1 : Int) (a1_2 : Int) (A1_3 : Option Addr) (c1_3 : Nat) (l1_3 : List Int) (A1_4 : Option Addr) (c1_4 : Nat) (l1_4 : List (S39)) (a2 : Int) (r : Int) (w : World) (hr0_0 : Kd.C k48 w A0_0 l0_0.length l0_0) (hc0_0 : l0_0.length ≤ c0_0) (hr0_1 : Kd.C k36 w A0_1 l0_1.length l0_1) (hc0_1 : l0_1.length ≤ c0_1) (hr1_3 : Kd.C (Kd.int .i64) w A1_3 l1_3.length l1_3) (hc1_3 : l1_3.length ≤ c1_3) (hr1_4 : Kd.C k39 w A1_4 l1_4.length l1_4) (hc1_4 : l1_4.length ≤ c1_4) (h : crosstreeref08_Insn.f k l0_0 l0_1 a0_2 a1_0 a1_1 a1_2 l1_3 l1_4 a2 = some r) :
  Calls Tryd.prog 15 #[.agg #[.slice A0_0 l0_0.length c0_0, .slice A0_1 l0_1.length c0_1, .int .i64 a0_2], .agg #[.string a1_0, .int .i64 a1_1, .int .i64 a1_2, .slice A1_3 l1_3.length c1_3, .slice A1_4 l1_4.length c1_4], .int .i64 a2] w fun e w' => e = .returned (.int .i64 r) ∧ Below w.heap.size w w' := by
 have hu25 := Tryd.underlying25
 have hu36 := Tryd.underlying36
 have hu39 := Tryd.underlying39
 have HR0_0 := Aside0.mk hr0_0
 have HC0_0 := Aside0.mk hc0_0
 clear hr0_0 hc0_0
 have HR0_1 := Aside0.mk hr0_1
 have HC0_1 := Aside0.mk hc0_1
 clear hr0_1 hc0_1
 have HR1_3 := Aside0.mk hr1_3
 have HC1_3 := Aside0.mk hc1_3
 clear hr1_3 hc1_3
 have HR1_4 := Aside0.mk hr1_4
 have HC1_4 := Aside0.mk hc1_4
 clear hr1_4 hc1_4
 have HB := Aside0.mk (Below.refl w.heap.size w)
 have H : (if 0 ≤ a2 then (if a2 < (l1_4.length : Int) then (if ((rd_T39 l1_4 a2).f0) < 1 then (crosstreeref08_Insn.j0 k a2 true l0_0 l0_1 a0_2 a1_0 a1_1 a1_2 l1_3 l1_4 ((rd_T39 l1_4 a2).f0) ((rd_T39 l1_4 a2).f1) ((rd_T39 l1_4 a2).f2) ((rd_T39 l1_4 a2).f3) ((rd_T39 l1_4 a2).f4) ((rd_T39 l1_4 a2).f5) ((rd_T39 l1_4 a2).f6) ((rd_T39 l1_4 a2).f7)) else (crosstreeref08_Insn.j0 k a2 (decide (((rd_T39 l1_4 a2).f0) > 20)) l0_0 l0_1 a0_2 a1_0 a1_1 a1_2 l1_3 l1_4 ((rd_T39 l1_4 a2).f0) ((rd_T39 l1_4 a2).f1) ((rd_T39 l1_4 a2).f2) ((rd_T39 l1_4 a2).f3) ((rd_T39 l1_4 a2).f4) ((rd_T39 l1_4 a2).f5) ((rd_T39 l1_4 a2).f6) ((rd_T39 l1_4 a2).f7))) else (none)) else (none)) = some r := h
 clear h
 by_cases c4 : 0 ≤ a2
 ·rw [if_pos c4] at H
  have c4b0 : decide (0 ≤ a2) = true := decide_eq_true c4
  clear c4
  by_cases c5 : a2 < (l1_4.length : Int)
  ·rw [if_pos c5] at H
   have c5b0 : decide (a2 < (l1_4.length : Int)) = true := decide_eq_true c5
   clear c5
   have HC6 := Aside0.mk H
   clear H
   go_enter Tryd.func15, Tryd.ntmps15
   go_upto_region 2 with (first | ((with_reducible refine gate_dst (N := 3) rfl ?_); (try (refine gate_guard (by rfl) ?_; dsimp only)); refine box_event ?hg (N := 3) ?hd (cs := #[.slice A0_0 l0_0.length c0_0, .slice A0_1 l0_1.length c0_1, .int .i64 a0_2]) (t := 25) ?hr ?_; (case hd => rfl); (case hg => rfl); (case hr => first | (go_simp; done) | (go_simp; rfl)); intro gb204 hg w7 hbox hb; have n0_ := Aside0.mk (below_step (by repeat (first | (with_reducible first | exact HB.out | apply below_alloc | apply pw_below_drewN | apply below_drew1) | exact HB.out)) hb); have n1_ := Aside0.mk (hbox); have n2_ := Aside0.mk ((by rw [hg]; exact (below_size (by repeat (first | (with_reducible first | exact HB.out | apply below_alloc | apply pw_below_drewN | apply below_drew1) | exact HB.out))) : w.heap.size ≤ gb204)); have n3_ := Aside0.mk ((by rw [hg]; exact (below_size (by repeat (first | (with_reducible first | exact HB.out | apply below_alloc | apply pw_below_drewN | apply below_drew1) | exact HB.out))) : w.heap.size ≤ gb204)); clear HB; have HB := n0_; have BK204 := n1_; have GW204 := n2_; have GE204 := n3_; clear n0_ n1_ n2_ n3_; clear hb hbox hg) | ((with_reducible refine gate_dst (N := 4) rfl ?_); (try (refine gate_guard (by rfl) ?_; dsimp only)); refine box_event ?hg (N := 4) ?hd (cs := #[.string a1_0, .int .i64 a1_1, .int .i64 a1_2, .slice A1_3 l1_3.length c1_3, .slice A1_4 l1_4.length c1_4]) (t := 36) ?hr ?_; (case hd => rfl); (case hg => rfl); (case hr => first | (go_simp; done) | (go_simp; rfl)); intro gb205 hg w8 hbox hb; have n0_ := Aside0.mk (blk_below (g := gb204) (o := .cells #[.slice A0_0 l0_0.length c0_0, .slice A0_1 l0_1.length c0_1, .int .i64 a0_2] 25 (0, 0)) (by (with_reducible repeat (first | refine blk_drewN ?_ _ | refine blk_drew ?_ | refine blk_alloc ?_ _)); exact BK204.out) hb); have n1_ := Aside0.mk (below_step (by repeat (first | (with_reducible first | exact HB.out | apply below_alloc | apply pw_below_drewN | apply below_drew1 | refine below_set ?_ GE204.out) | exact HB.out)) hb); have n2_ := Aside0.mk (hbox); have n3_ := Aside0.mk ((by rw [hg]; exact (below_size (by repeat (first | (with_reducible first | exact HB.out | apply below_alloc | apply pw_below_drewN | apply below_drew1 | refine below_set ?_ GE204.out) | exact HB.out))) : w.heap.size ≤ gb205)); have n4_ := Aside0.mk ((by rw [hg]; exact (below_size (by repeat (first | (with_reducible first | exact HB.out | apply below_alloc | apply pw_below_drewN | apply below_drew1 | refine below_set ?_ GE204.out) | exact HB.out))) : w.heap.size ≤ gb205)); have n5_ := Aside0.mk ((by rw [hg]; exact Nat.ne_of_lt (blk_lt (g := gb204) (o := .cells #[.slice A0_0 l0_0.length c0_0, .slice A0_1 l0_1.length c0_1, .int .i64 a0_2] 25 (0, 0)) (by (with_reducible repeat (first | refine blk_drewN ?_ _ | refine blk_drew ?_ | refine blk_alloc ?_ _)); exact BK204.out)) : gb204 ≠ gb205)); have n6_ := Aside0.mk ((by rw [hg]; exact Nat.ne_of_gt (blk_lt (g := gb204) (o := .cells #[.slice A0_0 l0_0.length c0_0, .slice A0_1 l0_1.length c0_1, .int .i64 a0_2] 25 (0, 0)) (by (with_reducible repeat (first | refine blk_drewN ?_ _ | refine blk_drew ?_ | refine blk_alloc ?_ _)); exact BK204.out)) : gb205 ≠ gb204)); clear BK204; clear HB; have BK204 := n0_; have HB := n1_; have BK205 := n2_; have GW205 := n3_; have GE205 := n4_; have NB204_205 := n5_; have NB205_204 := n6_; clear n0_ n1_ n2_ n3_ n4_ n5_ n6_; clear hb hbox hg; have hnb9 := NB205_204.out; have hnc9 := NB204_205.out; have hcz10_0 : w8.cell? ⟨gb205, 0, none⟩ = some (.string a1_0) := (blk_cell BK205.out 0).trans rfl; have hcz10_1 : w8.cell? ⟨gb205, 1, none⟩ = some (.int .i64 a1_1) := (blk_cell BK205.out 1).trans rfl; have hcz10_2 : w8.cell? ⟨gb205, 2, none⟩ = some (.int .i64 a1_2) := (blk_cell BK205.out 2).trans rfl; have hcz10_3 : w8.cell? ⟨gb205, 3, none⟩ = some (.slice A1_3 l1_3.length c1_3) := (blk_cell BK205.out 3).trans rfl; have hcz10_4 : w8.cell? ⟨gb205, 4, none⟩ = some (.slice A1_4 l1_4.length c1_4) := (blk_cell BK205.out 4).trans rfl; have hfz10_0 := blk_frozen BK205.out 0; have hfz10_1 := blk_frozen BK205.out 1; have hfz10_2 := blk_frozen BK205.out 2; have hfz10_3 := blk_frozen BK205.out 3; have hfz10_4 := blk_frozen BK205.out 4; have p206 : 0 ≤ (a2 : Int) := of_decide_eq_true (by first | (with_reducible assumption) | assumption); have q206 : a2 < (l1_4.length : Int) := of_decide_eq_true (by first | (with_reducible assumption) | assumption); obtain ⟨ad206, A206_7, c206_7, e206, hx206_0, hx206_1, hx206_2, hx206_3, hx206_4, hx206_5, hx206_6, hx206_7, hl206_7, hi206_7⟩ := at_T39 HR1_4.out a2 p206 q206; cases e206; replace hx206_0 := (HB.out.cell (World.block_lt_of_cell? w _ hx206_0)).trans hx206_0; replace hx206_1 := (HB.out.cell (World.block_lt_of_cell? w _ hx206_1)).trans hx206_1; replace hx206_2 := (HB.out.cell (World.block_lt_of_cell? w _ hx206_2)).trans hx206_2; replace hx206_3 := (HB.out.cell (World.block_lt_of_cell? w _ hx206_3)).trans hx206_3; replace hx206_4 := (HB.out.cell (World.block_lt_of_cell? w _ hx206_4)).trans hx206_4; replace hx206_5 := (HB.out.cell (World.block_lt_of_cell? w _ hx206_5)).trans hx206_5; replace hx206_6 := (HB.out.cell (World.block_lt_of_cell? w _ hx206_6)).trans hx206_6; replace hx206_7 := (HB.out.cell (World.block_lt_of_cell? w _ hx206_7)).trans hx206_7; have HR206_7 := Aside0.mk hi206_7; have HC206_7 := Aside0.mk hl206_7; clear hi206_7 hl206_7; replace p206 := eq_true p206; replace q206 := eq_true q206) | ((with_reducible refine gate_dst (N := 7) rfl ?_); (try (refine gate_guard (by rfl) ?_; dsimp only)); refine box_event ?hg (N := 7) ?hd (cs := #[.int .i64 0, .int .i64 0, .int .i64 0, .int .i64 0, .int .i64 0, .int .i64 0, .string (⟨#[]⟩ : ByteArray), .slice none 0 0]) (t := 39) ?hr ?_; (case hd => rfl); (case hg => rfl); (case hr => first | (go_simp; done) | (go_simp; rfl)); intro gb207 hg w11 hbox hb; have n0_ := Aside0.mk (blk_below (g := gb204) (o := .cells #[.slice A0_0 l0_0.length c0_0, .slice A0_1 l0_1.length c0_1, .int .i64 a0_2] 25 (0, 0)) (by (with_reducible repeat (first | refine blk_drewN ?_ _ | refine blk_drew ?_ | refine blk_alloc ?_ _)); exact BK204.out) hb); have n1_ := Aside0.mk (blk_below (g := gb205) (o := .cells #[.string a1_0, .int .i64 a1_1, .int .i64 a1_2, .slice A1_3 l1_3.length c1_3, .slice (some ad206) l1_4.length c1_4] 36 (0, 0)) (by (with_reducible repeat (first | refine blk_drewN ?_ _ | refine blk_drew ?_ | refine blk_alloc ?_ _)); exact BK205.out) hb); have n2_ := Aside0.mk (below_step (by repeat (first | (with_reducible first | exact HB.out | apply below_alloc | apply pw_below_drewN | apply below_drew1 | refine below_set ?_ GE204.out | refine below_set ?_ GE205.out) | exact HB.out)) hb); have n3_ := Aside0.mk (hbox); have n4_ := Aside0.mk ((by rw [hg]; exact (below_size (by repeat (first | (with_reducible first | exact HB.out | apply below_alloc | apply pw_below_drewN | apply below_drew1 | refine below_set ?_ GE204.out | refine below_set ?_ GE205.out) | exact HB.out))) : w.heap.size ≤ gb207)); have n5_ := Aside0.mk ((by rw [hg]; exact (below_size (by repeat (first | (with_reducible first | exact HB.out | apply below_alloc | apply pw_below_drewN | apply below_drew1 | refine below_set ?_ GE204.out | refine below_set ?_ GE205.out) | exact HB.out))) : w.heap.size ≤ gb207)); have n6_ := Aside0.mk ((by rw [hg]; exact Nat.ne_of_lt (blk_lt (g := gb204) (o := .cells #[.slice A0_0 l0_0.length c0_0, .slice A0_1 l0_1.length c0_1, .int .i64 a0_2] 25 (0, 0)) (by (with_reducible repeat (first | refine blk_drewN ?_ _ | refine blk_drew ?_ | refine blk_alloc ?_ _)); exact BK204.out)) : gb204 ≠ gb207)); have n7_ := Aside0.mk ((by rw [hg]; exact Nat.ne_of_gt (blk_lt (g := gb204) (o := .cells #[.slice A0_0 l0_0.length c0_0, .slice A0_1 l0_1.length c0_1, .int .i64 a0_2] 25 (0, 0)) (by (with_reducible repeat (first | refine blk_drewN ?_ _ | refine blk_drew ?_ | refine blk_alloc ?_ _)); exact BK204.out)) : gb207 ≠ gb204)); have n8_ := Aside0.mk ((by rw [hg]; exact Nat.ne_of_lt (blk_lt (g := gb205) (o := .cells #[.string a1_0, .int .i64 a1_1, .int .i64 a1_2, .slice A1_3 l1_3.length c1_3, .slice (some ad206) l1_4.length c1_4] 36 (0, 0)) (by (with_reducible repeat (first | refine blk_drewN ?_ _ | refine blk_drew ?_ | refine blk_alloc ?_ _)); exact BK205.out)) : gb205 ≠ gb207)); have n9_ := Aside0.mk ((by rw [hg]; exact Nat.ne_of_gt (blk_lt (g := gb205) (o := .cells #[.string a1_0, .int .i64 a1_1, .int .i64 a1_2, .slice A1_3 l1_3.length c1_3, .slice (some ad206) l1_4.length c1_4] 36 (0, 0)) (by (with_reducible repeat (first | refine blk_drewN ?_ _ | refine blk_drew ?_ | refine blk_alloc ?_ _)); exact BK205.out)) : gb207 ≠ gb205)); clear BK204; clear BK205; clear HB; have BK204 := n0_; have BK205 := n1_; have HB := n2_; have BK207 := n3_; have GW207 := n4_; have GE207 := n5_; have NB204_207 := n6_; have NB207_204 := n7_; have NB205_207 := n8_; have NB207_205 := n9_; clear n0_ n1_ n2_ n3_ n4_ n5_ n6_ n7_ n8_ n9_; clear hb hbox hg; have hnb12 := NB207_204.out; have hnc12 := NB204_207.out; have hnb13 := NB207_205.out; have hnc13 := NB205_207.out; have hcz14_0 : w11.cell? ⟨gb207, 0, none⟩ = some (.int .i64 0) := (blk_cell BK207.out 0).trans rfl; have hcz14_1 : w11.cell? ⟨gb207, 1, none⟩ = some (.int .i64 0) := (blk_cell BK207.out 1).trans rfl; have hcz14_2 : w11.cell? ⟨gb207, 2, none⟩ = some (.int .i64 0) := (blk_cell BK207.out 2).trans rfl; have hcz14_3 : w11.cell? ⟨gb207, 3, none⟩ = some (.int .i64 0) := (blk_cell BK207.out 3).trans rfl; have hcz14_4 : w11.cell? ⟨gb207, 4, none⟩ = some (.int .i64 0) := (blk_cell BK207.out 4).trans rfl; have hcz14_5 : w11.cell? ⟨gb207, 5, none⟩ = some (.int .i64 0) := (blk_cell BK207.out 5).trans rfl; have hcz14_6 : w11.cell? ⟨gb207, 6, none⟩ = some (.string (⟨#[]⟩ : ByteArray)) := (blk_cell BK207.out 6).trans rfl; have hcz14_7 : w11.cell? ⟨gb207, 7, none⟩ = some (.slice none 0 0) := (blk_cell BK207.out 7).trans rfl; have hfz14_0 := blk_frozen BK207.out 0; have hfz14_1 := blk_frozen BK207.out 1; have hfz14_2 := blk_frozen BK207.out 2; have hfz14_3 := blk_frozen BK207.out 3; have hfz14_4 := blk_frozen BK207.out 4; have hfz14_5 := blk_frozen BK207.out 5; have hfz14_6 := blk_frozen BK207.out 6; have hfz14_7 := blk_frozen BK207.out 7))
   repeat (go_quiet (first | ((with_reducible refine gate_dst (N := 3) rfl ?_); (try (refine gate_guard (by rfl) ?_; dsimp only)); refine box_event ?hg (N := 3) ?hd (cs := #[.slice A0_0 l0_0.length c0_0, .slice A0_1 l0_1.length c0_1, .int .i64 a0_2]) (t := 25) ?hr ?_; (case hd => rfl); (case hg => rfl); (case hr => first | (go_simp; done) | (go_simp; rfl)); intro gb204 hg w7 hbox hb; have n0_ := Aside0.mk (below_step (by repeat (first | (with_reducible first | exact HB.out | apply below_alloc | apply pw_below_drewN | apply below_drew1) | exact HB.out)) hb); have n1_ := Aside0.mk (hbox); have n2_ := Aside0.mk ((by rw [hg]; exact (below_size (by repeat (first | (with_reducible first | exact HB.out | apply below_alloc | apply pw_below_drewN | apply below_drew1) | exact HB.out))) : w.heap.size ≤ gb204)); have n3_ := Aside0.mk ((by rw [hg]; exact (below_size (by repeat (first | (with_reducible first | exact HB.out | apply below_alloc | apply pw_below_drewN | apply below_drew1) | exact HB.out))) : w.heap.size ≤ gb204)); clear HB; have HB := n0_; have BK204 := n1_; have GW204 := n2_; have GE204 := n3_; clear n0_ n1_ n2_ n3_; clear hb hbox hg) | ((with_reducible refine gate_dst (N := 4) rfl ?_); (try (refine gate_guard (by rfl) ?_; dsimp only)); refine box_event ?hg (N := 4) ?hd (cs := #[.string a1_0, .int .i64 a1_1, .int .i64 a1_2, .slice A1_3 l1_3.length c1_3, .slice A1_4 l1_4.length c1_4]) (t := 36) ?hr ?_; (case hd => rfl); (case hg => rfl); (case hr => first | (go_simp; done) | (go_simp; rfl)); intro gb205 hg w8 hbox hb; have n0_ := Aside0.mk (blk_below (g := gb204) (o := .cells #[.slice A0_0 l0_0.length c0_0, .slice A0_1 l0_1.length c0_1, .int .i64 a0_2] 25 (0, 0)) (by (with_reducible repeat (first | refine blk_drewN ?_ _ | refine blk_drew ?_ | refine blk_alloc ?_ _)); exact BK204.out) hb); have n1_ := Aside0.mk (below_step (by repeat (first | (with_reducible first | exact HB.out | apply below_alloc | apply pw_below_drewN | apply below_drew1 | refine below_set ?_ GE204.out) | exact HB.out)) hb); have n2_ := Aside0.mk (hbox); have n3_ := Aside0.mk ((by rw [hg]; exact (below_size (by repeat (first | (with_reducible first | exact HB.out | apply below_alloc | apply pw_below_drewN | apply below_drew1 | refine below_set ?_ GE204.out) | exact HB.out))) : w.heap.size ≤ gb205)); have n4_ := Aside0.mk ((by rw [hg]; exact (below_size (by repeat (first | (with_reducible first | exact HB.out | apply below_alloc | apply pw_below_drewN | apply below_drew1 | refine below_set ?_ GE204.out) | exact HB.out))) : w.heap.size ≤ gb205)); have n5_ := Aside0.mk ((by rw [hg]; exact Nat.ne_of_lt (blk_lt (g := gb204) (o := .cells #[.slice A0_0 l0_0.length c0_0, .slice A0_1 l0_1.length c0_1, .int .i64 a0_2] 25 (0, 0)) (by (with_reducible repeat (first | refine blk_drewN ?_ _ | refine blk_drew ?_ | refine blk_alloc ?_ _)); exact BK204.out)) : gb204 ≠ gb205)); have n6_ := Aside0.mk ((by rw [hg]; exact Nat.ne_of_gt (blk_lt (g := gb204) (o := .cells #[.slice A0_0 l0_0.length c0_0, .slice A0_1 l0_1.length c0_1, .int .i64 a0_2] 25 (0, 0)) (by (with_reducible repeat (first | refine blk_drewN ?_ _ | refine blk_drew ?_ | refine blk_alloc ?_ _)); exact BK204.out)) : gb205 ≠ gb204)); clear BK204; clear HB; have BK204 := n0_; have HB := n1_; have BK205 := n2_; have GW205 := n3_; have GE205 := n4_; have NB204_205 := n5_; have NB205_204 := n6_; clear n0_ n1_ n2_ n3_ n4_ n5_ n6_; clear hb hbox hg; have hnb9 := NB205_204.out; have hnc9 := NB204_205.out; have hcz10_0 : w8.cell? ⟨gb205, 0, none⟩ = some (.string a1_0) := (blk_cell BK205.out 0).trans rfl; have hcz10_1 : w8.cell? ⟨gb205, 1, none⟩ = some (.int .i64 a1_1) := (blk_cell BK205.out 1).trans rfl; have hcz10_2 : w8.cell? ⟨gb205, 2, none⟩ = some (.int .i64 a1_2) := (blk_cell BK205.out 2).trans rfl; have hcz10_3 : w8.cell? ⟨gb205, 3, none⟩ = some (.slice A1_3 l1_3.length c1_3) := (blk_cell BK205.out 3).trans rfl; have hcz10_4 : w8.cell? ⟨gb205, 4, none⟩ = some (.slice A1_4 l1_4.length c1_4) := (blk_cell BK205.out 4).trans rfl; have hfz10_0 := blk_frozen BK205.out 0; have hfz10_1 := blk_frozen BK205.out 1; have hfz10_2 := blk_frozen BK205.out 2; have hfz10_3 := blk_frozen BK205.out 3; have hfz10_4 := blk_frozen BK205.out 4; have p206 : 0 ≤ (a2 : Int) := of_decide_eq_true (by first | (with_reducible assumption) | assumption); have q206 : a2 < (l1_4.length : Int) := of_decide_eq_true (by first | (with_reducible assumption) | assumption); obtain ⟨ad206, A206_7, c206_7, e206, hx206_0, hx206_1, hx206_2, hx206_3, hx206_4, hx206_5, hx206_6, hx206_7, hl206_7, hi206_7⟩ := at_T39 HR1_4.out a2 p206 q206; cases e206; replace hx206_0 := (HB.out.cell (World.block_lt_of_cell? w _ hx206_0)).trans hx206_0; replace hx206_1 := (HB.out.cell (World.block_lt_of_cell? w _ hx206_1)).trans hx206_1; replace hx206_2 := (HB.out.cell (World.block_lt_of_cell? w _ hx206_2)).trans hx206_2; replace hx206_3 := (HB.out.cell (World.block_lt_of_cell? w _ hx206_3)).trans hx206_3; replace hx206_4 := (HB.out.cell (World.block_lt_of_cell? w _ hx206_4)).trans hx206_4; replace hx206_5 := (HB.out.cell (World.block_lt_of_cell? w _ hx206_5)).trans hx206_5; replace hx206_6 := (HB.out.cell (World.block_lt_of_cell? w _ hx206_6)).trans hx206_6; replace hx206_7 := (HB.out.cell (World.block_lt_of_cell? w _ hx206_7)).trans hx206_7; have HR206_7 := Aside0.mk hi206_7; have HC206_7 := Aside0.mk hl206_7; clear hi206_7 hl206_7; replace p206 := eq_true p206; replace q206 := eq_true q206) | ((with_reducible refine gate_dst (N := 7) rfl ?_); (try (refine gate_guard (by rfl) ?_; dsimp only)); refine box_event ?hg (N := 7) ?hd (cs := #[.int .i64 0, .int .i64 0, .int .i64 0, .int .i64 0, .int .i64 0, .int .i64 0, .string (⟨#[]⟩ : ByteArray), .slice none 0 0]) (t := 39) ?hr ?_; (case hd => rfl); (case hg => rfl); (case hr => first | (go_simp; done) | (go_simp; rfl)); intro gb207 hg w11 hbox hb; have n0_ := Aside0.mk (blk_below (g := gb204) (o := .cells #[.slice A0_0 l0_0.length c0_0, .slice A0_1 l0_1.length c0_1, .int .i64 a0_2] 25 (0, 0)) (by (with_reducible repeat (first | refine blk_drewN ?_ _ | refine blk_drew ?_ | refine blk_alloc ?_ _)); exact BK204.out) hb); have n1_ := Aside0.mk (blk_below (g := gb205) (o := .cells #[.string a1_0, .int .i64 a1_1, .int .i64 a1_2, .slice A1_3 l1_3.length c1_3, .slice (some ad206) l1_4.length c1_4] 36 (0, 0)) (by (with_reducible repeat (first | refine blk_drewN ?_ _ | refine blk_drew ?_ | refine blk_alloc ?_ _)); exact BK205.out) hb); have n2_ := Aside0.mk (below_step (by repeat (first | (with_reducible first | exact HB.out | apply below_alloc | apply pw_below_drewN | apply below_drew1 | refine below_set ?_ GE204.out | refine below_set ?_ GE205.out) | exact HB.out)) hb); have n3_ := Aside0.mk (hbox); have n4_ := Aside0.mk ((by rw [hg]; exact (below_size (by repeat (first | (with_reducible first | exact HB.out | apply below_alloc | apply pw_below_drewN | apply below_drew1 | refine below_set ?_ GE204.out | refine below_set ?_ GE205.out) | exact HB.out))) : w.heap.size ≤ gb207)); have n5_ := Aside0.mk ((by rw [hg]; exact (below_size (by repeat (first | (with_reducible first | exact HB.out | apply below_alloc | apply pw_below_drewN | apply below_drew1 | refine below_set ?_ GE204.out | refine below_set ?_ GE205.out) | exact HB.out))) : w.heap.size ≤ gb207)); have n6_ := Aside0.mk ((by rw [hg]; exact Nat.ne_of_lt (blk_lt (g := gb204) (o := .cells #[.slice A0_0 l0_0.length c0_0, .slice A0_1 l0_1.length c0_1, .int .i64 a0_2] 25 (0, 0)) (by (with_reducible repeat (first | refine blk_drewN ?_ _ | refine blk_drew ?_ | refine blk_alloc ?_ _)); exact BK204.out)) : gb204 ≠ gb207)); have n7_ := Aside0.mk ((by rw [hg]; exact Nat.ne_of_gt (blk_lt (g := gb204) (o := .cells #[.slice A0_0 l0_0.length c0_0, .slice A0_1 l0_1.length c0_1, .int .i64 a0_2] 25 (0, 0)) (by (with_reducible repeat (first | refine blk_drewN ?_ _ | refine blk_drew ?_ | refine blk_alloc ?_ _)); exact BK204.out)) : gb207 ≠ gb204)); have n8_ := Aside0.mk ((by rw [hg]; exact Nat.ne_of_lt (blk_lt (g := gb205) (o := .cells #[.string a1_0, .int .i64 a1_1, .int .i64 a1_2, .slice A1_3 l1_3.length c1_3, .slice (some ad206) l1_4.length c1_4] 36 (0, 0)) (by (with_reducible repeat (first | refine blk_drewN ?_ _ | refine blk_drew ?_ | refine blk_alloc ?_ _)); exact BK205.out)) : gb205 ≠ gb207)); have n9_ := Aside0.mk ((by rw [hg]; exact Nat.ne_of_gt (blk_lt (g := gb205) (o := .cells #[.string a1_0, .int .i64 a1_1, .int .i64 a1_2, .slice A1_3 l1_3.length c1_3, .slice (some ad206) l1_4.length c1_4] 36 (0, 0)) (by (with_reducible repeat (first | refine blk_drewN ?_ _ | refine blk_drew ?_ | refine blk_alloc ?_ _)); exact BK205.out)) : gb207 ≠ gb205)); clear BK204; clear BK205; clear HB; have BK204 := n0_; have BK205 := n1_; have HB := n2_; have BK207 := n3_; have GW207 := n4_; have GE207 := n5_; have NB204_207 := n6_; have NB207_204 := n7_; have NB205_207 := n8_; have NB207_205 := n9_; clear n0_ n1_ n2_ n3_ n4_ n5_ n6_ n7_ n8_ n9_; clear hb hbox hg; have hnb12 := NB207_204.out; have hnc12 := NB204_207.out; have hnb13 := NB207_205.out; have hnc13 := NB205_207.out; have hcz14_0 : w11.cell? ⟨gb207, 0, none⟩ = some (.int .i64 0) := (blk_cell BK207.out 0).trans rfl; have hcz14_1 : w11.cell? ⟨gb207, 1, none⟩ = some (.int .i64 0) := (blk_cell BK207.out 1).trans rfl; have hcz14_2 : w11.cell? ⟨gb207, 2, none⟩ = some (.int .i64 0) := (blk_cell BK207.out 2).trans rfl; have hcz14_3 : w11.cell? ⟨gb207, 3, none⟩ = some (.int .i64 0) := (blk_cell BK207.out 3).trans rfl; have hcz14_4 : w11.cell? ⟨gb207, 4, none⟩ = some (.int .i64 0) := (blk_cell BK207.out 4).trans rfl; have hcz14_5 : w11.cell? ⟨gb207, 5, none⟩ = some (.int .i64 0) := (blk_cell BK207.out 5).trans rfl; have hcz14_6 : w11.cell? ⟨gb207, 6, none⟩ = some (.string (⟨#[]⟩ : ByteArray)) := (blk_cell BK207.out 6).trans rfl; have hcz14_7 : w11.cell? ⟨gb207, 7, none⟩ = some (.slice none 0 0) := (blk_cell BK207.out 7).trans rfl; have hfz14_0 := blk_frozen BK207.out 0; have hfz14_1 := blk_frozen BK207.out 1; have hfz14_2 := blk_frozen BK207.out 2; have hfz14_3 := blk_frozen BK207.out 3; have hfz14_4 := blk_frozen BK207.out 4; have hfz14_5 := blk_frozen BK207.out 5; have hfz14_6 := blk_frozen BK207.out 6; have hfz14_7 := blk_frozen BK207.out 7)); go_upto_region 2 with (first | ((with_reducible refine gate_dst (N := 3) rfl ?_); (try (refine gate_guard (by rfl) ?_; dsimp only)); refine box_event ?hg (N := 3) ?hd (cs := #[.slice A0_0 l0_0.length c0_0, .slice A0_1 l0_1.length c0_1, .int .i64 a0_2]) (t := 25) ?hr ?_; (case hd => rfl); (case hg => rfl); (case hr => first | (go_simp; done) | (go_simp; rfl)); intro gb204 hg w7 hbox hb; have n0_ := Aside0.mk (below_step (by repeat (first | (with_reducible first | exact HB.out | apply below_alloc | apply pw_below_drewN | apply below_drew1) | exact HB.out)) hb); have n1_ := Aside0.mk (hbox); have n2_ := Aside0.mk ((by rw [hg]; exact (below_size (by repeat (first | (with_reducible first | exact HB.out | apply below_alloc | apply pw_below_drewN | apply below_drew1) | exact HB.out))) : w.heap.size ≤ gb204)); have n3_ := Aside0.mk ((by rw [hg]; exact (below_size (by repeat (first | (with_reducible first | exact HB.out | apply below_alloc | apply pw_below_drewN | apply below_drew1) | exact HB.out))) : w.heap.size ≤ gb204)); clear HB; have HB := n0_; have BK204 := n1_; have GW204 := n2_; have GE204 := n3_; clear n0_ n1_ n2_ n3_; clear hb hbox hg) | ((with_reducible refine gate_dst (N := 4) rfl ?_); (try (refine gate_guard (by rfl) ?_; dsimp only)); refine box_event ?hg (N := 4) ?hd (cs := #[.string a1_0, .int .i64 a1_1, .int .i64 a1_2, .slice A1_3 l1_3.length c1_3, .slice A1_4 l1_4.length c1_4]) (t := 36) ?hr ?_; (case hd => rfl); (case hg => rfl); (case hr => first | (go_simp; done) | (go_simp; rfl)); intro gb205 hg w8 hbox hb; have n0_ := Aside0.mk (blk_below (g := gb204) (o := .cells #[.slice A0_0 l0_0.length c0_0, .slice A0_1 l0_1.length c0_1, .int .i64 a0_2] 25 (0, 0)) (by (with_reducible repeat (first | refine blk_drewN ?_ _ | refine blk_drew ?_ | refine blk_alloc ?_ _)); exact BK204.out) hb); have n1_ := Aside0.mk (below_step (by repeat (first | (with_reducible first | exact HB.out | apply below_alloc | apply pw_below_drewN | apply below_drew1 | refine below_set ?_ GE204.out) | exact HB.out)) hb); have n2_ := Aside0.mk (hbox); have n3_ := Aside0.mk ((by rw [hg]; exact (below_size (by repeat (first | (with_reducible first | exact HB.out | apply below_alloc | apply pw_below_drewN | apply below_drew1 | refine below_set ?_ GE204.out) | exact HB.out))) : w.heap.size ≤ gb205)); have n4_ := Aside0.mk ((by rw [hg]; exact (below_size (by repeat (first | (with_reducible first | exact HB.out | apply below_alloc | apply pw_below_drewN | apply below_drew1 | refine below_set ?_ GE204.out) | exact HB.out))) : w.heap.size ≤ gb205)); have n5_ := Aside0.mk ((by rw [hg]; exact Nat.ne_of_lt (blk_lt (g := gb204) (o := .cells #[.slice A0_0 l0_0.length c0_0, .slice A0_1 l0_1.length c0_1, .int .i64 a0_2] 25 (0, 0)) (by (with_reducible repeat (first | refine blk_drewN ?_ _ | refine blk_drew ?_ | refine blk_alloc ?_ _)); exact BK204.out)) : gb204 ≠ gb205)); have n6_ := Aside0.mk ((by rw [hg]; exact Nat.ne_of_gt (blk_lt (g := gb204) (o := .cells #[.slice A0_0 l0_0.length c0_0, .slice A0_1 l0_1.length c0_1, .int .i64 a0_2] 25 (0, 0)) (by (with_reducible repeat (first | refine blk_drewN ?_ _ | refine blk_drew ?_ | refine blk_alloc ?_ _)); exact BK204.out)) : gb205 ≠ gb204)); clear BK204; clear HB; have BK204 := n0_; have HB := n1_; have BK205 := n2_; have GW205 := n3_; have GE205 := n4_; have NB204_205 := n5_; have NB205_204 := n6_; clear n0_ n1_ n2_ n3_ n4_ n5_ n6_; clear hb hbox hg; have hnb9 := NB205_204.out; have hnc9 := NB204_205.out; have hcz10_0 : w8.cell? ⟨gb205, 0, none⟩ = some (.string a1_0) := (blk_cell BK205.out 0).trans rfl; have hcz10_1 : w8.cell? ⟨gb205, 1, none⟩ = some (.int .i64 a1_1) := (blk_cell BK205.out 1).trans rfl; have hcz10_2 : w8.cell? ⟨gb205, 2, none⟩ = some (.int .i64 a1_2) := (blk_cell BK205.out 2).trans rfl; have hcz10_3 : w8.cell? ⟨gb205, 3, none⟩ = some (.slice A1_3 l1_3.length c1_3) := (blk_cell BK205.out 3).trans rfl; have hcz10_4 : w8.cell? ⟨gb205, 4, none⟩ = some (.slice A1_4 l1_4.length c1_4) := (blk_cell BK205.out 4).trans rfl; have hfz10_0 := blk_frozen BK205.out 0; have hfz10_1 := blk_frozen BK205.out 1; have hfz10_2 := blk_frozen BK205.out 2; have hfz10_3 := blk_frozen BK205.out 3; have hfz10_4 := blk_frozen BK205.out 4; have p206 : 0 ≤ (a2 : Int) := of_decide_eq_true (by first | (with_reducible assumption) | assumption); have q206 : a2 < (l1_4.length : Int) := of_decide_eq_true (by first | (with_reducible assumption) | assumption); obtain ⟨ad206, A206_7, c206_7, e206, hx206_0, hx206_1, hx206_2, hx206_3, hx206_4, hx206_5, hx206_6, hx206_7, hl206_7, hi206_7⟩ := at_T39 HR1_4.out a2 p206 q206; cases e206; replace hx206_0 := (HB.out.cell (World.block_lt_of_cell? w _ hx206_0)).trans hx206_0; replace hx206_1 := (HB.out.cell (World.block_lt_of_cell? w _ hx206_1)).trans hx206_1; replace hx206_2 := (HB.out.cell (World.block_lt_of_cell? w _ hx206_2)).trans hx206_2; replace hx206_3 := (HB.out.cell (World.block_lt_of_cell? w _ hx206_3)).trans hx206_3; replace hx206_4 := (HB.out.cell (World.block_lt_of_cell? w _ hx206_4)).trans hx206_4; replace hx206_5 := (HB.out.cell (World.block_lt_of_cell? w _ hx206_5)).trans hx206_5; replace hx206_6 := (HB.out.cell (World.block_lt_of_cell? w _ hx206_6)).trans hx206_6; replace hx206_7 := (HB.out.cell (World.block_lt_of_cell? w _ hx206_7)).trans hx206_7; have HR206_7 := Aside0.mk hi206_7; have HC206_7 := Aside0.mk hl206_7; clear hi206_7 hl206_7; replace p206 := eq_true p206; replace q206 := eq_true q206) | ((with_reducible refine gate_dst (N := 7) rfl ?_); (try (refine gate_guard (by rfl) ?_; dsimp only)); refine box_event ?hg (N := 7) ?hd (cs := #[.int .i64 0, .int .i64 0, .int .i64 0, .int .i64 0, .int .i64 0, .int .i64 0, .string (⟨#[]⟩ : ByteArray), .slice none 0 0]) (t := 39) ?hr ?_; (case hd => rfl); (case hg => rfl); (case hr => first | (go_simp; done) | (go_simp; rfl)); intro gb207 hg w11 hbox hb; have n0_ := Aside0.mk (blk_below (g := gb204) (o := .cells #[.slice A0_0 l0_0.length c0_0, .slice A0_1 l0_1.length c0_1, .int .i64 a0_2] 25 (0, 0)) (by (with_reducible repeat (first | refine blk_drewN ?_ _ | refine blk_drew ?_ | refine blk_alloc ?_ _)); exact BK204.out) hb); have n1_ := Aside0.mk (blk_below (g := gb205) (o := .cells #[.string a1_0, .int .i64 a1_1, .int .i64 a1_2, .slice A1_3 l1_3.length c1_3, .slice (some ad206) l1_4.length c1_4] 36 (0, 0)) (by (with_reducible repeat (first | refine blk_drewN ?_ _ | refine blk_drew ?_ | refine blk_alloc ?_ _)); exact BK205.out) hb); have n2_ := Aside0.mk (below_step (by repeat (first | (with_reducible first | exact HB.out | apply below_alloc | apply pw_below_drewN | apply below_drew1 | refine below_set ?_ GE204.out | refine below_set ?_ GE205.out) | exact HB.out)) hb); have n3_ := Aside0.mk (hbox); have n4_ := Aside0.mk ((by rw [hg]; exact (below_size (by repeat (first | (with_reducible first | exact HB.out | apply below_alloc | apply pw_below_drewN | apply below_drew1 | refine below_set ?_ GE204.out | refine below_set ?_ GE205.out) | exact HB.out))) : w.heap.size ≤ gb207)); have n5_ := Aside0.mk ((by rw [hg]; exact (below_size (by repeat (first | (with_reducible first | exact HB.out | apply below_alloc | apply pw_below_drewN | apply below_drew1 | refine below_set ?_ GE204.out | refine below_set ?_ GE205.out) | exact HB.out))) : w.heap.size ≤ gb207)); have n6_ := Aside0.mk ((by rw [hg]; exact Nat.ne_of_lt (blk_lt (g := gb204) (o := .cells #[.slice A0_0 l0_0.length c0_0, .slice A0_1 l0_1.length c0_1, .int .i64 a0_2] 25 (0, 0)) (by (with_reducible repeat (first | refine blk_drewN ?_ _ | refine blk_drew ?_ | refine blk_alloc ?_ _)); exact BK204.out)) : gb204 ≠ gb207)); have n7_ := Aside0.mk ((by rw [hg]; exact Nat.ne_of_gt (blk_lt (g := gb204) (o := .cells #[.slice A0_0 l0_0.length c0_0, .slice A0_1 l0_1.length c0_1, .int .i64 a0_2] 25 (0, 0)) (by (with_reducible repeat (first | refine blk_drewN ?_ _ | refine blk_drew ?_ | refine blk_alloc ?_ _)); exact BK204.out)) : gb207 ≠ gb204)); have n8_ := Aside0.mk ((by rw [hg]; exact Nat.ne_of_lt (blk_lt (g := gb205) (o := .cells #[.string a1_0, .int .i64 a1_1, .int .i64 a1_2, .slice A1_3 l1_3.length c1_3, .slice (some ad206) l1_4.length c1_4] 36 (0, 0)) (by (with_reducible repeat (first | refine blk_drewN ?_ _ | refine blk_drew ?_ | refine blk_alloc ?_ _)); exact BK205.out)) : gb205 ≠ gb207)); have n9_ := Aside0.mk ((by rw [hg]; exact Nat.ne_of_gt (blk_lt (g := gb205) (o := .cells #[.string a1_0, .int .i64 a1_1, .int .i64 a1_2, .slice A1_3 l1_3.length c1_3, .slice (some ad206) l1_4.length c1_4] 36 (0, 0)) (by (with_reducible repeat (first | refine blk_drewN ?_ _ | refine blk_drew ?_ | refine blk_alloc ?_ _)); exact BK205.out)) : gb207 ≠ gb205)); clear BK204; clear BK205; clear HB; have BK204 := n0_; have BK205 := n1_; have HB := n2_; have BK207 := n3_; have GW207 := n4_; have GE207 := n5_; have NB204_207 := n6_; have NB207_204 := n7_; have NB205_207 := n8_; have NB207_205 := n9_; clear n0_ n1_ n2_ n3_ n4_ n5_ n6_ n7_ n8_ n9_; clear hb hbox hg; have hnb12 := NB207_204.out; have hnc12 := NB204_207.out; have hnb13 := NB207_205.out; have hnc13 := NB205_207.out; have hcz14_0 : w11.cell? ⟨gb207, 0, none⟩ = some (.int .i64 0) := (blk_cell BK207.out 0).trans rfl; have hcz14_1 : w11.cell? ⟨gb207, 1, none⟩ = some (.int .i64 0) := (blk_cell BK207.out 1).trans rfl; have hcz14_2 : w11.cell? ⟨gb207, 2, none⟩ = some (.int .i64 0) := (blk_cell BK207.out 2).trans rfl; have hcz14_3 : w11.cell? ⟨gb207, 3, none⟩ = some (.int .i64 0) := (blk_cell BK207.out 3).trans rfl; have hcz14_4 : w11.cell? ⟨gb207, 4, none⟩ = some (.int .i64 0) := (blk_cell BK207.out 4).trans rfl; have hcz14_5 : w11.cell? ⟨gb207, 5, none⟩ = some (.int .i64 0) := (blk_cell BK207.out 5).trans rfl; have hcz14_6 : w11.cell? ⟨gb207, 6, none⟩ = some (.string (⟨#[]⟩ : ByteArray)) := (blk_cell BK207.out 6).trans rfl; have hcz14_7 : w11.cell? ⟨gb207, 7, none⟩ = some (.slice none 0 0) := (blk_cell BK207.out 7).trans rfl; have hfz14_0 := blk_frozen BK207.out 0; have hfz14_1 := blk_frozen BK207.out 1; have hfz14_2 := blk_frozen BK207.out 2; have hfz14_3 := blk_frozen BK207.out 3; have hfz14_4 := blk_frozen BK207.out 4; have hfz14_5 := blk_frozen BK207.out 5; have hfz14_6 := blk_frozen BK207.out 6; have hfz14_7 := blk_frozen BK207.out 7)))
   (try simp only [Act.put, List.setIfInBounds_toArray, List.set_cons_zero, List.set_cons_succ])
   go_cut [23] (fun v23 wc => ∃ (kq : Nat) (x23_5 : Bool), v23 = .bool x23_5 ∧ Aside0 (crosstreeref08_Insn.j0 kq a2 x23_5 l0_0 l0_1 a0_2 a1_0 a1_1 a1_2 l1_3 l1_4 ((rd_T39 l1_4 a2).f0) ((rd_T39 l1_4 a2).f1) ((rd_T39 l1_4 a2).f2) ((rd_T39 l1_4 a2).f3) ((rd_T39 l1_4 a2).f4) ((rd_T39 l1_4 a2).f5) ((rd_T39 l1_4 a2).f6) ((rd_T39 l1_4 a2).f7) = some r) ∧ Aside0 (kq ≤ k) ∧ Aside0 (wc.heap[gb204]? = some (.cells #[(.slice A0_0 l0_0.length c0_0), (.slice A0_1 l0_1.length c0_1), .int .i64 a0_2] 25 (0, 0))) ∧ Aside0 (wc.heap[gb205]? = some (.cells #[.string a1_0, .int .i64 a1_1, .int .i64 a1_2, (.slice A1_3 l1_3.length c1_3), (.slice (some ad206) l1_4.length c1_4)] 36 (0, 0))) ∧ Aside0 (wc.heap[gb207]? = some (.cells #[.int .i64 ((rd_T39 l1_4 a2).f0), .int .i64 ((rd_T39 l1_4 a2).f1), .int .i64 ((rd_T39 l1_4 a2).f2), .int .i64 ((rd_T39 l1_4 a2).f3), .int .i64 ((rd_T39 l1_4 a2).f4), .int .i64 ((rd_T39 l1_4 a2).f5), .string ((rd_T39 l1_4 a2).f6), (.slice A206_7 ((rd_T39 l1_4 a2).f7).length c206_7)] 39 (0, 0))) ∧ Aside0 (Below w.heap.size w wc))
   case first =>
    have H := HC6.out
    clear HC6
    by_cases c15 : ((rd_T39 l1_4 a2).f0) < 1
    ·rw [if_pos c15] at H
     have c15b0 : decide (((rd_T39 l1_4 a2).f0) < 1) = true := decide_eq_true c15
     clear c15
     (first | rw [c15b0] | (simp only [i64_w, i32_w]; rw [c15b0]) | skip)
     have H' := Aside0.mk H
     clear H
     have hnb16 := NB207_204.out
     have hnc16 := NB204_207.out
     have hnb17 := NB207_205.out
     have hnc17 := NB205_207.out
     have hcz18_0 : w11.cell? ⟨gb207, 0, none⟩ = some (.int .i64 0) := (blk_cell BK207.out 0).trans rfl
     have hcz18_1 : w11.cell? ⟨gb207, 1, none⟩ = some (.int .i64 0) := (blk_cell BK207.out 1).trans rfl
     have hcz18_2 : w11.cell? ⟨gb207, 2, none⟩ = some (.int .i64 0) := (blk_cell BK207.out 2).trans rfl
     have hcz18_3 : w11.cell? ⟨gb207, 3, none⟩ = some (.int .i64 0) := (blk_cell BK207.out 3).trans rfl
     have hcz18_4 : w11.cell? ⟨gb207, 4, none⟩ = some (.int .i64 0) := (blk_cell BK207.out 4).trans rfl
     have hcz18_5 : w11.cell? ⟨gb207, 5, none⟩ = some (.int .i64 0) := (blk_cell BK207.out 5).trans rfl
     have hcz18_6 : w11.cell? ⟨gb207, 6, none⟩ = some (.string (⟨#[]⟩ : ByteArray)) := (blk_cell BK207.out 6).trans rfl
     have hcz18_7 : w11.cell? ⟨gb207, 7, none⟩ = some (.slice none 0 0) := (blk_cell BK207.out 7).trans rfl
     have hfz18_0 := blk_frozen BK207.out 0
     have hfz18_1 := blk_frozen BK207.out 1
     have hfz18_2 := blk_frozen BK207.out 2
     have hfz18_3 := blk_frozen BK207.out 3
     have hfz18_4 := blk_frozen BK207.out 4
     have hfz18_5 := blk_frozen BK207.out 5
     have hfz18_6 := blk_frozen BK207.out 6
     have hfz18_7 := blk_frozen BK207.out 7
     go_wp2
     repeat (go_quiet (fail); try go_wp2)
     go_meet
     case rel => exact ⟨_, (true), (by first | rfl | (simp; done) | (simp [*]; done)), H', ⟨by first | omega | exact Nat.le_refl _⟩, ⟨by (with_reducible repeat (first | refine blk_drewN ?_ _ | refine blk_drew ?_ | refine blk_alloc ?_ _)); refine blk_far ?_ NB204_207.out _; (with_reducible repeat (first | refine blk_drewN ?_ _ | refine blk_drew ?_ | refine blk_alloc ?_ _)); refine blk_far ?_ NB204_207.out _; (with_reducible repeat (first | refine blk_drewN ?_ _ | refine blk_drew ?_ | refine blk_alloc ?_ _)); refine blk_far ?_ NB204_207.out _; (with_reducible repeat (first | refine blk_drewN ?_ _ | refine blk_drew ?_ | refine blk_alloc ?_ _)); refine blk_far ?_ NB204_207.out _; (with_reducible repeat (first | refine blk_drewN ?_ _ | refine blk_drew ?_ | refine blk_alloc ?_ _)); refine blk_far ?_ NB204_207.out _; (with_reducible repeat (first | refine blk_drewN ?_ _ | refine blk_drew ?_ | refine blk_alloc ?_ _)); refine blk_far ?_ NB204_207.out _; (with_reducible repeat (first | refine blk_drewN ?_ _ | refine blk_drew ?_ | refine blk_alloc ?_ _)); refine blk_far ?_ NB204_207.out _; (with_reducible repeat (first | refine blk_drewN ?_ _ | refine blk_drew ?_ | refine blk_alloc ?_ _)); refine blk_far ?_ NB204_207.out _; (with_reducible repeat (first | refine blk_drewN ?_ _ | refine blk_drew ?_ | refine blk_alloc ?_ _)); exact BK204.out⟩, ⟨by (with_reducible repeat (first | refine blk_drewN ?_ _ | refine blk_drew ?_ | refine blk_alloc ?_ _)); refine blk_far ?_ NB205_207.out _; (with_reducible repeat (first | refine blk_drewN ?_ _ | refine blk_drew ?_ | refine blk_alloc ?_ _)); refine blk_far ?_ NB205_207.out _; (with_reducible repeat (first | refine blk_drewN ?_ _ | refine blk_drew ?_ | refine blk_alloc ?_ _)); refine blk_far ?_ NB205_207.out _; (with_reducible repeat (first | refine blk_drewN ?_ _ | refine blk_drew ?_ | refine blk_alloc ?_ _)); refine blk_far ?_ NB205_207.out _; (with_reducible repeat (first | refine blk_drewN ?_ _ | refine blk_drew ?_ | refine blk_alloc ?_ _)); refine blk_far ?_ NB205_207.out _; (with_reducible repeat (first | refine blk_drewN ?_ _ | refine blk_drew ?_ | refine blk_alloc ?_ _)); refine blk_far ?_ NB205_207.out _; (with_reducible repeat (first | refine blk_drewN ?_ _ | refine blk_drew ?_ | refine blk_alloc ?_ _)); refine blk_far ?_ NB205_207.out _; (with_reducible repeat (first | refine blk_drewN ?_ _ | refine blk_drew ?_ | refine blk_alloc ?_ _)); refine blk_far ?_ NB205_207.out _; (with_reducible repeat (first | refine blk_drewN ?_ _ | refine blk_drew ?_ | refine blk_alloc ?_ _)); exact BK205.out⟩, ⟨by (with_reducible repeat (first | refine blk_drewN ?_ _ | refine blk_drew ?_ | refine blk_alloc ?_ _)); refine blk_put (cs := #[.int .i64 ((rd_T39 l1_4 a2).f0), .int .i64 ((rd_T39 l1_4 a2).f1), .int .i64 ((rd_T39 l1_4 a2).f2), .int .i64 ((rd_T39 l1_4 a2).f3), .int .i64 ((rd_T39 l1_4 a2).f4), .int .i64 ((rd_T39 l1_4 a2).f5), .string ((rd_T39 l1_4 a2).f6), .slice none 0 0]) ?_ 7 _ rfl; (with_reducible repeat (first | refine blk_drewN ?_ _ | refine blk_drew ?_ | refine blk_alloc ?_ _)); refine blk_put (cs := #[.int .i64 ((rd_T39 l1_4 a2).f0), .int .i64 ((rd_T39 l1_4 a2).f1), .int .i64 ((rd_T39 l1_4 a2).f2), .int .i64 ((rd_T39 l1_4 a2).f3), .int .i64 ((rd_T39 l1_4 a2).f4), .int .i64 ((rd_T39 l1_4 a2).f5), .string (⟨#[]⟩ : ByteArray), .slice none 0 0]) ?_ 6 _ rfl; (with_reducible repeat (first | refine blk_drewN ?_ _ | refine blk_drew ?_ | refine blk_alloc ?_ _)); refine blk_put (cs := #[.int .i64 ((rd_T39 l1_4 a2).f0), .int .i64 ((rd_T39 l1_4 a2).f1), .int .i64 ((rd_T39 l1_4 a2).f2), .int .i64 ((rd_T39 l1_4 a2).f3), .int .i64 ((rd_T39 l1_4 a2).f4), .int .i64 0, .string (⟨#[]⟩ : ByteArray), .slice none 0 0]) ?_ 5 _ rfl; (with_reducible repeat (first | refine blk_drewN ?_ _ | refine blk_drew ?_ | refine blk_alloc ?_ _)); refine blk_put (cs := #[.int .i64 ((rd_T39 l1_4 a2).f0), .int .i64 ((rd_T39 l1_4 a2).f1), .int .i64 ((rd_T39 l1_4 a2).f2), .int .i64 ((rd_T39 l1_4 a2).f3), .int .i64 0, .int .i64 0, .string (⟨#[]⟩ : ByteArray), .slice none 0 0]) ?_ 4 _ rfl; (with_reducible repeat (first | refine blk_drewN ?_ _ | refine blk_drew ?_ | refine blk_alloc ?_ _)); refine blk_put (cs := #[.int .i64 ((rd_T39 l1_4 a2).f0), .int .i64 ((rd_T39 l1_4 a2).f1), .int .i64 ((rd_T39 l1_4 a2).f2), .int .i64 0, .int .i64 0, .int .i64 0, .string (⟨#[]⟩ : ByteArray), .slice none 0 0]) ?_ 3 _ rfl; (with_reducible repeat (first | refine blk_drewN ?_ _ | refine blk_drew ?_ | refine blk_alloc ?_ _)); refine blk_put (cs := #[.int .i64 ((rd_T39 l1_4 a2).f0), .int .i64 ((rd_T39 l1_4 a2).f1), .int .i64 0, .int .i64 0, .int .i64 0, .int .i64 0, .string (⟨#[]⟩ : ByteArray), .slice none 0 0]) ?_ 2 _ rfl; (with_reducible repeat (first | refine blk_drewN ?_ _ | refine blk_drew ?_ | refine blk_alloc ?_ _)); refine blk_put (cs := #[.int .i64 ((rd_T39 l1_4 a2).f0), .int .i64 0, .int .i64 0, .int .i64 0, .int .i64 0, .int .i64 0, .string (⟨#[]⟩ : ByteArray), .slice none 0 0]) ?_ 1 _ rfl; (with_reducible repeat (first | refine blk_drewN ?_ _ | refine blk_drew ?_ | refine blk_alloc ?_ _)); refine blk_put (cs := #[.int .i64 0, .int .i64 0, .int .i64 0, .int .i64 0, .int .i64 0, .int .i64 0, .string (⟨#[]⟩ : ByteArray), .slice none 0 0]) ?_ 0 _ rfl; (with_reducible repeat (first | refine blk_drewN ?_ _ | refine blk_drew ?_ | refine blk_alloc ?_ _)); exact BK207.out⟩, ⟨by repeat (first | (with_reducible first | exact HB.out | apply below_alloc | apply pw_below_drewN | apply below_drew1 | refine below_set ?_ GE204.out | refine below_set ?_ GE205.out | refine below_set ?_ GE207.out) | exact HB.out)⟩⟩
    ·rw [if_neg c15] at H
     have c15b0 : decide (((rd_T39 l1_4 a2).f0) < 1) = false := decide_eq_false c15
     clear c15
     (first | rw [c15b0] | (simp only [i64_w, i32_w]; rw [c15b0]) | skip)
     have H' := Aside0.mk H
     clear H
     have hnb19 := NB207_204.out
     have hnc19 := NB204_207.out
     have hnb20 := NB207_205.out
     have hnc20 := NB205_207.out
     have hcz21_0 : w11.cell? ⟨gb207, 0, none⟩ = some (.int .i64 0) := (blk_cell BK207.out 0).trans rfl
     have hcz21_1 : w11.cell? ⟨gb207, 1, none⟩ = some (.int .i64 0) := (blk_cell BK207.out 1).trans rfl
     have hcz21_2 : w11.cell? ⟨gb207, 2, none⟩ = some (.int .i64 0) := (blk_cell BK207.out 2).trans rfl
     have hcz21_3 : w11.cell? ⟨gb207, 3, none⟩ = some (.int .i64 0) := (blk_cell BK207.out 3).trans rfl
     have hcz21_4 : w11.cell? ⟨gb207, 4, none⟩ = some (.int .i64 0) := (blk_cell BK207.out 4).trans rfl
     have hcz21_5 : w11.cell? ⟨gb207, 5, none⟩ = some (.int .i64 0) := (blk_cell BK207.out 5).trans rfl
     have hcz21_6 : w11.cell? ⟨gb207, 6, none⟩ = some (.string (⟨#[]⟩ : ByteArray)) := (blk_cell BK207.out 6).trans rfl
     have hcz21_7 : w11.cell? ⟨gb207, 7, none⟩ = some (.slice none 0 0) := (blk_cell BK207.out 7).trans rfl
     have hfz21_0 := blk_frozen BK207.out 0
     have hfz21_1 := blk_frozen BK207.out 1
     have hfz21_2 := blk_frozen BK207.out 2
     have hfz21_3 := blk_frozen BK207.out 3
     have hfz21_4 := blk_frozen BK207.out 4
     have hfz21_5 := blk_frozen BK207.out 5
     have hfz21_6 := blk_frozen BK207.out 6
     have hfz21_7 := blk_frozen BK207.out 7
     go_wp2
     repeat (go_quiet (fail); try go_wp2)
     go_meet
     case rel => exact ⟨_, (decide (((rd_T39 l1_4 a2).f0) > 20)), (by first | rfl | (simp; done) | (simp [*]; done)), H', ⟨by first | omega | exact Nat.le_refl _⟩, ⟨by (with_reducible repeat (first | refine blk_drewN ?_ _ | refine blk_drew ?_ | refine blk_alloc ?_ _)); refine blk_far ?_ NB204_207.out _; (with_reducible repeat (first | refine blk_drewN ?_ _ | refine blk_drew ?_ | refine blk_alloc ?_ _)); refine blk_far ?_ NB204_207.out _; (with_reducible repeat (first | refine blk_drewN ?_ _ | refine blk_drew ?_ | refine blk_alloc ?_ _)); refine blk_far ?_ NB204_207.out _; (with_reducible repeat (first | refine blk_drewN ?_ _ | refine blk_drew ?_ | refine blk_alloc ?_ _)); refine blk_far ?_ NB204_207.out _; (with_reducible repeat (first | refine blk_drewN ?_ _ | refine blk_drew ?_ | refine blk_alloc ?_ _)); refine blk_far ?_ NB204_207.out _; (with_reducible repeat (first | refine blk_drewN ?_ _ | refine blk_drew ?_ | refine blk_alloc ?_ _)); refine blk_far ?_ NB204_207.out _; (with_reducible repeat (first | refine blk_drewN ?_ _ | refine blk_drew ?_ | refine blk_alloc ?_ _)); refine blk_far ?_ NB204_207.out _; (with_reducible repeat (first | refine blk_drewN ?_ _ | refine blk_drew ?_ | refine blk_alloc ?_ _)); refine blk_far ?_ NB204_207.out _; (with_reducible repeat (first | refine blk_drewN ?_ _ | refine blk_drew ?_ | refine blk_alloc ?_ _)); exact BK204.out⟩, ⟨by (with_reducible repeat (first | refine blk_drewN ?_ _ | refine blk_drew ?_ | refine blk_alloc ?_ _)); refine blk_far ?_ NB205_207.out _; (with_reducible repeat (first | refine blk_drewN ?_ _ | refine blk_drew ?_ | refine blk_alloc ?_ _)); refine blk_far ?_ NB205_207.out _; (with_reducible repeat (first | refine blk_drewN ?_ _ | refine blk_drew ?_ | refine blk_alloc ?_ _)); refine blk_far ?_ NB205_207.out _; (with_reducible repeat (first | refine blk_drewN ?_ _ | refine blk_drew ?_ | refine blk_alloc ?_ _)); refine blk_far ?_ NB205_207.out _; (with_reducible repeat (first | refine blk_drewN ?_ _ | refine blk_drew ?_ | refine blk_alloc ?_ _)); refine blk_far ?_ NB205_207.out _; (with_reducible repeat (first | refine blk_drewN ?_ _ | refine blk_drew ?_ | refine blk_alloc ?_ _)); refine blk_far ?_ NB205_207.out _; (with_reducible repeat (first | refine blk_drewN ?_ _ | refine blk_drew ?_ | refine blk_alloc ?_ _)); refine blk_far ?_ NB205_207.out _; (with_reducible repeat (first | refine blk_drewN ?_ _ | refine blk_drew ?_ | refine blk_alloc ?_ _)); refine blk_far ?_ NB205_207.out _; (with_reducible repeat (first | refine blk_drewN ?_ _ | refine blk_drew ?_ | refine blk_alloc ?_ _)); exact BK205.out⟩, ⟨by (with_reducible repeat (first | refine blk_drewN ?_ _ | refine blk_drew ?_ | refine blk_alloc ?_ _)); refine blk_put (cs := #[.int .i64 ((rd_T39 l1_4 a2).f0), .int .i64 ((rd_T39 l1_4 a2).f1), .int .i64 ((rd_T39 l1_4 a2).f2), .int .i64 ((rd_T39 l1_4 a2).f3), .int .i64 ((rd_T39 l1_4 a2).f4), .int .i64 ((rd_T39 l1_4 a2).f5), .string ((rd_T39 l1_4 a2).f6), .slice none 0 0]) ?_ 7 _ rfl; (with_reducible repeat (first | refine blk_drewN ?_ _ | refine blk_drew ?_ | refine blk_alloc ?_ _)); refine blk_put (cs := #[.int .i64 ((rd_T39 l1_4 a2).f0), .int .i64 ((rd_T39 l1_4 a2).f1), .int .i64 ((rd_T39 l1_4 a2).f2), .int .i64 ((rd_T39 l1_4 a2).f3), .int .i64 ((rd_T39 l1_4 a2).f4), .int .i64 ((rd_T39 l1_4 a2).f5), .string (⟨#[]⟩ : ByteArray), .slice none 0 0]) ?_ 6 _ rfl; (with_reducible repeat (first | refine blk_drewN ?_ _ | refine blk_drew ?_ | refine blk_alloc ?_ _)); refine blk_put (cs := #[.int .i64 ((rd_T39 l1_4 a2).f0), .int .i64 ((rd_T39 l1_4 a2).f1), .int .i64 ((rd_T39 l1_4 a2).f2), .int .i64 ((rd_T39 l1_4 a2).f3), .int .i64 ((rd_T39 l1_4 a2).f4), .int .i64 0, .string (⟨#[]⟩ : ByteArray), .slice none 0 0]) ?_ 5 _ rfl; (with_reducible repeat (first | refine blk_drewN ?_ _ | refine blk_drew ?_ | refine blk_alloc ?_ _)); refine blk_put (cs := #[.int .i64 ((rd_T39 l1_4 a2).f0), .int .i64 ((rd_T39 l1_4 a2).f1), .int .i64 ((rd_T39 l1_4 a2).f2), .int .i64 ((rd_T39 l1_4 a2).f3), .int .i64 0, .int .i64 0, .string (⟨#[]⟩ : ByteArray), .slice none 0 0]) ?_ 4 _ rfl; (with_reducible repeat (first | refine blk_drewN ?_ _ | refine blk_drew ?_ | refine blk_alloc ?_ _)); refine blk_put (cs := #[.int .i64 ((rd_T39 l1_4 a2).f0), .int .i64 ((rd_T39 l1_4 a2).f1), .int .i64 ((rd_T39 l1_4 a2).f2), .int .i64 0, .int .i64 0, .int .i64 0, .string (⟨#[]⟩ : ByteArray), .slice none 0 0]) ?_ 3 _ rfl; (with_reducible repeat (first | refine blk_drewN ?_ _ | refine blk_drew ?_ | refine blk_alloc ?_ _)); refine blk_put (cs := #[.int .i64 ((rd_T39 l1_4 a2).f0), .int .i64 ((rd_T39 l1_4 a2).f1), .int .i64 0, .int .i64 0, .int .i64 0, .int .i64 0, .string (⟨#[]⟩ : ByteArray), .slice none 0 0]) ?_ 2 _ rfl; (with_reducible repeat (first | refine blk_drewN ?_ _ | refine blk_drew ?_ | refine blk_alloc ?_ _)); refine blk_put (cs := #[.int .i64 ((rd_T39 l1_4 a2).f0), .int .i64 0, .int .i64 0, .int .i64 0, .int .i64 0, .int .i64 0, .string (⟨#[]⟩ : ByteArray), .slice none 0 0]) ?_ 1 _ rfl; (with_reducible repeat (first | refine blk_drewN ?_ _ | refine blk_drew ?_ | refine blk_alloc ?_ _)); refine blk_put (cs := #[.int .i64 0, .int .i64 0, .int .i64 0, .int .i64 0, .int .i64 0, .int .i64 0, .string (⟨#[]⟩ : ByteArray), .slice none 0 0]) ?_ 0 _ rfl; (with_reducible repeat (first | refine blk_drewN ?_ _ | refine blk_drew ?_ | refine blk_alloc ?_ _)); exact BK207.out⟩, ⟨by repeat (first | (with_reducible first | exact HB.out | apply below_alloc | apply pw_below_drewN | apply below_drew1 | refine below_set ?_ GE204.out | refine below_set ?_ GE205.out | refine below_set ?_ GE207.out) | exact HB.out)⟩⟩
   case rest =>
    clear HC6
    try clear c1
    try clear c2
    try clear p2
    try clear q2
    try clear hx2
    try clear c4
    try clear c4b0
    try clear c5
    try clear c5b0
    try clear c9
    try clear c12
    try clear c13
    try clear c15
    try clear c15b0
    try clear c16
    try clear c17
    try clear c19
    try clear c20
    try clear p20
    try clear q20
    try clear hx20
    try clear hcz10_0
    try clear hcz10_1
    try clear hcz10_2
    try clear hcz10_3
    try clear hcz10_4
    try clear hcz14_0
    try clear hcz14_1
    try clear hcz14_2
    try clear hcz14_3
    try clear hcz14_4
    try clear hcz14_5
    try clear hcz14_6
    try clear hcz14_7
    try clear hcz18_0
    try clear hcz18_1
    try clear hcz18_2
    try clear hcz18_3
    try clear hcz18_4
    try clear hcz18_5
    try clear hcz18_6
    try clear hcz18_7
    try clear hcz21_0
    try clear hcz21_1
    try clear hcz21_2
    try clear hcz21_3
    try clear hcz21_4
    try clear hcz21_5
    try clear hcz21_6
    try clear hcz21_7
    try clear hfz10_0
    try clear hfz10_1
    try clear hfz10_2
    try clear hfz10_3
    try clear hfz10_4
    try clear hfz14_0
    try clear hfz14_1
    try clear hfz14_2
    try clear hfz14_3
    try clear hfz14_4
    try clear hfz14_5
    try clear hfz14_6
    try clear hfz14_7
    try clear hfz18_0
    try clear hfz18_1
    try clear hfz18_2
    try clear hfz18_3
    try clear hfz18_4
    try clear hfz18_5
    try clear hfz18_6
    try clear hfz18_7
    try clear hfz21_0
    try clear hfz21_1
    try clear hfz21_2
    try clear hfz21_3
    try clear hfz21_4
    try clear hfz21_5
    try clear hfz21_6
    try clear hfz21_7
    try clear hx206_0
    try clear hx206_1
    try clear hx206_2
    try clear hx206_3
    try clear hx206_4
    try clear hx206_5
    try clear hx206_6
    try clear hx206_7
    try clear p206
    try clear q206
    obtain ⟨kq, x23_5, rfl, HA, HJ5, BK204, BK205, BK207, HB⟩ := hcut
    cases kq with
    | zero => exact absurd HA.out (by simp [crosstreeref08_Insn.j0])
    | succ kj5 =>
     have H := HA.out
     clear HA
     simp only [crosstreeref08_Insn.j0] at H
     by_cases c22 : x23_5 = true
     ·subst c22
      have H1 : (some 1) = some r := by rw [if_pos rfl] at H; exact H
      clear H
      have H := H1
      clear H1
      obtain rfl := Option.some.inj H
      go_wp2
      repeat (go_quiet (fail); try go_wp2)
      go_ret
      exact ⟨by first | rfl | (simp [errW_none, errW_some] <;> rfl) | (simp [*, errW_none, errW_some] <;> rfl), by repeat (first | (with_reducible first | exact HB.out | apply below_alloc | apply pw_below_drewN | apply below_drew1 | refine below_set ?_ GE204.out | refine below_set ?_ GE205.out | refine below_set ?_ GE207.out) | exact HB.out)⟩
     ·replace c22 := Bool.eq_false_iff.mpr c22
      subst c22
      have H1 : ((crosstreeref08_Reads.f kj5 ((rd_T39 l1_4 a2).f0) ((rd_T39 l1_4 a2).f1) ((rd_T39 l1_4 a2).f2) ((rd_T39 l1_4 a2).f3) ((rd_T39 l1_4 a2).f4) ((rd_T39 l1_4 a2).f5) ((rd_T39 l1_4 a2).f6) ((rd_T39 l1_4 a2).f7)).bind fun t208 => ((crosstreeref08_writes.f ((rd_T39 l1_4 a2).f0)).bind fun t211 => (if t211 = true then (if t208.length < 17592186044416 then (crosstreeref08_Insn.j1 kj5 a2 (t208 ++ [((rd_T39 l1_4 a2).f1)]) l0_0 l0_1 a0_2 a1_0 a1_1 a1_2 l1_3 l1_4 ((rd_T39 l1_4 a2).f0) ((rd_T39 l1_4 a2).f1) ((rd_T39 l1_4 a2).f2) ((rd_T39 l1_4 a2).f3) ((rd_T39 l1_4 a2).f4) ((rd_T39 l1_4 a2).f5) ((rd_T39 l1_4 a2).f6) ((rd_T39 l1_4 a2).f7)) else (none)) else (crosstreeref08_Insn.j1 kj5 a2 t208 l0_0 l0_1 a0_2 a1_0 a1_1 a1_2 l1_3 l1_4 ((rd_T39 l1_4 a2).f0) ((rd_T39 l1_4 a2).f1) ((rd_T39 l1_4 a2).f2) ((rd_T39 l1_4 a2).f3) ((rd_T39 l1_4 a2).f4) ((rd_T39 l1_4 a2).f5) ((rd_T39 l1_4 a2).f6) ((rd_T39 l1_4 a2).f7))))) = some r := by rw [if_neg (show ¬ (false = true) by decide)] at H; exact H
      clear H
      have H := H1
      clear H1
      replace H := Option.bind_eq_some_iff.mp H
      obtain ⟨t208, A230, H⟩ := H
      replace H : ((crosstreeref08_writes.f ((rd_T39 l1_4 a2).f0)).bind fun t211 => (if t211 = true then (if t208.length < 17592186044416 then (crosstreeref08_Insn.j1 kj5 a2 (t208 ++ [((rd_T39 l1_4 a2).f1)]) l0_0 l0_1 a0_2 a1_0 a1_1 a1_2 l1_3 l1_4 ((rd_T39 l1_4 a2).f0) ((rd_T39 l1_4 a2).f1) ((rd_T39 l1_4 a2).f2) ((rd_T39 l1_4 a2).f3) ((rd_T39 l1_4 a2).f4) ((rd_T39 l1_4 a2).f5) ((rd_T39 l1_4 a2).f6) ((rd_T39 l1_4 a2).f7)) else (none)) else (crosstreeref08_Insn.j1 kj5 a2 t208 l0_0 l0_1 a0_2 a1_0 a1_1 a1_2 l1_3 l1_4 ((rd_T39 l1_4 a2).f0) ((rd_T39 l1_4 a2).f1) ((rd_T39 l1_4 a2).f2) ((rd_T39 l1_4 a2).f3) ((rd_T39 l1_4 a2).f4) ((rd_T39 l1_4 a2).f5) ((rd_T39 l1_4 a2).f6) ((rd_T39 l1_4 a2).f7)))) = some r := H
      have A23 := Aside0.mk A230
      clear A230
      replace H := Option.bind_eq_some_iff.mp H
      obtain ⟨t211, A240, H⟩ := H
      replace H : (if t211 = true then (if t208.length < 17592186044416 then (crosstreeref08_Insn.j1 kj5 a2 (t208 ++ [((rd_T39 l1_4 a2).f1)]) l0_0 l0_1 a0_2 a1_0 a1_1 a1_2 l1_3 l1_4 ((rd_T39 l1_4 a2).f0) ((rd_T39 l1_4 a2).f1) ((rd_T39 l1_4 a2).f2) ((rd_T39 l1_4 a2).f3) ((rd_T39 l1_4 a2).f4) ((rd_T39 l1_4 a2).f5) ((rd_T39 l1_4 a2).f6) ((rd_T39 l1_4 a2).f7)) else (none)) else (crosstreeref08_Insn.j1 kj5 a2 t208 l0_0 l0_1 a0_2 a1_0 a1_1 a1_2 l1_3 l1_4 ((rd_T39 l1_4 a2).f0) ((rd_T39 l1_4 a2).f1) ((rd_T39 l1_4 a2).f2) ((rd_T39 l1_4 a2).f3) ((rd_T39 l1_4 a2).f4) ((rd_T39 l1_4 a2).f5) ((rd_T39 l1_4 a2).f6) ((rd_T39 l1_4 a2).f7))) = some r := H
      have A24 := Aside0.mk A240
      clear A240
      have HC25 := Aside0.mk H
      clear H
      have hnb26 := NB207_204.out
      have hnc26 := NB204_207.out
      have hnb27 := NB207_205.out
      have hnc27 := NB205_207.out
      have hcz28_0 : wc.cell? ⟨gb207, 0, none⟩ = some (.int .i64 ((rd_T39 l1_4 a2).f0)) := (blk_cell BK207.out 0).trans rfl
      have hcz28_1 : wc.cell? ⟨gb207, 1, none⟩ = some (.int .i64 ((rd_T39 l1_4 a2).f1)) := (blk_cell BK207.out 1).trans rfl
      have hcz28_2 : wc.cell? ⟨gb207, 2, none⟩ = some (.int .i64 ((rd_T39 l1_4 a2).f2)) := (blk_cell BK207.out 2).trans rfl
      have hcz28_3 : wc.cell? ⟨gb207, 3, none⟩ = some (.int .i64 ((rd_T39 l1_4 a2).f3)) := (blk_cell BK207.out 3).trans rfl
      have hcz28_4 : wc.cell? ⟨gb207, 4, none⟩ = some (.int .i64 ((rd_T39 l1_4 a2).f4)) := (blk_cell BK207.out 4).trans rfl
      have hcz28_5 : wc.cell? ⟨gb207, 5, none⟩ = some (.int .i64 ((rd_T39 l1_4 a2).f5)) := (blk_cell BK207.out 5).trans rfl
      have hcz28_6 : wc.cell? ⟨gb207, 6, none⟩ = some (.string ((rd_T39 l1_4 a2).f6)) := (blk_cell BK207.out 6).trans rfl
      have hcz28_7 : wc.cell? ⟨gb207, 7, none⟩ = some (.slice A206_7 ((rd_T39 l1_4 a2).f7).length c206_7) := (blk_cell BK207.out 7).trans rfl
      have hfz28_0 := blk_frozen BK207.out 0
      have hfz28_1 := blk_frozen BK207.out 1
      have hfz28_2 := blk_frozen BK207.out 2
      have hfz28_3 := blk_frozen BK207.out 3
      have hfz28_4 := blk_frozen BK207.out 4
      have hfz28_5 := blk_frozen BK207.out 5
      have hfz28_6 := blk_frozen BK207.out 6
      have hfz28_7 := blk_frozen BK207.out 7
      go_upto_if 28 with (first | (go_at_call 20; (with_reducible refine (crosstreeref08_Reads.calls kj5 ((rd_T39 l1_4 a2).f0) ((rd_T39 l1_4 a2).f1) ((rd_T39 l1_4 a2).f2) ((rd_T39 l1_4 a2).f3) ((rd_T39 l1_4 a2).f4) ((rd_T39 l1_4 a2).f5) ((rd_T39 l1_4 a2).f6) _ _ ((rd_T39 l1_4 a2).f7) t208 _ ?side1 ?side2 A23.out).mono ?_); (case side1 => repeat (first | exact (Kd.C_below HR206_7.out HB.out) | (with_reducible refine Kd.C_alloc ?_ _) | (with_reducible refine Kd.C_drewN ?_ _) | (with_reducible refine Kd.C_drew ?_))); (case side2 => exact HC206_7.out); rintro e w29 ⟨v209, rfl, ho0, hb⟩; have n0_ := Aside0.mk (Kd.R_lower ho0 (below_size (by repeat (first | (with_reducible first | exact HB.out | apply below_alloc | apply pw_below_drewN | apply below_drew1 | refine below_set ?_ GE204.out | refine below_set ?_ GE205.out | refine below_set ?_ GE207.out) | exact HB.out)))); have n1_ := Aside0.mk (blk_below (g := gb204) (o := .cells #[.slice A0_0 l0_0.length c0_0, .slice A0_1 l0_1.length c0_1, .int .i64 a0_2] 25 (0, 0)) (by (with_reducible repeat (first | refine blk_drewN ?_ _ | refine blk_drew ?_ | refine blk_alloc ?_ _)); exact BK204.out) hb); have n2_ := Aside0.mk (blk_below (g := gb205) (o := .cells #[.string a1_0, .int .i64 a1_1, .int .i64 a1_2, .slice A1_3 l1_3.length c1_3, .slice (some ad206) l1_4.length c1_4] 36 (0, 0)) (by (with_reducible repeat (first | refine blk_drewN ?_ _ | refine blk_drew ?_ | refine blk_alloc ?_ _)); exact BK205.out) hb); have n3_ := Aside0.mk (blk_below (g := gb207) (o := .cells #[.int .i64 ((rd_T39 l1_4 a2).f0), .int .i64 ((rd_T39 l1_4 a2).f1), .int .i64 ((rd_T39 l1_4 a2).f2), .int .i64 ((rd_T39 l1_4 a2).f3), .int .i64 ((rd_T39 l1_4 a2).f4), .int .i64 ((rd_T39 l1_4 a2).f5), .string ((rd_T39 l1_4 a2).f6), .slice A206_7 ((rd_T39 l1_4 a2).f7).length c206_7] 39 (0, 0)) (by (with_reducible repeat (first | refine blk_drewN ?_ _ | refine blk_drew ?_ | refine blk_alloc ?_ _)); exact BK207.out) hb); have n4_ := Aside0.mk (below_step (by repeat (first | (with_reducible first | exact HB.out | apply below_alloc | apply pw_below_drewN | apply below_drew1 | refine below_set ?_ GE204.out | refine below_set ?_ GE205.out | refine below_set ?_ GE207.out) | exact HB.out)) hb); clear BK204; clear BK205; clear BK207; clear HB; have HO210 := n0_; have BK204 := n1_; have BK205 := n2_; have BK207 := n3_; have HB := n4_; clear n0_ n1_ n2_ n3_ n4_; (try clear hb); (try clear hb2); (try clear hk); (try clear hi); (try clear ho0); have hcz30_0 : w29.cell? ⟨gb207, 0, none⟩ = some (.int .i64 ((rd_T39 l1_4 a2).f0)) := (blk_cell BK207.out 0).trans rfl; have hcz30_1 : w29.cell? ⟨gb207, 1, none⟩ = some (.int .i64 ((rd_T39 l1_4 a2).f1)) := (blk_cell BK207.out 1).trans rfl; have hcz30_2 : w29.cell? ⟨gb207, 2, none⟩ = some (.int .i64 ((rd_T39 l1_4 a2).f2)) := (blk_cell BK207.out 2).trans rfl; have hcz30_3 : w29.cell? ⟨gb207, 3, none⟩ = some (.int .i64 ((rd_T39 l1_4 a2).f3)) := (blk_cell BK207.out 3).trans rfl; have hcz30_4 : w29.cell? ⟨gb207, 4, none⟩ = some (.int .i64 ((rd_T39 l1_4 a2).f4)) := (blk_cell BK207.out 4).trans rfl; have hcz30_5 : w29.cell? ⟨gb207, 5, none⟩ = some (.int .i64 ((rd_T39 l1_4 a2).f5)) := (blk_cell BK207.out 5).trans rfl; have hcz30_6 : w29.cell? ⟨gb207, 6, none⟩ = some (.string ((rd_T39 l1_4 a2).f6)) := (blk_cell BK207.out 6).trans rfl; have hcz30_7 : w29.cell? ⟨gb207, 7, none⟩ = some (.slice A206_7 ((rd_T39 l1_4 a2).f7).length c206_7) := (blk_cell BK207.out 7).trans rfl; have hfz30_0 := blk_frozen BK207.out 0; have hfz30_1 := blk_frozen BK207.out 1; have hfz30_2 := blk_frozen BK207.out 2; have hfz30_3 := blk_frozen BK207.out 3; have hfz30_4 := blk_frozen BK207.out 4; have hfz30_5 := blk_frozen BK207.out 5; have hfz30_6 := blk_frozen BK207.out 6; have hfz30_7 := blk_frozen BK207.out 7) | (go_at_call 21; (with_reducible refine (crosstreeref08_writes.calls ((rd_T39 l1_4 a2).f0) t211 _ A24.out).mono ?_); rintro e w' ⟨rfl, ⟨nd, rfl⟩⟩; (try first | exact ⟨rfl, _, World.drewN_drewN _ _ _⟩ | exact ⟨rfl, _, Eq.trans (World.drewN_drewN _ _ _) (congrArg (World.drewN _) (Nat.add_assoc _ _ _))⟩)))
      repeat (go_quiet (first | (go_at_call 20; (with_reducible refine (crosstreeref08_Reads.calls kj5 ((rd_T39 l1_4 a2).f0) ((rd_T39 l1_4 a2).f1) ((rd_T39 l1_4 a2).f2) ((rd_T39 l1_4 a2).f3) ((rd_T39 l1_4 a2).f4) ((rd_T39 l1_4 a2).f5) ((rd_T39 l1_4 a2).f6) _ _ ((rd_T39 l1_4 a2).f7) t208 _ ?side1 ?side2 A23.out).mono ?_); (case side1 => repeat (first | exact (Kd.C_below HR206_7.out HB.out) | (with_reducible refine Kd.C_alloc ?_ _) | (with_reducible refine Kd.C_drewN ?_ _) | (with_reducible refine Kd.C_drew ?_))); (case side2 => exact HC206_7.out); rintro e w29 ⟨v209, rfl, ho0, hb⟩; have n0_ := Aside0.mk (Kd.R_lower ho0 (below_size (by repeat (first | (with_reducible first | exact HB.out | apply below_alloc | apply pw_below_drewN | apply below_drew1 | refine below_set ?_ GE204.out | refine below_set ?_ GE205.out | refine below_set ?_ GE207.out) | exact HB.out)))); have n1_ := Aside0.mk (blk_below (g := gb204) (o := .cells #[.slice A0_0 l0_0.length c0_0, .slice A0_1 l0_1.length c0_1, .int .i64 a0_2] 25 (0, 0)) (by (with_reducible repeat (first | refine blk_drewN ?_ _ | refine blk_drew ?_ | refine blk_alloc ?_ _)); exact BK204.out) hb); have n2_ := Aside0.mk (blk_below (g := gb205) (o := .cells #[.string a1_0, .int .i64 a1_1, .int .i64 a1_2, .slice A1_3 l1_3.length c1_3, .slice (some ad206) l1_4.length c1_4] 36 (0, 0)) (by (with_reducible repeat (first | refine blk_drewN ?_ _ | refine blk_drew ?_ | refine blk_alloc ?_ _)); exact BK205.out) hb); have n3_ := Aside0.mk (blk_below (g := gb207) (o := .cells #[.int .i64 ((rd_T39 l1_4 a2).f0), .int .i64 ((rd_T39 l1_4 a2).f1), .int .i64 ((rd_T39 l1_4 a2).f2), .int .i64 ((rd_T39 l1_4 a2).f3), .int .i64 ((rd_T39 l1_4 a2).f4), .int .i64 ((rd_T39 l1_4 a2).f5), .string ((rd_T39 l1_4 a2).f6), .slice A206_7 ((rd_T39 l1_4 a2).f7).length c206_7] 39 (0, 0)) (by (with_reducible repeat (first | refine blk_drewN ?_ _ | refine blk_drew ?_ | refine blk_alloc ?_ _)); exact BK207.out) hb); have n4_ := Aside0.mk (below_step (by repeat (first | (with_reducible first | exact HB.out | apply below_alloc | apply pw_below_drewN | apply below_drew1 | refine below_set ?_ GE204.out | refine below_set ?_ GE205.out | refine below_set ?_ GE207.out) | exact HB.out)) hb); clear BK204; clear BK205; clear BK207; clear HB; have HO210 := n0_; have BK204 := n1_; have BK205 := n2_; have BK207 := n3_; have HB := n4_; clear n0_ n1_ n2_ n3_ n4_; (try clear hb); (try clear hb2); (try clear hk); (try clear hi); (try clear ho0); have hcz30_0 : w29.cell? ⟨gb207, 0, none⟩ = some (.int .i64 ((rd_T39 l1_4 a2).f0)) := (blk_cell BK207.out 0).trans rfl; have hcz30_1 : w29.cell? ⟨gb207, 1, none⟩ = some (.int .i64 ((rd_T39 l1_4 a2).f1)) := (blk_cell BK207.out 1).trans rfl; have hcz30_2 : w29.cell? ⟨gb207, 2, none⟩ = some (.int .i64 ((rd_T39 l1_4 a2).f2)) := (blk_cell BK207.out 2).trans rfl; have hcz30_3 : w29.cell? ⟨gb207, 3, none⟩ = some (.int .i64 ((rd_T39 l1_4 a2).f3)) := (blk_cell BK207.out 3).trans rfl; have hcz30_4 : w29.cell? ⟨gb207, 4, none⟩ = some (.int .i64 ((rd_T39 l1_4 a2).f4)) := (blk_cell BK207.out 4).trans rfl; have hcz30_5 : w29.cell? ⟨gb207, 5, none⟩ = some (.int .i64 ((rd_T39 l1_4 a2).f5)) := (blk_cell BK207.out 5).trans rfl; have hcz30_6 : w29.cell? ⟨gb207, 6, none⟩ = some (.string ((rd_T39 l1_4 a2).f6)) := (blk_cell BK207.out 6).trans rfl; have hcz30_7 : w29.cell? ⟨gb207, 7, none⟩ = some (.slice A206_7 ((rd_T39 l1_4 a2).f7).length c206_7) := (blk_cell BK207.out 7).trans rfl; have hfz30_0 := blk_frozen BK207.out 0; have hfz30_1 := blk_frozen BK207.out 1; have hfz30_2 := blk_frozen BK207.out 2; have hfz30_3 := blk_frozen BK207.out 3; have hfz30_4 := blk_frozen BK207.out 4; have hfz30_5 := blk_frozen BK207.out 5; have hfz30_6 := blk_frozen BK207.out 6; have hfz30_7 := blk_frozen BK207.out 7) | (go_at_call 21; (with_reducible refine (crosstreeref08_writes.calls ((rd_T39 l1_4 a2).f0) t211 _ A24.out).mono ?_); rintro e w' ⟨rfl, ⟨nd, rfl⟩⟩; (try first | exact ⟨rfl, _, World.drewN_drewN _ _ _⟩ | exact ⟨rfl, _, Eq.trans (World.drewN_drewN _ _ _) (congrArg (World.drewN _) (Nat.add_assoc _ _ _))⟩))); go_upto_if 28 with (first | (go_at_call 20; (with_reducible refine (crosstreeref08_Reads.calls kj5 ((rd_T39 l1_4 a2).f0) ((rd_T39 l1_4 a2).f1) ((rd_T39 l1_4 a2).f2) ((rd_T39 l1_4 a2).f3) ((rd_T39 l1_4 a2).f4) ((rd_T39 l1_4 a2).f5) ((rd_T39 l1_4 a2).f6) _ _ ((rd_T39 l1_4 a2).f7) t208 _ ?side1 ?side2 A23.out).mono ?_); (case side1 => repeat (first | exact (Kd.C_below HR206_7.out HB.out) | (with_reducible refine Kd.C_alloc ?_ _) | (with_reducible refine Kd.C_drewN ?_ _) | (with_reducible refine Kd.C_drew ?_))); (case side2 => exact HC206_7.out); rintro e w29 ⟨v209, rfl, ho0, hb⟩; have n0_ := Aside0.mk (Kd.R_lower ho0 (below_size (by repeat (first | (with_reducible first | exact HB.out | apply below_alloc | apply pw_below_drewN | apply below_drew1 | refine below_set ?_ GE204.out | refine below_set ?_ GE205.out | refine below_set ?_ GE207.out) | exact HB.out)))); have n1_ := Aside0.mk (blk_below (g := gb204) (o := .cells #[.slice A0_0 l0_0.length c0_0, .slice A0_1 l0_1.length c0_1, .int .i64 a0_2] 25 (0, 0)) (by (with_reducible repeat (first | refine blk_drewN ?_ _ | refine blk_drew ?_ | refine blk_alloc ?_ _)); exact BK204.out) hb); have n2_ := Aside0.mk (blk_below (g := gb205) (o := .cells #[.string a1_0, .int .i64 a1_1, .int .i64 a1_2, .slice A1_3 l1_3.length c1_3, .slice (some ad206) l1_4.length c1_4] 36 (0, 0)) (by (with_reducible repeat (first | refine blk_drewN ?_ _ | refine blk_drew ?_ | refine blk_alloc ?_ _)); exact BK205.out) hb); have n3_ := Aside0.mk (blk_below (g := gb207) (o := .cells #[.int .i64 ((rd_T39 l1_4 a2).f0), .int .i64 ((rd_T39 l1_4 a2).f1), .int .i64 ((rd_T39 l1_4 a2).f2), .int .i64 ((rd_T39 l1_4 a2).f3), .int .i64 ((rd_T39 l1_4 a2).f4), .int .i64 ((rd_T39 l1_4 a2).f5), .string ((rd_T39 l1_4 a2).f6), .slice A206_7 ((rd_T39 l1_4 a2).f7).length c206_7] 39 (0, 0)) (by (with_reducible repeat (first | refine blk_drewN ?_ _ | refine blk_drew ?_ | refine blk_alloc ?_ _)); exact BK207.out) hb); have n4_ := Aside0.mk (below_step (by repeat (first | (with_reducible first | exact HB.out | apply below_alloc | apply pw_below_drewN | apply below_drew1 | refine below_set ?_ GE204.out | refine below_set ?_ GE205.out | refine below_set ?_ GE207.out) | exact HB.out)) hb); clear BK204; clear BK205; clear BK207; clear HB; have HO210 := n0_; have BK204 := n1_; have BK205 := n2_; have BK207 := n3_; have HB := n4_; clear n0_ n1_ n2_ n3_ n4_; (try clear hb); (try clear hb2); (try clear hk); (try clear hi); (try clear ho0); have hcz30_0 : w29.cell? ⟨gb207, 0, none⟩ = some (.int .i64 ((rd_T39 l1_4 a2).f0)) := (blk_cell BK207.out 0).trans rfl; have hcz30_1 : w29.cell? ⟨gb207, 1, none⟩ = some (.int .i64 ((rd_T39 l1_4 a2).f1)) := (blk_cell BK207.out 1).trans rfl; have hcz30_2 : w29.cell? ⟨gb207, 2, none⟩ = some (.int .i64 ((rd_T39 l1_4 a2).f2)) := (blk_cell BK207.out 2).trans rfl; have hcz30_3 : w29.cell? ⟨gb207, 3, none⟩ = some (.int .i64 ((rd_T39 l1_4 a2).f3)) := (blk_cell BK207.out 3).trans rfl; have hcz30_4 : w29.cell? ⟨gb207, 4, none⟩ = some (.int .i64 ((rd_T39 l1_4 a2).f4)) := (blk_cell BK207.out 4).trans rfl; have hcz30_5 : w29.cell? ⟨gb207, 5, none⟩ = some (.int .i64 ((rd_T39 l1_4 a2).f5)) := (blk_cell BK207.out 5).trans rfl; have hcz30_6 : w29.cell? ⟨gb207, 6, none⟩ = some (.string ((rd_T39 l1_4 a2).f6)) := (blk_cell BK207.out 6).trans rfl; have hcz30_7 : w29.cell? ⟨gb207, 7, none⟩ = some (.slice A206_7 ((rd_T39 l1_4 a2).f7).length c206_7) := (blk_cell BK207.out 7).trans rfl; have hfz30_0 := blk_frozen BK207.out 0; have hfz30_1 := blk_frozen BK207.out 1; have hfz30_2 := blk_frozen BK207.out 2; have hfz30_3 := blk_frozen BK207.out 3; have hfz30_4 := blk_frozen BK207.out 4; have hfz30_5 := blk_frozen BK207.out 5; have hfz30_6 := blk_frozen BK207.out 6; have hfz30_7 := blk_frozen BK207.out 7) | (go_at_call 21; (with_reducible refine (crosstreeref08_writes.calls ((rd_T39 l1_4 a2).f0) t211 _ A24.out).mono ?_); rintro e w' ⟨rfl, ⟨nd, rfl⟩⟩; (try first | exact ⟨rfl, _, World.drewN_drewN _ _ _⟩ | exact ⟨rfl, _, Eq.trans (World.drewN_drewN _ _ _) (congrArg (World.drewN _) (Nat.add_assoc _ _ _))⟩))))
      (try simp only [Act.put, List.setIfInBounds_toArray, List.set_cons_zero, List.set_cons_succ])
      go_cut [8] (fun v8 wc => ∃ (kq : Nat) (x8_24 : List Int), Aside0 (crosstreeref08_Insn.j1 kq a2 x8_24 l0_0 l0_1 a0_2 a1_0 a1_1 a1_2 l1_3 l1_4 ((rd_T39 l1_4 a2).f0) ((rd_T39 l1_4 a2).f1) ((rd_T39 l1_4 a2).f2) ((rd_T39 l1_4 a2).f3) ((rd_T39 l1_4 a2).f4) ((rd_T39 l1_4 a2).f5) ((rd_T39 l1_4 a2).f6) ((rd_T39 l1_4 a2).f7) = some r) ∧ Aside0 (kq ≤ kj5) ∧ Aside0 (Kd.R (Kd.int .i64) 3 wc w.heap.size (fun _ => True) v8 x8_24) ∧ Aside0 (wc.heap[gb204]? = some (.cells #[(.slice A0_0 l0_0.length c0_0), (.slice A0_1 l0_1.length c0_1), .int .i64 a0_2] 25 (0, 0))) ∧ Aside0 (wc.heap[gb205]? = some (.cells #[.string a1_0, .int .i64 a1_1, .int .i64 a1_2, (.slice A1_3 l1_3.length c1_3), (.slice (some ad206) l1_4.length c1_4)] 36 (0, 0))) ∧ Aside0 (wc.heap[gb207]? = some (.cells #[.int .i64 ((rd_T39 l1_4 a2).f0), .int .i64 ((rd_T39 l1_4 a2).f1), .int .i64 ((rd_T39 l1_4 a2).f2), .int .i64 ((rd_T39 l1_4 a2).f3), .int .i64 ((rd_T39 l1_4 a2).f4), .int .i64 ((rd_T39 l1_4 a2).f5), .string ((rd_T39 l1_4 a2).f6), (.slice A206_7 ((rd_T39 l1_4 a2).f7).length c206_7)] 39 (0, 0))) ∧ Aside0 (Below w.heap.size w wc))
      case first =>
       have H := HC25.out
       clear HC25
       by_cases c31 : t211 = true
       ·subst c31
        have H1 : (if t208.length < 17592186044416 then (crosstreeref08_Insn.j1 kj5 a2 (t208 ++ [((rd_T39 l1_4 a2).f1)]) l0_0 l0_1 a0_2 a1_0 a1_1 a1_2 l1_3 l1_4 ((rd_T39 l1_4 a2).f0) ((rd_T39 l1_4 a2).f1) ((rd_T39 l1_4 a2).f2) ((rd_T39 l1_4 a2).f3) ((rd_T39 l1_4 a2).f4) ((rd_T39 l1_4 a2).f5) ((rd_T39 l1_4 a2).f6) ((rd_T39 l1_4 a2).f7)) else (none)) = some r := by rw [if_pos rfl] at H; exact H
        clear H
        have H := H1
        clear H1
        by_cases c32 : t208.length < 17592186044416
        ·rw [if_pos c32] at H
         have LMc32 := Aside0.mk c32
         clear c32
         obtain ⟨y212, hy212⟩ : ∃ y_ : List Int, y_ = (t208 ++ [((rd_T39 l1_4 a2).f1)]) := ⟨_, rfl⟩
         replace H : (crosstreeref08_Insn.j1 kj5 a2 y212 l0_0 l0_1 a0_2 a1_0 a1_1 a1_2 l1_3 l1_4 ((rd_T39 l1_4 a2).f0) ((rd_T39 l1_4 a2).f1) ((rd_T39 l1_4 a2).f2) ((rd_T39 l1_4 a2).f3) ((rd_T39 l1_4 a2).f4) ((rd_T39 l1_4 a2).f5) ((rd_T39 l1_4 a2).f6) ((rd_T39 l1_4 a2).f7)) = some r := by first | (rw [hy212]; with_reducible exact H) | (have H2_ := (Option.bind_some _ _).symm.trans H; rw [hy212]; with_reducible exact H2_) | (have H2_ := (Option.bind_some _ _).symm.trans H; with_reducible exact H2_) | with_reducible exact H | (rw [hy212]; exact H) | exact H
         have Ny212 := Aside0.mk hy212
         clear hy212
         have H' := Aside0.mk H
         clear H
         have hnb33 := NB207_204.out
         have hnc33 := NB204_207.out
         have hnb34 := NB207_205.out
         have hnc34 := NB205_207.out
         have hcz35_0 : w29.cell? ⟨gb207, 0, none⟩ = some (.int .i64 ((rd_T39 l1_4 a2).f0)) := (blk_cell BK207.out 0).trans rfl
         have hcz35_1 : w29.cell? ⟨gb207, 1, none⟩ = some (.int .i64 ((rd_T39 l1_4 a2).f1)) := (blk_cell BK207.out 1).trans rfl
         have hcz35_2 : w29.cell? ⟨gb207, 2, none⟩ = some (.int .i64 ((rd_T39 l1_4 a2).f2)) := (blk_cell BK207.out 2).trans rfl
         have hcz35_3 : w29.cell? ⟨gb207, 3, none⟩ = some (.int .i64 ((rd_T39 l1_4 a2).f3)) := (blk_cell BK207.out 3).trans rfl
         have hcz35_4 : w29.cell? ⟨gb207, 4, none⟩ = some (.int .i64 ((rd_T39 l1_4 a2).f4)) := (blk_cell BK207.out 4).trans rfl
         have hcz35_5 : w29.cell? ⟨gb207, 5, none⟩ = some (.int .i64 ((rd_T39 l1_4 a2).f5)) := (blk_cell BK207.out 5).trans rfl
         have hcz35_6 : w29.cell? ⟨gb207, 6, none⟩ = some (.string ((rd_T39 l1_4 a2).f6)) := (blk_cell BK207.out 6).trans rfl
         have hcz35_7 : w29.cell? ⟨gb207, 7, none⟩ = some (.slice A206_7 ((rd_T39 l1_4 a2).f7).length c206_7) := (blk_cell BK207.out 7).trans rfl
         have hfz35_0 := blk_frozen BK207.out 0
         have hfz35_1 := blk_frozen BK207.out 1
         have hfz35_2 := blk_frozen BK207.out 2
         have hfz35_3 := blk_frozen BK207.out 3
         have hfz35_4 := blk_frozen BK207.out 4
         have hfz35_5 := blk_frozen BK207.out 5
         have hfz35_6 := blk_frozen BK207.out 6
         have hfz35_7 := blk_frozen BK207.out 7
         go_wp2_with (first | ((with_reducible refine gate_builtin (b := .append) (xs := #[.tmp 29, .tmp 32]) rfl ?_); (try (refine gate_guard (by rfl) ?_; dsimp only)); at_builtin; refine Kd.R_append (Kd.int .i64) (w0 := w) w.heap.size rfl (.tmp 29) (.tmp 32) 33 3 (.int .i64 0) 8 rfl Tryd.underlying33 info3 rfl (by decide) (by omega) v209 t208 ((rd_T39 l1_4 a2).f1) [.int .i64 ((rd_T39 l1_4 a2).f1)] (fun _ => True) (fun _ => False) rfl rfl ?aP (fun _ hk => hk.elim) ?aF ?aO ?aB ?aS ?aL ?_; (case aP => exact rfl); (case aB => exact (by repeat (first | (with_reducible first | exact HB.out | apply below_alloc | apply pw_below_drewN | apply below_drew1 | refine below_set ?_ GE204.out | refine below_set ?_ GE205.out | refine below_set ?_ GE207.out) | exact HB.out))); (case aF => exact (fun _ _ => trivial)); (case aO => exact (by (with_reducible repeat (first | apply Kd.R_alloc | apply Kd.R_drewN | apply Kd.R_drew)); exact HO210.out)); (case aS => exact (below_size (by repeat (first | (with_reducible first | exact HB.out | apply below_alloc | apply pw_below_drewN | apply below_drew1 | refine below_set ?_ GE204.out | refine below_set ?_ GE205.out | refine below_set ?_ GE207.out) | exact HB.out)))); (case aL => have := LMc32.out; omega); intro v213 w36 ho hb hg hat; rw [← Ny212.out] at ho; have n0_ := Aside0.mk (blk_grown (g := gb204) (o := .cells #[.slice A0_0 l0_0.length c0_0, .slice A0_1 l0_1.length c0_1, .int .i64 a0_2] 25 (0, 0)) (by (with_reducible repeat (first | refine blk_drewN ?_ _ | refine blk_drew ?_ | refine blk_alloc ?_ _)); exact BK204.out) hg (Kd.R_ne HO210.out BK204.out (by decide))); have n1_ := Aside0.mk (blk_grown (g := gb205) (o := .cells #[.string a1_0, .int .i64 a1_1, .int .i64 a1_2, .slice A1_3 l1_3.length c1_3, .slice (some ad206) l1_4.length c1_4] 36 (0, 0)) (by (with_reducible repeat (first | refine blk_drewN ?_ _ | refine blk_drew ?_ | refine blk_alloc ?_ _)); exact BK205.out) hg (Kd.R_ne HO210.out BK205.out (by decide))); have n2_ := Aside0.mk (blk_grown (g := gb207) (o := .cells #[.int .i64 ((rd_T39 l1_4 a2).f0), .int .i64 ((rd_T39 l1_4 a2).f1), .int .i64 ((rd_T39 l1_4 a2).f2), .int .i64 ((rd_T39 l1_4 a2).f3), .int .i64 ((rd_T39 l1_4 a2).f4), .int .i64 ((rd_T39 l1_4 a2).f5), .string ((rd_T39 l1_4 a2).f6), .slice A206_7 ((rd_T39 l1_4 a2).f7).length c206_7] 39 (0, 0)) (by (with_reducible repeat (first | refine blk_drewN ?_ _ | refine blk_drew ?_ | refine blk_alloc ?_ _)); exact BK207.out) hg (Kd.R_ne HO210.out BK207.out (by decide))); have n3_ := Aside0.mk (hb); have n4_ := Aside0.mk (ho); clear BK204; clear BK205; clear BK207; clear HB; clear HO210; have BK204 := n0_; have BK205 := n1_; have BK207 := n2_; have HB := n3_; have HO214 := n4_; clear n0_ n1_ n2_ n3_ n4_; clear ho hb hg hat))
         repeat (go_quiet (first | ((with_reducible refine gate_builtin (b := .append) (xs := #[.tmp 29, .tmp 32]) rfl ?_); (try (refine gate_guard (by rfl) ?_; dsimp only)); at_builtin; refine Kd.R_append (Kd.int .i64) (w0 := w) w.heap.size rfl (.tmp 29) (.tmp 32) 33 3 (.int .i64 0) 8 rfl Tryd.underlying33 info3 rfl (by decide) (by omega) v209 t208 ((rd_T39 l1_4 a2).f1) [.int .i64 ((rd_T39 l1_4 a2).f1)] (fun _ => True) (fun _ => False) rfl rfl ?aP (fun _ hk => hk.elim) ?aF ?aO ?aB ?aS ?aL ?_; (case aP => exact rfl); (case aB => exact (by repeat (first | (with_reducible first | exact HB.out | apply below_alloc | apply pw_below_drewN | apply below_drew1 | refine below_set ?_ GE204.out | refine below_set ?_ GE205.out | refine below_set ?_ GE207.out) | exact HB.out))); (case aF => exact (fun _ _ => trivial)); (case aO => exact (by (with_reducible repeat (first | apply Kd.R_alloc | apply Kd.R_drewN | apply Kd.R_drew)); exact HO210.out)); (case aS => exact (below_size (by repeat (first | (with_reducible first | exact HB.out | apply below_alloc | apply pw_below_drewN | apply below_drew1 | refine below_set ?_ GE204.out | refine below_set ?_ GE205.out | refine below_set ?_ GE207.out) | exact HB.out)))); (case aL => have := LMc32.out; omega); intro v213 w36 ho hb hg hat; rw [← Ny212.out] at ho; have n0_ := Aside0.mk (blk_grown (g := gb204) (o := .cells #[.slice A0_0 l0_0.length c0_0, .slice A0_1 l0_1.length c0_1, .int .i64 a0_2] 25 (0, 0)) (by (with_reducible repeat (first | refine blk_drewN ?_ _ | refine blk_drew ?_ | refine blk_alloc ?_ _)); exact BK204.out) hg (Kd.R_ne HO210.out BK204.out (by decide))); have n1_ := Aside0.mk (blk_grown (g := gb205) (o := .cells #[.string a1_0, .int .i64 a1_1, .int .i64 a1_2, .slice A1_3 l1_3.length c1_3, .slice (some ad206) l1_4.length c1_4] 36 (0, 0)) (by (with_reducible repeat (first | refine blk_drewN ?_ _ | refine blk_drew ?_ | refine blk_alloc ?_ _)); exact BK205.out) hg (Kd.R_ne HO210.out BK205.out (by decide))); have n2_ := Aside0.mk (blk_grown (g := gb207) (o := .cells #[.int .i64 ((rd_T39 l1_4 a2).f0), .int .i64 ((rd_T39 l1_4 a2).f1), .int .i64 ((rd_T39 l1_4 a2).f2), .int .i64 ((rd_T39 l1_4 a2).f3), .int .i64 ((rd_T39 l1_4 a2).f4), .int .i64 ((rd_T39 l1_4 a2).f5), .string ((rd_T39 l1_4 a2).f6), .slice A206_7 ((rd_T39 l1_4 a2).f7).length c206_7] 39 (0, 0)) (by (with_reducible repeat (first | refine blk_drewN ?_ _ | refine blk_drew ?_ | refine blk_alloc ?_ _)); exact BK207.out) hg (Kd.R_ne HO210.out BK207.out (by decide))); have n3_ := Aside0.mk (hb); have n4_ := Aside0.mk (ho); clear BK204; clear BK205; clear BK207; clear HB; clear HO210; have BK204 := n0_; have BK205 := n1_; have BK207 := n2_; have HB := n3_; have HO214 := n4_; clear n0_ n1_ n2_ n3_ n4_; clear ho hb hg hat)); try go_wp2_with (first | ((with_reducible refine gate_builtin (b := .append) (xs := #[.tmp 29, .tmp 32]) rfl ?_); (try (refine gate_guard (by rfl) ?_; dsimp only)); at_builtin; refine Kd.R_append (Kd.int .i64) (w0 := w) w.heap.size rfl (.tmp 29) (.tmp 32) 33 3 (.int .i64 0) 8 rfl Tryd.underlying33 info3 rfl (by decide) (by omega) v209 t208 ((rd_T39 l1_4 a2).f1) [.int .i64 ((rd_T39 l1_4 a2).f1)] (fun _ => True) (fun _ => False) rfl rfl ?aP (fun _ hk => hk.elim) ?aF ?aO ?aB ?aS ?aL ?_; (case aP => exact rfl); (case aB => exact (by repeat (first | (with_reducible first | exact HB.out | apply below_alloc | apply pw_below_drewN | apply below_drew1 | refine below_set ?_ GE204.out | refine below_set ?_ GE205.out | refine below_set ?_ GE207.out) | exact HB.out))); (case aF => exact (fun _ _ => trivial)); (case aO => exact (by (with_reducible repeat (first | apply Kd.R_alloc | apply Kd.R_drewN | apply Kd.R_drew)); exact HO210.out)); (case aS => exact (below_size (by repeat (first | (with_reducible first | exact HB.out | apply below_alloc | apply pw_below_drewN | apply below_drew1 | refine below_set ?_ GE204.out | refine below_set ?_ GE205.out | refine below_set ?_ GE207.out) | exact HB.out)))); (case aL => have := LMc32.out; omega); intro v213 w36 ho hb hg hat; rw [← Ny212.out] at ho; have n0_ := Aside0.mk (blk_grown (g := gb204) (o := .cells #[.slice A0_0 l0_0.length c0_0, .slice A0_1 l0_1.length c0_1, .int .i64 a0_2] 25 (0, 0)) (by (with_reducible repeat (first | refine blk_drewN ?_ _ | refine blk_drew ?_ | refine blk_alloc ?_ _)); exact BK204.out) hg (Kd.R_ne HO210.out BK204.out (by decide))); have n1_ := Aside0.mk (blk_grown (g := gb205) (o := .cells #[.string a1_0, .int .i64 a1_1, .int .i64 a1_2, .slice A1_3 l1_3.length c1_3, .slice (some ad206) l1_4.length c1_4] 36 (0, 0)) (by (with_reducible repeat (first | refine blk_drewN ?_ _ | refine blk_drew ?_ | refine blk_alloc ?_ _)); exact BK205.out) hg (Kd.R_ne HO210.out BK205.out (by decide))); have n2_ := Aside0.mk (blk_grown (g := gb207) (o := .cells #[.int .i64 ((rd_T39 l1_4 a2).f0), .int .i64 ((rd_T39 l1_4 a2).f1), .int .i64 ((rd_T39 l1_4 a2).f2), .int .i64 ((rd_T39 l1_4 a2).f3), .int .i64 ((rd_T39 l1_4 a2).f4), .int .i64 ((rd_T39 l1_4 a2).f5), .string ((rd_T39 l1_4 a2).f6), .slice A206_7 ((rd_T39 l1_4 a2).f7).length c206_7] 39 (0, 0)) (by (with_reducible repeat (first | refine blk_drewN ?_ _ | refine blk_drew ?_ | refine blk_alloc ?_ _)); exact BK207.out) hg (Kd.R_ne HO210.out BK207.out (by decide))); have n3_ := Aside0.mk (hb); have n4_ := Aside0.mk (ho); clear BK204; clear BK205; clear BK207; clear HB; clear HO210; have BK204 := n0_; have BK205 := n1_; have BK207 := n2_; have HB := n3_; have HO214 := n4_; clear n0_ n1_ n2_ n3_ n4_; clear ho hb hg hat)))
         go_meet
         case rel => exact ⟨_, (y212), H', ⟨by have := HJ5.out; first | omega | exact Nat.le_refl _⟩, ⟨by (with_reducible repeat (first | apply Kd.R_alloc | apply Kd.R_drewN | apply Kd.R_drew)); exact HO214.out⟩, ⟨by (with_reducible repeat (first | refine blk_drewN ?_ _ | refine blk_drew ?_ | refine blk_alloc ?_ _)); exact BK204.out⟩, ⟨by (with_reducible repeat (first | refine blk_drewN ?_ _ | refine blk_drew ?_ | refine blk_alloc ?_ _)); exact BK205.out⟩, ⟨by (with_reducible repeat (first | refine blk_drewN ?_ _ | refine blk_drew ?_ | refine blk_alloc ?_ _)); exact BK207.out⟩, ⟨by repeat (first | (with_reducible first | exact HB.out | apply below_alloc | apply pw_below_drewN | apply below_drew1 | refine below_set ?_ GE204.out | refine below_set ?_ GE205.out | refine below_set ?_ GE207.out) | exact HB.out)⟩⟩
        ·rw [if_neg c32] at H
         exact absurd H (by simp)
       ·replace c31 := Bool.eq_false_iff.mpr c31
        subst c31
        have H1 : (crosstreeref08_Insn.j1 kj5 a2 t208 l0_0 l0_1 a0_2 a1_0 a1_1 a1_2 l1_3 l1_4 ((rd_T39 l1_4 a2).f0) ((rd_T39 l1_4 a2).f1) ((rd_T39 l1_4 a2).f2) ((rd_T39 l1_4 a2).f3) ((rd_T39 l1_4 a2).f4) ((rd_T39 l1_4 a2).f5) ((rd_T39 l1_4 a2).f6) ((rd_T39 l1_4 a2).f7)) = some r := by rw [if_neg (show ¬ (false = true) by decide)] at H; exact H
        clear H
        have H := H1
        clear H1
        have H' := Aside0.mk H
        clear H
        go_wp2
        repeat (go_quiet (fail); try go_wp2)
        go_meet
        case rel => exact ⟨_, (t208), H', ⟨by have := HJ5.out; first | omega | exact Nat.le_refl _⟩, ⟨by (with_reducible repeat (first | apply Kd.R_alloc | apply Kd.R_drewN | apply Kd.R_drew)); exact HO210.out⟩, ⟨by (with_reducible repeat (first | refine blk_drewN ?_ _ | refine blk_drew ?_ | refine blk_alloc ?_ _)); exact BK204.out⟩, ⟨by (with_reducible repeat (first | refine blk_drewN ?_ _ | refine blk_drew ?_ | refine blk_alloc ?_ _)); exact BK205.out⟩, ⟨by (with_reducible repeat (first | refine blk_drewN ?_ _ | refine blk_drew ?_ | refine blk_alloc ?_ _)); exact BK207.out⟩, ⟨by repeat (first | (with_reducible first | exact HB.out | apply below_alloc | apply pw_below_drewN | apply below_drew1 | refine below_set ?_ GE204.out | refine below_set ?_ GE205.out | refine below_set ?_ GE207.out) | exact HB.out)⟩⟩
      case rest =>
       clear HC25
       try clear c1
       try clear c2
       try clear p2
       try clear q2
       try clear hx2
       try clear c3
       try clear c4
       try clear c4b0
       try clear c5
       try clear c5b0
       try clear c9
       try clear c12
       try clear c13
       try clear c15
       try clear c15b0
       try clear c16
       try clear c17
       try clear c19
       try clear c20
       try clear p20
       try clear q20
       try clear hx20
       try clear c22
       try clear c26
       try clear c27
       try clear c31
       try clear c32
       try clear c33
       try clear c34
       try clear hcz10_0
       try clear hcz10_1
       try clear hcz10_2
       try clear hcz10_3
       try clear hcz10_4
       try clear hcz14_0
       try clear hcz14_1
       try clear hcz14_2
       try clear hcz14_3
       try clear hcz14_4
       try clear hcz14_5
       try clear hcz14_6
       try clear hcz14_7
       try clear hcz18_0
       try clear hcz18_1
       try clear hcz18_2
       try clear hcz18_3
       try clear hcz18_4
       try clear hcz18_5
       try clear hcz18_6
       try clear hcz18_7
       try clear hcz21_0
       try clear hcz21_1
       try clear hcz21_2
       try clear hcz21_3
       try clear hcz21_4
       try clear hcz21_5
       try clear hcz21_6
       try clear hcz21_7
       try clear hcz28_0
       try clear hcz28_1
       try clear hcz28_2
       try clear hcz28_3
       try clear hcz28_4
       try clear hcz28_5
       try clear hcz28_6
       try clear hcz28_7
       try clear hcz30_0
       try clear hcz30_1
       try clear hcz30_2
       try clear hcz30_3
       try clear hcz30_4
       try clear hcz30_5
       try clear hcz30_6
       try clear hcz30_7
       try clear hcz35_0
       try clear hcz35_1
       try clear hcz35_2
       try clear hcz35_3
       try clear hcz35_4
       try clear hcz35_5
       try clear hcz35_6
       try clear hcz35_7
       try clear hfz10_0
       try clear hfz10_1
       try clear hfz10_2
       try clear hfz10_3
       try clear hfz10_4
       try clear hfz14_0
       try clear hfz14_1
       try clear hfz14_2
       try clear hfz14_3
       try clear hfz14_4
       try clear hfz14_5
       try clear hfz14_6
       try clear hfz14_7
       try clear hfz18_0
       try clear hfz18_1
       try clear hfz18_2
       try clear hfz18_3
       try clear hfz18_4
       try clear hfz18_5
       try clear hfz18_6
       try clear hfz18_7
       try clear hfz21_0
       try clear hfz21_1
       try clear hfz21_2
       try clear hfz21_3
       try clear hfz21_4
       try clear hfz21_5
       try clear hfz21_6
       try clear hfz21_7
       try clear hfz28_0
       try clear hfz28_1
       try clear hfz28_2
       try clear hfz28_3
       try clear hfz28_4
       try clear hfz28_5
       try clear hfz28_6
       try clear hfz28_7
       try clear hfz30_0
       try clear hfz30_1
       try clear hfz30_2
       try clear hfz30_3
       try clear hfz30_4
       try clear hfz30_5
       try clear hfz30_6
       try clear hfz30_7
       try clear hfz35_0
       try clear hfz35_1
       try clear hfz35_2
       try clear hfz35_3
       try clear hfz35_4
       try clear hfz35_5
       try clear hfz35_6
       try clear hfz35_7
       try clear hx206_0
       try clear hx206_1
       try clear hx206_2
       try clear hx206_3
       try clear hx206_4
       try clear hx206_5
       try clear hx206_6
       try clear hx206_7
       try clear p2
       try clear p20
       try clear p206
       try clear q2
       try clear q20
       try clear q206
       obtain ⟨kq, x8_24, HA, HJ24, HO_8, BK204, BK205, BK207, HB⟩ := hcut
       cases kq with
       | zero => exact absurd HA.out (by simp [crosstreeref08_Insn.j1])
       | succ kj24 =>
        have H := HA.out
        clear HA
        simp only [crosstreeref08_Insn.j1] at H
        have H' := Aside0.mk H
        clear H
        go_wp2
        repeat (go_quiet (fail); try go_wp2)
        go_loopg [9] kj24 (fun kq v9 w' => ∃ (x9_3 : Int), v9 = .int .i64 x9_3 ∧ Aside0 (crosstreeref08_Insn.l0 kq a2 x8_24 x9_3 l0_0 l0_1 a0_2 a1_0 a1_1 a1_2 l1_3 l1_4 ((rd_T39 l1_4 a2).f0) ((rd_T39 l1_4 a2).f1) ((rd_T39 l1_4 a2).f2) ((rd_T39 l1_4 a2).f3) ((rd_T39 l1_4 a2).f4) ((rd_T39 l1_4 a2).f5) ((rd_T39 l1_4 a2).f6) ((rd_T39 l1_4 a2).f7) = some r) ∧ Aside0 (kq ≤ kj24) ∧ Aside0 (Kd.R (Kd.int .i64) 3 w' w.heap.size (fun _ => True) u8 x8_24) ∧ Aside0 (w'.heap[gb204]? = some (.cells #[(.slice A0_0 l0_0.length c0_0), (.slice A0_1 l0_1.length c0_1), .int .i64 a0_2] 25 (0, 0))) ∧ Aside0 (w'.heap[gb205]? = some (.cells #[.string a1_0, .int .i64 a1_1, .int .i64 a1_2, (.slice A1_3 l1_3.length c1_3), (.slice (some ad206) l1_4.length c1_4)] 36 (0, 0))) ∧ Aside0 (w'.heap[gb207]? = some (.cells #[.int .i64 ((rd_T39 l1_4 a2).f0), .int .i64 ((rd_T39 l1_4 a2).f1), .int .i64 ((rd_T39 l1_4 a2).f2), .int .i64 ((rd_T39 l1_4 a2).f3), .int .i64 ((rd_T39 l1_4 a2).f4), .int .i64 ((rd_T39 l1_4 a2).f5), .string ((rd_T39 l1_4 a2).f6), (.slice A206_7 ((rd_T39 l1_4 a2).f7).length c206_7)] 39 (0, 0))) ∧ Aside0 (Below w.heap.size w w'))
        case atStart => exact ⟨(0), (by first | rfl | (simp; done) | (simp [*]; done)), H', ⟨Nat.le_refl _⟩, ⟨by (with_reducible repeat (first | apply Kd.R_alloc | apply Kd.R_drewN | apply Kd.R_drew)); exact HO_8.out⟩, ⟨by (with_reducible repeat (first | refine blk_drewN ?_ _ | refine blk_drew ?_ | refine blk_alloc ?_ _)); exact BK204.out⟩, ⟨by (with_reducible repeat (first | refine blk_drewN ?_ _ | refine blk_drew ?_ | refine blk_alloc ?_ _)); exact BK205.out⟩, ⟨by (with_reducible repeat (first | refine blk_drewN ?_ _ | refine blk_drew ?_ | refine blk_alloc ?_ _)); exact BK207.out⟩, ⟨by repeat (first | (with_reducible first | exact HB.out | apply below_alloc | apply pw_below_drewN | apply below_drew1 | refine below_set ?_ GE204.out | refine below_set ?_ GE205.out | refine below_set ?_ GE207.out) | exact HB.out)⟩⟩
        case round =>
         clear H'
         try clear c1
         try clear c2
         try clear p2
         try clear q2
         try clear hx2
         try clear c3
         try clear c4
         try clear c4b0
         try clear c5
         try clear c5b0
         try clear c9
         try clear c12
         try clear c13
         try clear c15
         try clear c15b0
         try clear c16
         try clear c17
         try clear c19
         try clear c20
         try clear p20
         try clear q20
         try clear hx20
         try clear c22
         try clear c26
         try clear c27
         try clear c31
         try clear c32
         try clear c33
         try clear c34
         try clear hcz10_0
         try clear hcz10_1
         try clear hcz10_2
         try clear hcz10_3
         try clear hcz10_4
         try clear hcz14_0
         try clear hcz14_1
         try clear hcz14_2
         try clear hcz14_3
         try clear hcz14_4
         try clear hcz14_5
         try clear hcz14_6
         try clear hcz14_7
         try clear hcz18_0
         try clear hcz18_1
         try clear hcz18_2
         try clear hcz18_3
         try clear hcz18_4
         try clear hcz18_5
         try clear hcz18_6
         try clear hcz18_7
         try clear hcz21_0
         try clear hcz21_1
         try clear hcz21_2
         try clear hcz21_3
         try clear hcz21_4
         try clear hcz21_5
         try clear hcz21_6
         try clear hcz21_7
         try clear hcz28_0
         try clear hcz28_1
         try clear hcz28_2
         try clear hcz28_3
         try clear hcz28_4
         try clear hcz28_5
         try clear hcz28_6
         try clear hcz28_7
         try clear hcz30_0
         try clear hcz30_1
         try clear hcz30_2
         try clear hcz30_3
         try clear hcz30_4
         try clear hcz30_5
         try clear hcz30_6
         try clear hcz30_7
         try clear hcz35_0
         try clear hcz35_1
         try clear hcz35_2
         try clear hcz35_3
         try clear hcz35_4
         try clear hcz35_5
         try clear hcz35_6
         try clear hcz35_7
         try clear hfz10_0
         try clear hfz10_1
         try clear hfz10_2
         try clear hfz10_3
         try clear hfz10_4
         try clear hfz14_0
         try clear hfz14_1
         try clear hfz14_2
         try clear hfz14_3
         try clear hfz14_4
         try clear hfz14_5
         try clear hfz14_6
         try clear hfz14_7
         try clear hfz18_0
         try clear hfz18_1
         try clear hfz18_2
         try clear hfz18_3
         try clear hfz18_4
         try clear hfz18_5
         try clear hfz18_6
         try clear hfz18_7
         try clear hfz21_0
         try clear hfz21_1
         try clear hfz21_2
         try clear hfz21_3
         try clear hfz21_4
         try clear hfz21_5
         try clear hfz21_6
         try clear hfz21_7
         try clear hfz28_0
         try clear hfz28_1
         try clear hfz28_2
         try clear hfz28_3
         try clear hfz28_4
         try clear hfz28_5
         try clear hfz28_6
         try clear hfz28_7
         try clear hfz30_0
         try clear hfz30_1
         try clear hfz30_2
         try clear hfz30_3
         try clear hfz30_4
         try clear hfz30_5
         try clear hfz30_6
         try clear hfz30_7
         try clear hfz35_0
         try clear hfz35_1
         try clear hfz35_2
         try clear hfz35_3
         try clear hfz35_4
         try clear hfz35_5
         try clear hfz35_6
         try clear hfz35_7
         try clear hx206_0
         try clear hx206_1
         try clear hx206_2
         try clear hx206_3
         try clear hx206_4
         try clear hx206_5
         try clear hx206_6
         try clear hx206_7
         try clear p2
         try clear p20
         try clear p206
         try clear q2
         try clear q20
         try clear q206
         obtain ⟨x9_3, rfl, HA, HK3, HO_8, BK204, BK205, BK207, HB⟩ := hrel
         cases gk with
         | zero => exact absurd HA.out (by simp [crosstreeref08_Insn.l0])
         | succ k3 =>
          have H := HA.out
          clear HA
          simp only [crosstreeref08_Insn.l0] at H
          by_cases c37 : x9_3 < (x8_24.length : Int)
          ·rw [if_pos c37] at H
           have c37b0 : decide (x9_3 < (x8_24.length : Int)) = true := decide_eq_true c37
           clear c37
           by_cases c38 : 0 ≤ x9_3
           ·rw [if_pos c38] at H
            have c38b0 : decide (0 ≤ x9_3) = true := decide_eq_true c38
            clear c38
            by_cases c39 : (rd x8_24 x9_3) < 0
            ·rw [if_pos c39] at H
             have c39b0 : decide ((rd x8_24 x9_3) < 0) = true := decide_eq_true c39
             clear c39
             obtain rfl := Option.some.inj H
             obtain ⟨Ao40, co40, eo40⟩ := Kd.R_slice HO_8.out
             subst eo40
             have p215 : 0 ≤ (x9_3 : Int) := of_decide_eq_true (by first | (with_reducible assumption) | assumption)
             have q215 : x9_3 < (x8_24.length : Int) := of_decide_eq_true (by first | (with_reducible assumption) | assumption)
             obtain ⟨ad215, e215, hx215_0⟩ := Kd.at_int (Kd.R_reads' HO_8.out).2.2 x9_3 p215 q215
             cases e215
             replace p215 := eq_true p215
             replace q215 := eq_true q215
             go_wp2
             repeat (go_quiet (fail); try go_wp2)
             go_ret
             exact ⟨by first | rfl | (simp [errW_none, errW_some] <;> rfl) | (simp [*, errW_none, errW_some] <;> rfl), by repeat (first | (with_reducible first | exact HB.out | apply below_alloc | apply pw_below_drewN | apply below_drew1 | refine below_set ?_ GE204.out | refine below_set ?_ GE205.out | refine below_set ?_ GE207.out) | exact HB.out)⟩
            ·rw [if_neg c39] at H
             have c39b0 : decide ((rd x8_24 x9_3) < 0) = false := decide_eq_false c39
             clear c39
             by_cases c41 : (rd x8_24 x9_3) ≥ a1_1
             ·rw [if_pos c41] at H
              have c41b0 : decide (a1_1 ≤ (rd x8_24 x9_3)) = true := decide_eq_true c41
              clear c41
              obtain rfl := Option.some.inj H
              obtain ⟨Ao42, co42, eo42⟩ := Kd.R_slice HO_8.out
              subst eo42
              have p215 : 0 ≤ (x9_3 : Int) := of_decide_eq_true (by first | (with_reducible assumption) | assumption)
              have q215 : x9_3 < (x8_24.length : Int) := of_decide_eq_true (by first | (with_reducible assumption) | assumption)
              obtain ⟨ad215, e215, hx215_0⟩ := Kd.at_int (Kd.R_reads' HO_8.out).2.2 x9_3 p215 q215
              cases e215
              replace p215 := eq_true p215
              replace q215 := eq_true q215
              have p216 : 0 ≤ (x9_3 : Int) := of_decide_eq_true (by first | (with_reducible assumption) | assumption)
              have q216 : x9_3 < (x8_24.length : Int) := of_decide_eq_true (by first | (with_reducible assumption) | assumption)
              obtain ⟨ad216, e216, hx216_0⟩ := Kd.at_int (Kd.R_reads' HO_8.out).2.2 x9_3 p216 q216
              obtain rfl : ad215 = ad216 := (by injection e216)
              replace p216 := eq_true p216
              replace q216 := eq_true q216
              have hnb43 := NB205_204.out
              have hnc43 := NB204_205.out
              have hnb44 := NB205_207.out
              have hnc44 := NB207_205.out
              have hcz45_0 : wr.cell? ⟨gb205, 0, none⟩ = some (.string a1_0) := (blk_cell BK205.out 0).trans rfl
              have hcz45_1 : wr.cell? ⟨gb205, 1, none⟩ = some (.int .i64 a1_1) := (blk_cell BK205.out 1).trans rfl
              have hcz45_2 : wr.cell? ⟨gb205, 2, none⟩ = some (.int .i64 a1_2) := (blk_cell BK205.out 2).trans rfl
              have hcz45_3 : wr.cell? ⟨gb205, 3, none⟩ = some (.slice A1_3 l1_3.length c1_3) := (blk_cell BK205.out 3).trans rfl
              have hcz45_4 : wr.cell? ⟨gb205, 4, none⟩ = some (.slice (some ad206) l1_4.length c1_4) := (blk_cell BK205.out 4).trans rfl
              have hfz45_0 := blk_frozen BK205.out 0
              have hfz45_1 := blk_frozen BK205.out 1
              have hfz45_2 := blk_frozen BK205.out 2
              have hfz45_3 := blk_frozen BK205.out 3
              have hfz45_4 := blk_frozen BK205.out 4
              go_wp2
              repeat (go_quiet (fail); try go_wp2)
              go_ret
              exact ⟨by first | rfl | (simp [errW_none, errW_some] <;> rfl) | (simp [*, errW_none, errW_some] <;> rfl), by repeat (first | (with_reducible first | exact HB.out | apply below_alloc | apply pw_below_drewN | apply below_drew1 | refine below_set ?_ GE204.out | refine below_set ?_ GE205.out | refine below_set ?_ GE207.out) | exact HB.out)⟩
             ·rw [if_neg c41] at H
              have c41b0 : decide (a1_1 ≤ (rd x8_24 x9_3)) = false := decide_eq_false c41
              clear c41
              have H' := Aside0.mk H
              clear H
              obtain ⟨Ao46, co46, eo46⟩ := Kd.R_slice HO_8.out
              subst eo46
              have p215 : 0 ≤ (x9_3 : Int) := of_decide_eq_true (by first | (with_reducible assumption) | assumption)
              have q215 : x9_3 < (x8_24.length : Int) := of_decide_eq_true (by first | (with_reducible assumption) | assumption)
              obtain ⟨ad215, e215, hx215_0⟩ := Kd.at_int (Kd.R_reads' HO_8.out).2.2 x9_3 p215 q215
              cases e215
              replace p215 := eq_true p215
              replace q215 := eq_true q215
              have p216 : 0 ≤ (x9_3 : Int) := of_decide_eq_true (by first | (with_reducible assumption) | assumption)
              have q216 : x9_3 < (x8_24.length : Int) := of_decide_eq_true (by first | (with_reducible assumption) | assumption)
              obtain ⟨ad216, e216, hx216_0⟩ := Kd.at_int (Kd.R_reads' HO_8.out).2.2 x9_3 p216 q216
              obtain rfl : ad215 = ad216 := (by injection e216)
              replace p216 := eq_true p216
              replace q216 := eq_true q216
              have hnb47 := NB205_204.out
              have hnc47 := NB204_205.out
              have hnb48 := NB205_207.out
              have hnc48 := NB207_205.out
              have hcz49_0 : wr.cell? ⟨gb205, 0, none⟩ = some (.string a1_0) := (blk_cell BK205.out 0).trans rfl
              have hcz49_1 : wr.cell? ⟨gb205, 1, none⟩ = some (.int .i64 a1_1) := (blk_cell BK205.out 1).trans rfl
              have hcz49_2 : wr.cell? ⟨gb205, 2, none⟩ = some (.int .i64 a1_2) := (blk_cell BK205.out 2).trans rfl
              have hcz49_3 : wr.cell? ⟨gb205, 3, none⟩ = some (.slice A1_3 l1_3.length c1_3) := (blk_cell BK205.out 3).trans rfl
              have hcz49_4 : wr.cell? ⟨gb205, 4, none⟩ = some (.slice (some ad206) l1_4.length c1_4) := (blk_cell BK205.out 4).trans rfl
              have hfz49_0 := blk_frozen BK205.out 0
              have hfz49_1 := blk_frozen BK205.out 1
              have hfz49_2 := blk_frozen BK205.out 2
              have hfz49_3 := blk_frozen BK205.out 3
              have hfz49_4 := blk_frozen BK205.out 4
              go_wp2
              repeat (go_quiet (fail); try go_wp2)
              go_roundg k3
              case measure => have := HJ5.out; have := HJ24.out; have := HK3.out; omega
              case rel => exact ⟨(wrap64 (x9_3 + 1)), (by first | rfl | (simp; done) | (simp [*]; done)), H', ⟨by have := HJ5.out; have := HJ24.out; have := HK3.out; omega⟩, ⟨by (with_reducible repeat (first | apply Kd.R_alloc | apply Kd.R_drewN | apply Kd.R_drew)); exact HO_8.out⟩, ⟨by (with_reducible repeat (first | refine blk_drewN ?_ _ | refine blk_drew ?_ | refine blk_alloc ?_ _)); exact BK204.out⟩, ⟨by (with_reducible repeat (first | refine blk_drewN ?_ _ | refine blk_drew ?_ | refine blk_alloc ?_ _)); exact BK205.out⟩, ⟨by (with_reducible repeat (first | refine blk_drewN ?_ _ | refine blk_drew ?_ | refine blk_alloc ?_ _)); exact BK207.out⟩, ⟨by repeat (first | (with_reducible first | exact HB.out | apply below_alloc | apply pw_below_drewN | apply below_drew1 | refine below_set ?_ GE204.out | refine below_set ?_ GE205.out | refine below_set ?_ GE207.out) | exact HB.out)⟩⟩
           ·rw [if_neg c38] at H
            exact absurd H (by simp)
          ·rw [if_neg c37] at H
           have c37b0 : decide (x9_3 < (x8_24.length : Int)) = false := decide_eq_false c37
           clear c37
           replace H := Option.bind_eq_some_iff.mp H
           obtain ⟨t217, A500, H⟩ := H
           replace H : (if t217 = true then ((crosstreeref08_Next.f ((rd_T39 l1_4 a2).f0) ((rd_T39 l1_4 a2).f1) ((rd_T39 l1_4 a2).f2) ((rd_T39 l1_4 a2).f3) ((rd_T39 l1_4 a2).f4) ((rd_T39 l1_4 a2).f5) ((rd_T39 l1_4 a2).f6) ((rd_T39 l1_4 a2).f7) a2).bind fun t218 => (crosstreeref08_Insn.l1 k3 t218 0 a1_0 a1_1 a1_2 l1_3 l1_4)) else (some 8)) = some r := H
           have A50 := Aside0.mk A500
           clear A500
           by_cases c51 : t217 = true
           ·subst c51
            have H1 : ((crosstreeref08_Next.f ((rd_T39 l1_4 a2).f0) ((rd_T39 l1_4 a2).f1) ((rd_T39 l1_4 a2).f2) ((rd_T39 l1_4 a2).f3) ((rd_T39 l1_4 a2).f4) ((rd_T39 l1_4 a2).f5) ((rd_T39 l1_4 a2).f6) ((rd_T39 l1_4 a2).f7) a2).bind fun t218 => (crosstreeref08_Insn.l1 k3 t218 0 a1_0 a1_1 a1_2 l1_3 l1_4)) = some r := by rw [if_pos rfl] at H; exact H
            clear H
            have H := H1
            clear H1
            replace H := Option.bind_eq_some_iff.mp H
            obtain ⟨t218, A520, H⟩ := H
            replace H : (crosstreeref08_Insn.l1 k3 t218 0 a1_0 a1_1 a1_2 l1_3 l1_4) = some r := H
            have A52 := Aside0.mk A520
            clear A520
            have H' := Aside0.mk H
            clear H
            obtain ⟨Ao53, co53, eo53⟩ := Kd.R_slice HO_8.out
            subst eo53
            have hnb54 := NB204_205.out
            have hnc54 := NB205_204.out
            have hnb55 := NB204_207.out
            have hnc55 := NB207_204.out
            have hcz56_0 : wr.cell? ⟨gb204, 0, none⟩ = some (.slice A0_0 l0_0.length c0_0) := (blk_cell BK204.out 0).trans rfl
            have hcz56_1 : wr.cell? ⟨gb204, 1, none⟩ = some (.slice A0_1 l0_1.length c0_1) := (blk_cell BK204.out 1).trans rfl
            have hcz56_2 : wr.cell? ⟨gb204, 2, none⟩ = some (.int .i64 a0_2) := (blk_cell BK204.out 2).trans rfl
            have hfz56_0 := blk_frozen BK204.out 0
            have hfz56_1 := blk_frozen BK204.out 1
            have hfz56_2 := blk_frozen BK204.out 2
            have hnb57 := NB205_207.out
            have hnc57 := NB207_205.out
            have hcz58_0 : wr.cell? ⟨gb205, 0, none⟩ = some (.string a1_0) := (blk_cell BK205.out 0).trans rfl
            have hcz58_1 : wr.cell? ⟨gb205, 1, none⟩ = some (.int .i64 a1_1) := (blk_cell BK205.out 1).trans rfl
            have hcz58_2 : wr.cell? ⟨gb205, 2, none⟩ = some (.int .i64 a1_2) := (blk_cell BK205.out 2).trans rfl
            have hcz58_3 : wr.cell? ⟨gb205, 3, none⟩ = some (.slice A1_3 l1_3.length c1_3) := (blk_cell BK205.out 3).trans rfl
            have hcz58_4 : wr.cell? ⟨gb205, 4, none⟩ = some (.slice (some ad206) l1_4.length c1_4) := (blk_cell BK205.out 4).trans rfl
            have hfz58_0 := blk_frozen BK205.out 0
            have hfz58_1 := blk_frozen BK205.out 1
            have hfz58_2 := blk_frozen BK205.out 2
            have hfz58_3 := blk_frozen BK205.out 3
            have hfz58_4 := blk_frozen BK205.out 4
            have hcz59_0 : wr.cell? ⟨gb207, 0, none⟩ = some (.int .i64 ((rd_T39 l1_4 a2).f0)) := (blk_cell BK207.out 0).trans rfl
            have hcz59_1 : wr.cell? ⟨gb207, 1, none⟩ = some (.int .i64 ((rd_T39 l1_4 a2).f1)) := (blk_cell BK207.out 1).trans rfl
            have hcz59_2 : wr.cell? ⟨gb207, 2, none⟩ = some (.int .i64 ((rd_T39 l1_4 a2).f2)) := (blk_cell BK207.out 2).trans rfl
            have hcz59_3 : wr.cell? ⟨gb207, 3, none⟩ = some (.int .i64 ((rd_T39 l1_4 a2).f3)) := (blk_cell BK207.out 3).trans rfl
            have hcz59_4 : wr.cell? ⟨gb207, 4, none⟩ = some (.int .i64 ((rd_T39 l1_4 a2).f4)) := (blk_cell BK207.out 4).trans rfl
            have hcz59_5 : wr.cell? ⟨gb207, 5, none⟩ = some (.int .i64 ((rd_T39 l1_4 a2).f5)) := (blk_cell BK207.out 5).trans rfl
            have hcz59_6 : wr.cell? ⟨gb207, 6, none⟩ = some (.string ((rd_T39 l1_4 a2).f6)) := (blk_cell BK207.out 6).trans rfl
            have hcz59_7 : wr.cell? ⟨gb207, 7, none⟩ = some (.slice A206_7 ((rd_T39 l1_4 a2).f7).length c206_7) := (blk_cell BK207.out 7).trans rfl
            have hfz59_0 := blk_frozen BK207.out 0
            have hfz59_1 := blk_frozen BK207.out 1
            have hfz59_2 := blk_frozen BK207.out 2
            have hfz59_3 := blk_frozen BK207.out 3
            have hfz59_4 := blk_frozen BK207.out 4
            have hfz59_5 := blk_frozen BK207.out 5
            have hfz59_6 := blk_frozen BK207.out 6
            have hfz59_7 := blk_frozen BK207.out 7
            go_wp2_with (first | (go_at_call 22; (with_reducible refine (crosstreeref08_Others.calls k3 _ _ l0_0 _ _ l0_1 a0_2 a1_0 a1_1 a1_2 _ _ l1_3 _ _ l1_4 ((rd_T39 l1_4 a2).f0) ((rd_T39 l1_4 a2).f1) ((rd_T39 l1_4 a2).f2) ((rd_T39 l1_4 a2).f3) ((rd_T39 l1_4 a2).f4) ((rd_T39 l1_4 a2).f5) ((rd_T39 l1_4 a2).f6) _ _ ((rd_T39 l1_4 a2).f7) true _ ?side1 ?side2 ?side3 ?side4 ?side5 ?side6 ?side7 ?side8 ?side9 ?side10 A50.out).mono ?_); (case side1 => repeat (first | exact (Kd.C_below HR0_0.out HB.out) | (with_reducible refine Kd.C_alloc ?_ _) | (with_reducible refine Kd.C_drewN ?_ _) | (with_reducible refine Kd.C_drew ?_))); (case side2 => exact HC0_0.out); (case side3 => repeat (first | exact (Kd.C_below HR0_1.out HB.out) | (with_reducible refine Kd.C_alloc ?_ _) | (with_reducible refine Kd.C_drewN ?_ _) | (with_reducible refine Kd.C_drew ?_))); (case side4 => exact HC0_1.out); (case side5 => repeat (first | exact (Kd.C_below HR1_3.out HB.out) | (with_reducible refine Kd.C_alloc ?_ _) | (with_reducible refine Kd.C_drewN ?_ _) | (with_reducible refine Kd.C_drew ?_))); (case side6 => exact HC1_3.out); (case side7 => repeat (first | exact (Kd.C_below HR1_4.out HB.out) | (with_reducible refine Kd.C_alloc ?_ _) | (with_reducible refine Kd.C_drewN ?_ _) | (with_reducible refine Kd.C_drew ?_))); (case side8 => exact HC1_4.out); (case side9 => repeat (first | exact (Kd.C_below HR206_7.out HB.out) | (with_reducible refine Kd.C_alloc ?_ _) | (with_reducible refine Kd.C_drewN ?_ _) | (with_reducible refine Kd.C_drew ?_))); (case side10 => exact HC206_7.out); rintro e w60 ⟨rfl, hb⟩; have n0_ := Aside0.mk (Kd.R_below (by (with_reducible repeat (first | apply Kd.R_alloc | apply Kd.R_drewN | apply Kd.R_drew)); exact HO_8.out) hb); have n1_ := Aside0.mk (blk_below (g := gb204) (o := .cells #[.slice A0_0 l0_0.length c0_0, .slice A0_1 l0_1.length c0_1, .int .i64 a0_2] 25 (0, 0)) (by (with_reducible repeat (first | refine blk_drewN ?_ _ | refine blk_drew ?_ | refine blk_alloc ?_ _)); exact BK204.out) hb); have n2_ := Aside0.mk (blk_below (g := gb205) (o := .cells #[.string a1_0, .int .i64 a1_1, .int .i64 a1_2, .slice A1_3 l1_3.length c1_3, .slice (some ad206) l1_4.length c1_4] 36 (0, 0)) (by (with_reducible repeat (first | refine blk_drewN ?_ _ | refine blk_drew ?_ | refine blk_alloc ?_ _)); exact BK205.out) hb); have n3_ := Aside0.mk (blk_below (g := gb207) (o := .cells #[.int .i64 ((rd_T39 l1_4 a2).f0), .int .i64 ((rd_T39 l1_4 a2).f1), .int .i64 ((rd_T39 l1_4 a2).f2), .int .i64 ((rd_T39 l1_4 a2).f3), .int .i64 ((rd_T39 l1_4 a2).f4), .int .i64 ((rd_T39 l1_4 a2).f5), .string ((rd_T39 l1_4 a2).f6), .slice A206_7 ((rd_T39 l1_4 a2).f7).length c206_7] 39 (0, 0)) (by (with_reducible repeat (first | refine blk_drewN ?_ _ | refine blk_drew ?_ | refine blk_alloc ?_ _)); exact BK207.out) hb); have n4_ := Aside0.mk (below_step (by repeat (first | (with_reducible first | exact HB.out | apply below_alloc | apply pw_below_drewN | apply below_drew1 | refine below_set ?_ GE204.out | refine below_set ?_ GE205.out | refine below_set ?_ GE207.out) | exact HB.out)) hb); clear HO_8; clear BK204; clear BK205; clear BK207; clear HB; have HO_8 := n0_; have BK204 := n1_; have BK205 := n2_; have BK207 := n3_; have HB := n4_; clear n0_ n1_ n2_ n3_ n4_; (try clear hb); (try clear hb2); (try clear hk); (try clear hi); have hcz61_0 : w60.cell? ⟨gb207, 0, none⟩ = some (.int .i64 ((rd_T39 l1_4 a2).f0)) := (blk_cell BK207.out 0).trans rfl; have hcz61_1 : w60.cell? ⟨gb207, 1, none⟩ = some (.int .i64 ((rd_T39 l1_4 a2).f1)) := (blk_cell BK207.out 1).trans rfl; have hcz61_2 : w60.cell? ⟨gb207, 2, none⟩ = some (.int .i64 ((rd_T39 l1_4 a2).f2)) := (blk_cell BK207.out 2).trans rfl; have hcz61_3 : w60.cell? ⟨gb207, 3, none⟩ = some (.int .i64 ((rd_T39 l1_4 a2).f3)) := (blk_cell BK207.out 3).trans rfl; have hcz61_4 : w60.cell? ⟨gb207, 4, none⟩ = some (.int .i64 ((rd_T39 l1_4 a2).f4)) := (blk_cell BK207.out 4).trans rfl; have hcz61_5 : w60.cell? ⟨gb207, 5, none⟩ = some (.int .i64 ((rd_T39 l1_4 a2).f5)) := (blk_cell BK207.out 5).trans rfl; have hcz61_6 : w60.cell? ⟨gb207, 6, none⟩ = some (.string ((rd_T39 l1_4 a2).f6)) := (blk_cell BK207.out 6).trans rfl; have hcz61_7 : w60.cell? ⟨gb207, 7, none⟩ = some (.slice A206_7 ((rd_T39 l1_4 a2).f7).length c206_7) := (blk_cell BK207.out 7).trans rfl; have hfz61_0 := blk_frozen BK207.out 0; have hfz61_1 := blk_frozen BK207.out 1; have hfz61_2 := blk_frozen BK207.out 2; have hfz61_3 := blk_frozen BK207.out 3; have hfz61_4 := blk_frozen BK207.out 4; have hfz61_5 := blk_frozen BK207.out 5; have hfz61_6 := blk_frozen BK207.out 6; have hfz61_7 := blk_frozen BK207.out 7) | (go_at_call 23; (with_reducible refine (crosstreeref08_Next.calls ((rd_T39 l1_4 a2).f0) ((rd_T39 l1_4 a2).f1) ((rd_T39 l1_4 a2).f2) ((rd_T39 l1_4 a2).f3) ((rd_T39 l1_4 a2).f4) ((rd_T39 l1_4 a2).f5) ((rd_T39 l1_4 a2).f6) _ _ ((rd_T39 l1_4 a2).f7) a2 t218 _ ?side1 ?side2 A52.out).mono ?_); (case side1 => repeat (first | exact (Kd.C_below HR206_7.out HB.out) | (with_reducible refine Kd.C_alloc ?_ _) | (with_reducible refine Kd.C_drewN ?_ _) | (with_reducible refine Kd.C_drew ?_))); (case side2 => exact HC206_7.out); rintro e w62 ⟨v219, rfl, ho0, hb⟩; have n0_ := Aside0.mk (Kd.R_elder' (by (with_reducible repeat (first | apply Kd.R_alloc | apply Kd.R_drewN | apply Kd.R_drew)); exact HO_8.out) (Kd.R_base ho0) hb); have n1_ := Aside0.mk (Kd.R_lower (Kd.R_new' ho0 (Kd.R_lt (by (with_reducible repeat (first | apply Kd.R_alloc | apply Kd.R_drewN | apply Kd.R_drew)); exact HO_8.out))) (below_size (by repeat (first | (with_reducible first | exact HB.out | apply below_alloc | apply pw_below_drewN | apply below_drew1 | refine below_set ?_ GE204.out | refine below_set ?_ GE205.out | refine below_set ?_ GE207.out) | exact HB.out)))); have n2_ := Aside0.mk (blk_below (g := gb204) (o := .cells #[.slice A0_0 l0_0.length c0_0, .slice A0_1 l0_1.length c0_1, .int .i64 a0_2] 25 (0, 0)) (by (with_reducible repeat (first | refine blk_drewN ?_ _ | refine blk_drew ?_ | refine blk_alloc ?_ _)); exact BK204.out) hb); have n3_ := Aside0.mk (blk_below (g := gb205) (o := .cells #[.string a1_0, .int .i64 a1_1, .int .i64 a1_2, .slice A1_3 l1_3.length c1_3, .slice (some ad206) l1_4.length c1_4] 36 (0, 0)) (by (with_reducible repeat (first | refine blk_drewN ?_ _ | refine blk_drew ?_ | refine blk_alloc ?_ _)); exact BK205.out) hb); have n4_ := Aside0.mk (blk_below (g := gb207) (o := .cells #[.int .i64 ((rd_T39 l1_4 a2).f0), .int .i64 ((rd_T39 l1_4 a2).f1), .int .i64 ((rd_T39 l1_4 a2).f2), .int .i64 ((rd_T39 l1_4 a2).f3), .int .i64 ((rd_T39 l1_4 a2).f4), .int .i64 ((rd_T39 l1_4 a2).f5), .string ((rd_T39 l1_4 a2).f6), .slice A206_7 ((rd_T39 l1_4 a2).f7).length c206_7] 39 (0, 0)) (by (with_reducible repeat (first | refine blk_drewN ?_ _ | refine blk_drew ?_ | refine blk_alloc ?_ _)); exact BK207.out) hb); have n5_ := Aside0.mk (below_step (by repeat (first | (with_reducible first | exact HB.out | apply below_alloc | apply pw_below_drewN | apply below_drew1 | refine below_set ?_ GE204.out | refine below_set ?_ GE205.out | refine below_set ?_ GE207.out) | exact HB.out)) hb); clear HO_8; clear BK204; clear BK205; clear BK207; clear HB; have HO_8 := n0_; have HO220 := n1_; have BK204 := n2_; have BK205 := n3_; have BK207 := n4_; have HB := n5_; clear n0_ n1_ n2_ n3_ n4_ n5_; (try clear hb); (try clear hb2); (try clear hk); (try clear hi); (try clear ho0)))
            repeat (go_quiet (first | (go_at_call 22; (with_reducible refine (crosstreeref08_Others.calls k3 _ _ l0_0 _ _ l0_1 a0_2 a1_0 a1_1 a1_2 _ _ l1_3 _ _ l1_4 ((rd_T39 l1_4 a2).f0) ((rd_T39 l1_4 a2).f1) ((rd_T39 l1_4 a2).f2) ((rd_T39 l1_4 a2).f3) ((rd_T39 l1_4 a2).f4) ((rd_T39 l1_4 a2).f5) ((rd_T39 l1_4 a2).f6) _ _ ((rd_T39 l1_4 a2).f7) true _ ?side1 ?side2 ?side3 ?side4 ?side5 ?side6 ?side7 ?side8 ?side9 ?side10 A50.out).mono ?_); (case side1 => repeat (first | exact (Kd.C_below HR0_0.out HB.out) | (with_reducible refine Kd.C_alloc ?_ _) | (with_reducible refine Kd.C_drewN ?_ _) | (with_reducible refine Kd.C_drew ?_))); (case side2 => exact HC0_0.out); (case side3 => repeat (first | exact (Kd.C_below HR0_1.out HB.out) | (with_reducible refine Kd.C_alloc ?_ _) | (with_reducible refine Kd.C_drewN ?_ _) | (with_reducible refine Kd.C_drew ?_))); (case side4 => exact HC0_1.out); (case side5 => repeat (first | exact (Kd.C_below HR1_3.out HB.out) | (with_reducible refine Kd.C_alloc ?_ _) | (with_reducible refine Kd.C_drewN ?_ _) | (with_reducible refine Kd.C_drew ?_))); (case side6 => exact HC1_3.out); (case side7 => repeat (first | exact (Kd.C_below HR1_4.out HB.out) | (with_reducible refine Kd.C_alloc ?_ _) | (with_reducible refine Kd.C_drewN ?_ _) | (with_reducible refine Kd.C_drew ?_))); (case side8 => exact HC1_4.out); (case side9 => repeat (first | exact (Kd.C_below HR206_7.out HB.out) | (with_reducible refine Kd.C_alloc ?_ _) | (with_reducible refine Kd.C_drewN ?_ _) | (with_reducible refine Kd.C_drew ?_))); (case side10 => exact HC206_7.out); rintro e w60 ⟨rfl, hb⟩; have n0_ := Aside0.mk (Kd.R_below (by (with_reducible repeat (first | apply Kd.R_alloc | apply Kd.R_drewN | apply Kd.R_drew)); exact HO_8.out) hb); have n1_ := Aside0.mk (blk_below (g := gb204) (o := .cells #[.slice A0_0 l0_0.length c0_0, .slice A0_1 l0_1.length c0_1, .int .i64 a0_2] 25 (0, 0)) (by (with_reducible repeat (first | refine blk_drewN ?_ _ | refine blk_drew ?_ | refine blk_alloc ?_ _)); exact BK204.out) hb); have n2_ := Aside0.mk (blk_below (g := gb205) (o := .cells #[.string a1_0, .int .i64 a1_1, .int .i64 a1_2, .slice A1_3 l1_3.length c1_3, .slice (some ad206) l1_4.length c1_4] 36 (0, 0)) (by (with_reducible repeat (first | refine blk_drewN ?_ _ | refine blk_drew ?_ | refine blk_alloc ?_ _)); exact BK205.out) hb); have n3_ := Aside0.mk (blk_below (g := gb207) (o := .cells #[.int .i64 ((rd_T39 l1_4 a2).f0), .int .i64 ((rd_T39 l1_4 a2).f1), .int .i64 ((rd_T39 l1_4 a2).f2), .int .i64 ((rd_T39 l1_4 a2).f3), .int .i64 ((rd_T39 l1_4 a2).f4), .int .i64 ((rd_T39 l1_4 a2).f5), .string ((rd_T39 l1_4 a2).f6), .slice A206_7 ((rd_T39 l1_4 a2).f7).length c206_7] 39 (0, 0)) (by (with_reducible repeat (first | refine blk_drewN ?_ _ | refine blk_drew ?_ | refine blk_alloc ?_ _)); exact BK207.out) hb); have n4_ := Aside0.mk (below_step (by repeat (first | (with_reducible first | exact HB.out | apply below_alloc | apply pw_below_drewN | apply below_drew1 | refine below_set ?_ GE204.out | refine below_set ?_ GE205.out | refine below_set ?_ GE207.out) | exact HB.out)) hb); clear HO_8; clear BK204; clear BK205; clear BK207; clear HB; have HO_8 := n0_; have BK204 := n1_; have BK205 := n2_; have BK207 := n3_; have HB := n4_; clear n0_ n1_ n2_ n3_ n4_; (try clear hb); (try clear hb2); (try clear hk); (try clear hi); have hcz61_0 : w60.cell? ⟨gb207, 0, none⟩ = some (.int .i64 ((rd_T39 l1_4 a2).f0)) := (blk_cell BK207.out 0).trans rfl; have hcz61_1 : w60.cell? ⟨gb207, 1, none⟩ = some (.int .i64 ((rd_T39 l1_4 a2).f1)) := (blk_cell BK207.out 1).trans rfl; have hcz61_2 : w60.cell? ⟨gb207, 2, none⟩ = some (.int .i64 ((rd_T39 l1_4 a2).f2)) := (blk_cell BK207.out 2).trans rfl; have hcz61_3 : w60.cell? ⟨gb207, 3, none⟩ = some (.int .i64 ((rd_T39 l1_4 a2).f3)) := (blk_cell BK207.out 3).trans rfl; have hcz61_4 : w60.cell? ⟨gb207, 4, none⟩ = some (.int .i64 ((rd_T39 l1_4 a2).f4)) := (blk_cell BK207.out 4).trans rfl; have hcz61_5 : w60.cell? ⟨gb207, 5, none⟩ = some (.int .i64 ((rd_T39 l1_4 a2).f5)) := (blk_cell BK207.out 5).trans rfl; have hcz61_6 : w60.cell? ⟨gb207, 6, none⟩ = some (.string ((rd_T39 l1_4 a2).f6)) := (blk_cell BK207.out 6).trans rfl; have hcz61_7 : w60.cell? ⟨gb207, 7, none⟩ = some (.slice A206_7 ((rd_T39 l1_4 a2).f7).length c206_7) := (blk_cell BK207.out 7).trans rfl; have hfz61_0 := blk_frozen BK207.out 0; have hfz61_1 := blk_frozen BK207.out 1; have hfz61_2 := blk_frozen BK207.out 2; have hfz61_3 := blk_frozen BK207.out 3; have hfz61_4 := blk_frozen BK207.out 4; have hfz61_5 := blk_frozen BK207.out 5; have hfz61_6 := blk_frozen BK207.out 6; have hfz61_7 := blk_frozen BK207.out 7) | (go_at_call 23; (with_reducible refine (crosstreeref08_Next.calls ((rd_T39 l1_4 a2).f0) ((rd_T39 l1_4 a2).f1) ((rd_T39 l1_4 a2).f2) ((rd_T39 l1_4 a2).f3) ((rd_T39 l1_4 a2).f4) ((rd_T39 l1_4 a2).f5) ((rd_T39 l1_4 a2).f6) _ _ ((rd_T39 l1_4 a2).f7) a2 t218 _ ?side1 ?side2 A52.out).mono ?_); (case side1 => repeat (first | exact (Kd.C_below HR206_7.out HB.out) | (with_reducible refine Kd.C_alloc ?_ _) | (with_reducible refine Kd.C_drewN ?_ _) | (with_reducible refine Kd.C_drew ?_))); (case side2 => exact HC206_7.out); rintro e w62 ⟨v219, rfl, ho0, hb⟩; have n0_ := Aside0.mk (Kd.R_elder' (by (with_reducible repeat (first | apply Kd.R_alloc | apply Kd.R_drewN | apply Kd.R_drew)); exact HO_8.out) (Kd.R_base ho0) hb); have n1_ := Aside0.mk (Kd.R_lower (Kd.R_new' ho0 (Kd.R_lt (by (with_reducible repeat (first | apply Kd.R_alloc | apply Kd.R_drewN | apply Kd.R_drew)); exact HO_8.out))) (below_size (by repeat (first | (with_reducible first | exact HB.out | apply below_alloc | apply pw_below_drewN | apply below_drew1 | refine below_set ?_ GE204.out | refine below_set ?_ GE205.out | refine below_set ?_ GE207.out) | exact HB.out)))); have n2_ := Aside0.mk (blk_below (g := gb204) (o := .cells #[.slice A0_0 l0_0.length c0_0, .slice A0_1 l0_1.length c0_1, .int .i64 a0_2] 25 (0, 0)) (by (with_reducible repeat (first | refine blk_drewN ?_ _ | refine blk_drew ?_ | refine blk_alloc ?_ _)); exact BK204.out) hb); have n3_ := Aside0.mk (blk_below (g := gb205) (o := .cells #[.string a1_0, .int .i64 a1_1, .int .i64 a1_2, .slice A1_3 l1_3.length c1_3, .slice (some ad206) l1_4.length c1_4] 36 (0, 0)) (by (with_reducible repeat (first | refine blk_drewN ?_ _ | refine blk_drew ?_ | refine blk_alloc ?_ _)); exact BK205.out) hb); have n4_ := Aside0.mk (blk_below (g := gb207) (o := .cells #[.int .i64 ((rd_T39 l1_4 a2).f0), .int .i64 ((rd_T39 l1_4 a2).f1), .int .i64 ((rd_T39 l1_4 a2).f2), .int .i64 ((rd_T39 l1_4 a2).f3), .int .i64 ((rd_T39 l1_4 a2).f4), .int .i64 ((rd_T39 l1_4 a2).f5), .string ((rd_T39 l1_4 a2).f6), .slice A206_7 ((rd_T39 l1_4 a2).f7).length c206_7] 39 (0, 0)) (by (with_reducible repeat (first | refine blk_drewN ?_ _ | refine blk_drew ?_ | refine blk_alloc ?_ _)); exact BK207.out) hb); have n5_ := Aside0.mk (below_step (by repeat (first | (with_reducible first | exact HB.out | apply below_alloc | apply pw_below_drewN | apply below_drew1 | refine below_set ?_ GE204.out | refine below_set ?_ GE205.out | refine below_set ?_ GE207.out) | exact HB.out)) hb); clear HO_8; clear BK204; clear BK205; clear BK207; clear HB; have HO_8 := n0_; have HO220 := n1_; have BK204 := n2_; have BK205 := n3_; have BK207 := n4_; have HB := n5_; clear n0_ n1_ n2_ n3_ n4_ n5_; (try clear hb); (try clear hb2); (try clear hk); (try clear hi); (try clear ho0))); try go_wp2_with (first | (go_at_call 22; (with_reducible refine (crosstreeref08_Others.calls k3 _ _ l0_0 _ _ l0_1 a0_2 a1_0 a1_1 a1_2 _ _ l1_3 _ _ l1_4 ((rd_T39 l1_4 a2).f0) ((rd_T39 l1_4 a2).f1) ((rd_T39 l1_4 a2).f2) ((rd_T39 l1_4 a2).f3) ((rd_T39 l1_4 a2).f4) ((rd_T39 l1_4 a2).f5) ((rd_T39 l1_4 a2).f6) _ _ ((rd_T39 l1_4 a2).f7) true _ ?side1 ?side2 ?side3 ?side4 ?side5 ?side6 ?side7 ?side8 ?side9 ?side10 A50.out).mono ?_); (case side1 => repeat (first | exact (Kd.C_below HR0_0.out HB.out) | (with_reducible refine Kd.C_alloc ?_ _) | (with_reducible refine Kd.C_drewN ?_ _) | (with_reducible refine Kd.C_drew ?_))); (case side2 => exact HC0_0.out); (case side3 => repeat (first | exact (Kd.C_below HR0_1.out HB.out) | (with_reducible refine Kd.C_alloc ?_ _) | (with_reducible refine Kd.C_drewN ?_ _) | (with_reducible refine Kd.C_drew ?_))); (case side4 => exact HC0_1.out); (case side5 => repeat (first | exact (Kd.C_below HR1_3.out HB.out) | (with_reducible refine Kd.C_alloc ?_ _) | (with_reducible refine Kd.C_drewN ?_ _) | (with_reducible refine Kd.C_drew ?_))); (case side6 => exact HC1_3.out); (case side7 => repeat (first | exact (Kd.C_below HR1_4.out HB.out) | (with_reducible refine Kd.C_alloc ?_ _) | (with_reducible refine Kd.C_drewN ?_ _) | (with_reducible refine Kd.C_drew ?_))); (case side8 => exact HC1_4.out); (case side9 => repeat (first | exact (Kd.C_below HR206_7.out HB.out) | (with_reducible refine Kd.C_alloc ?_ _) | (with_reducible refine Kd.C_drewN ?_ _) | (with_reducible refine Kd.C_drew ?_))); (case side10 => exact HC206_7.out); rintro e w60 ⟨rfl, hb⟩; have n0_ := Aside0.mk (Kd.R_below (by (with_reducible repeat (first | apply Kd.R_alloc | apply Kd.R_drewN | apply Kd.R_drew)); exact HO_8.out) hb); have n1_ := Aside0.mk (blk_below (g := gb204) (o := .cells #[.slice A0_0 l0_0.length c0_0, .slice A0_1 l0_1.length c0_1, .int .i64 a0_2] 25 (0, 0)) (by (with_reducible repeat (first | refine blk_drewN ?_ _ | refine blk_drew ?_ | refine blk_alloc ?_ _)); exact BK204.out) hb); have n2_ := Aside0.mk (blk_below (g := gb205) (o := .cells #[.string a1_0, .int .i64 a1_1, .int .i64 a1_2, .slice A1_3 l1_3.length c1_3, .slice (some ad206) l1_4.length c1_4] 36 (0, 0)) (by (with_reducible repeat (first | refine blk_drewN ?_ _ | refine blk_drew ?_ | refine blk_alloc ?_ _)); exact BK205.out) hb); have n3_ := Aside0.mk (blk_below (g := gb207) (o := .cells #[.int .i64 ((rd_T39 l1_4 a2).f0), .int .i64 ((rd_T39 l1_4 a2).f1), .int .i64 ((rd_T39 l1_4 a2).f2), .int .i64 ((rd_T39 l1_4 a2).f3), .int .i64 ((rd_T39 l1_4 a2).f4), .int .i64 ((rd_T39 l1_4 a2).f5), .string ((rd_T39 l1_4 a2).f6), .slice A206_7 ((rd_T39 l1_4 a2).f7).length c206_7] 39 (0, 0)) (by (with_reducible repeat (first | refine blk_drewN ?_ _ | refine blk_drew ?_ | refine blk_alloc ?_ _)); exact BK207.out) hb); have n4_ := Aside0.mk (below_step (by repeat (first | (with_reducible first | exact HB.out | apply below_alloc | apply pw_below_drewN | apply below_drew1 | refine below_set ?_ GE204.out | refine below_set ?_ GE205.out | refine below_set ?_ GE207.out) | exact HB.out)) hb); clear HO_8; clear BK204; clear BK205; clear BK207; clear HB; have HO_8 := n0_; have BK204 := n1_; have BK205 := n2_; have BK207 := n3_; have HB := n4_; clear n0_ n1_ n2_ n3_ n4_; (try clear hb); (try clear hb2); (try clear hk); (try clear hi); have hcz61_0 : w60.cell? ⟨gb207, 0, none⟩ = some (.int .i64 ((rd_T39 l1_4 a2).f0)) := (blk_cell BK207.out 0).trans rfl; have hcz61_1 : w60.cell? ⟨gb207, 1, none⟩ = some (.int .i64 ((rd_T39 l1_4 a2).f1)) := (blk_cell BK207.out 1).trans rfl; have hcz61_2 : w60.cell? ⟨gb207, 2, none⟩ = some (.int .i64 ((rd_T39 l1_4 a2).f2)) := (blk_cell BK207.out 2).trans rfl; have hcz61_3 : w60.cell? ⟨gb207, 3, none⟩ = some (.int .i64 ((rd_T39 l1_4 a2).f3)) := (blk_cell BK207.out 3).trans rfl; have hcz61_4 : w60.cell? ⟨gb207, 4, none⟩ = some (.int .i64 ((rd_T39 l1_4 a2).f4)) := (blk_cell BK207.out 4).trans rfl; have hcz61_5 : w60.cell? ⟨gb207, 5, none⟩ = some (.int .i64 ((rd_T39 l1_4 a2).f5)) := (blk_cell BK207.out 5).trans rfl; have hcz61_6 : w60.cell? ⟨gb207, 6, none⟩ = some (.string ((rd_T39 l1_4 a2).f6)) := (blk_cell BK207.out 6).trans rfl; have hcz61_7 : w60.cell? ⟨gb207, 7, none⟩ = some (.slice A206_7 ((rd_T39 l1_4 a2).f7).length c206_7) := (blk_cell BK207.out 7).trans rfl; have hfz61_0 := blk_frozen BK207.out 0; have hfz61_1 := blk_frozen BK207.out 1; have hfz61_2 := blk_frozen BK207.out 2; have hfz61_3 := blk_frozen BK207.out 3; have hfz61_4 := blk_frozen BK207.out 4; have hfz61_5 := blk_frozen BK207.out 5; have hfz61_6 := blk_frozen BK207.out 6; have hfz61_7 := blk_frozen BK207.out 7) | (go_at_call 23; (with_reducible refine (crosstreeref08_Next.calls ((rd_T39 l1_4 a2).f0) ((rd_T39 l1_4 a2).f1) ((rd_T39 l1_4 a2).f2) ((rd_T39 l1_4 a2).f3) ((rd_T39 l1_4 a2).f4) ((rd_T39 l1_4 a2).f5) ((rd_T39 l1_4 a2).f6) _ _ ((rd_T39 l1_4 a2).f7) a2 t218 _ ?side1 ?side2 A52.out).mono ?_); (case side1 => repeat (first | exact (Kd.C_below HR206_7.out HB.out) | (with_reducible refine Kd.C_alloc ?_ _) | (with_reducible refine Kd.C_drewN ?_ _) | (with_reducible refine Kd.C_drew ?_))); (case side2 => exact HC206_7.out); rintro e w62 ⟨v219, rfl, ho0, hb⟩; have n0_ := Aside0.mk (Kd.R_elder' (by (with_reducible repeat (first | apply Kd.R_alloc | apply Kd.R_drewN | apply Kd.R_drew)); exact HO_8.out) (Kd.R_base ho0) hb); have n1_ := Aside0.mk (Kd.R_lower (Kd.R_new' ho0 (Kd.R_lt (by (with_reducible repeat (first | apply Kd.R_alloc | apply Kd.R_drewN | apply Kd.R_drew)); exact HO_8.out))) (below_size (by repeat (first | (with_reducible first | exact HB.out | apply below_alloc | apply pw_below_drewN | apply below_drew1 | refine below_set ?_ GE204.out | refine below_set ?_ GE205.out | refine below_set ?_ GE207.out) | exact HB.out)))); have n2_ := Aside0.mk (blk_below (g := gb204) (o := .cells #[.slice A0_0 l0_0.length c0_0, .slice A0_1 l0_1.length c0_1, .int .i64 a0_2] 25 (0, 0)) (by (with_reducible repeat (first | refine blk_drewN ?_ _ | refine blk_drew ?_ | refine blk_alloc ?_ _)); exact BK204.out) hb); have n3_ := Aside0.mk (blk_below (g := gb205) (o := .cells #[.string a1_0, .int .i64 a1_1, .int .i64 a1_2, .slice A1_3 l1_3.length c1_3, .slice (some ad206) l1_4.length c1_4] 36 (0, 0)) (by (with_reducible repeat (first | refine blk_drewN ?_ _ | refine blk_drew ?_ | refine blk_alloc ?_ _)); exact BK205.out) hb); have n4_ := Aside0.mk (blk_below (g := gb207) (o := .cells #[.int .i64 ((rd_T39 l1_4 a2).f0), .int .i64 ((rd_T39 l1_4 a2).f1), .int .i64 ((rd_T39 l1_4 a2).f2), .int .i64 ((rd_T39 l1_4 a2).f3), .int .i64 ((rd_T39 l1_4 a2).f4), .int .i64 ((rd_T39 l1_4 a2).f5), .string ((rd_T39 l1_4 a2).f6), .slice A206_7 ((rd_T39 l1_4 a2).f7).length c206_7] 39 (0, 0)) (by (with_reducible repeat (first | refine blk_drewN ?_ _ | refine blk_drew ?_ | refine blk_alloc ?_ _)); exact BK207.out) hb); have n5_ := Aside0.mk (below_step (by repeat (first | (with_reducible first | exact HB.out | apply below_alloc | apply pw_below_drewN | apply below_drew1 | refine below_set ?_ GE204.out | refine below_set ?_ GE205.out | refine below_set ?_ GE207.out) | exact HB.out)) hb); clear HO_8; clear BK204; clear BK205; clear BK207; clear HB; have HO_8 := n0_; have HO220 := n1_; have BK204 := n2_; have BK205 := n3_; have BK207 := n4_; have HB := n5_; clear n0_ n1_ n2_ n3_ n4_ n5_; (try clear hb); (try clear hb2); (try clear hk); (try clear hi); (try clear ho0))))
            go_loopg [10] k3 (fun kq v10 w' => ∃ (x10_4 : Int), v10 = .int .i64 x10_4 ∧ Aside0 (crosstreeref08_Insn.l1 kq t218 x10_4 a1_0 a1_1 a1_2 l1_3 l1_4 = some r) ∧ Aside0 (kq ≤ k3) ∧ Aside0 (Kd.R (Kd.int .i64) 3 w' w.heap.size (fun _ => True) v219 t218) ∧ Aside0 (w'.heap[gb204]? = some (.cells #[(.slice A0_0 l0_0.length c0_0), (.slice A0_1 l0_1.length c0_1), .int .i64 a0_2] 25 (0, 0))) ∧ Aside0 (w'.heap[gb205]? = some (.cells #[.string a1_0, .int .i64 a1_1, .int .i64 a1_2, (.slice A1_3 l1_3.length c1_3), (.slice (some ad206) l1_4.length c1_4)] 36 (0, 0))) ∧ Aside0 (w'.heap[gb207]? = some (.cells #[.int .i64 ((rd_T39 l1_4 a2).f0), .int .i64 ((rd_T39 l1_4 a2).f1), .int .i64 ((rd_T39 l1_4 a2).f2), .int .i64 ((rd_T39 l1_4 a2).f3), .int .i64 ((rd_T39 l1_4 a2).f4), .int .i64 ((rd_T39 l1_4 a2).f5), .string ((rd_T39 l1_4 a2).f6), (.slice A206_7 ((rd_T39 l1_4 a2).f7).length c206_7)] 39 (0, 0))) ∧ Aside0 (Below w.heap.size w w'))
            case atStart => exact ⟨(0), (by first | rfl | (simp; done) | (simp [*]; done)), H', ⟨Nat.le_refl _⟩, ⟨by (with_reducible repeat (first | apply Kd.R_alloc | apply Kd.R_drewN | apply Kd.R_drew)); exact Kd.R_mono HO220.out (fun _ hk => trivial)⟩, ⟨by (with_reducible repeat (first | refine blk_drewN ?_ _ | refine blk_drew ?_ | refine blk_alloc ?_ _)); exact BK204.out⟩, ⟨by (with_reducible repeat (first | refine blk_drewN ?_ _ | refine blk_drew ?_ | refine blk_alloc ?_ _)); exact BK205.out⟩, ⟨by (with_reducible repeat (first | refine blk_drewN ?_ _ | refine blk_drew ?_ | refine blk_alloc ?_ _)); exact BK207.out⟩, ⟨by repeat (first | (with_reducible first | exact HB.out | apply below_alloc | apply pw_below_drewN | apply below_drew1 | refine below_set ?_ GE204.out | refine below_set ?_ GE205.out | refine below_set ?_ GE207.out) | exact HB.out)⟩⟩
            case round =>
             clear H'
             try clear c1
             try clear c2
             try clear p2
             try clear q2
             try clear hx2
             try clear c3
             try clear c4
             try clear c4b0
             try clear c5
             try clear c5b0
             try clear p6
             try clear c9
             try clear c12
             try clear c13
             try clear c15
             try clear c15b0
             try clear c16
             try clear c17
             try clear c19
             try clear c20
             try clear p20
             try clear q20
             try clear hx20
             try clear p21
             try clear q21
             try clear hx21
             try clear c22
             try clear c26
             try clear c27
             try clear c31
             try clear c32
             try clear c33
             try clear c34
             try clear c37
             try clear c37b0
             try clear c38
             try clear c38b0
             try clear c39
             try clear c39b0
             try clear c41
             try clear c41b0
             try clear c43
             try clear c44
             try clear c47
             try clear c48
             try clear c51
             try clear c54
             try clear c55
             try clear c57
             try clear hcz10_0
             try clear hcz10_1
             try clear hcz10_2
             try clear hcz10_3
             try clear hcz10_4
             try clear hcz14_0
             try clear hcz14_1
             try clear hcz14_2
             try clear hcz14_3
             try clear hcz14_4
             try clear hcz14_5
             try clear hcz14_6
             try clear hcz14_7
             try clear hcz18_0
             try clear hcz18_1
             try clear hcz18_2
             try clear hcz18_3
             try clear hcz18_4
             try clear hcz18_5
             try clear hcz18_6
             try clear hcz18_7
             try clear hcz21_0
             try clear hcz21_1
             try clear hcz21_2
             try clear hcz21_3
             try clear hcz21_4
             try clear hcz21_5
             try clear hcz21_6
             try clear hcz21_7
             try clear hcz28_0
             try clear hcz28_1
             try clear hcz28_2
             try clear hcz28_3
             try clear hcz28_4
             try clear hcz28_5
             try clear hcz28_6
             try clear hcz28_7
             try clear hcz30_0
             try clear hcz30_1
             try clear hcz30_2
             try clear hcz30_3
             try clear hcz30_4
             try clear hcz30_5
             try clear hcz30_6
             try clear hcz30_7
             try clear hcz35_0
             try clear hcz35_1
             try clear hcz35_2
             try clear hcz35_3
             try clear hcz35_4
             try clear hcz35_5
             try clear hcz35_6
             try clear hcz35_7
             try clear hcz45_0
             try clear hcz45_1
             try clear hcz45_2
             try clear hcz45_3
             try clear hcz45_4
             try clear hcz49_0
             try clear hcz49_1
             try clear hcz49_2
             try clear hcz49_3
             try clear hcz49_4
             try clear hcz56_0
             try clear hcz56_1
             try clear hcz56_2
             try clear hcz58_0
             try clear hcz58_1
             try clear hcz58_2
             try clear hcz58_3
             try clear hcz58_4
             try clear hcz59_0
             try clear hcz59_1
             try clear hcz59_2
             try clear hcz59_3
             try clear hcz59_4
             try clear hcz59_5
             try clear hcz59_6
             try clear hcz59_7
             try clear hcz61_0
             try clear hcz61_1
             try clear hcz61_2
             try clear hcz61_3
             try clear hcz61_4
             try clear hcz61_5
             try clear hcz61_6
             try clear hcz61_7
             try clear hfz10_0
             try clear hfz10_1
             try clear hfz10_2
             try clear hfz10_3
             try clear hfz10_4
             try clear hfz14_0
             try clear hfz14_1
             try clear hfz14_2
             try clear hfz14_3
             try clear hfz14_4
             try clear hfz14_5
             try clear hfz14_6
             try clear hfz14_7
             try clear hfz18_0
             try clear hfz18_1
             try clear hfz18_2
             try clear hfz18_3
             try clear hfz18_4
             try clear hfz18_5
             try clear hfz18_6
             try clear hfz18_7
             try clear hfz21_0
             try clear hfz21_1
             try clear hfz21_2
             try clear hfz21_3
             try clear hfz21_4
             try clear hfz21_5
             try clear hfz21_6
             try clear hfz21_7
             try clear hfz28_0
             try clear hfz28_1
             try clear hfz28_2
             try clear hfz28_3
             try clear hfz28_4
             try clear hfz28_5
             try clear hfz28_6
             try clear hfz28_7
             try clear hfz30_0
             try clear hfz30_1
             try clear hfz30_2
             try clear hfz30_3
             try clear hfz30_4
             try clear hfz30_5
             try clear hfz30_6
             try clear hfz30_7
             try clear hfz35_0
             try clear hfz35_1
             try clear hfz35_2
             try clear hfz35_3
             try clear hfz35_4
             try clear hfz35_5
             try clear hfz35_6
             try clear hfz35_7
             try clear hfz45_0
             try clear hfz45_1
             try clear hfz45_2
             try clear hfz45_3
             try clear hfz45_4
             try clear hfz49_0
             try clear hfz49_1
             try clear hfz49_2
             try clear hfz49_3
             try clear hfz49_4
             try clear hfz56_0
             try clear hfz56_1
             try clear hfz56_2
             try clear hfz58_0
             try clear hfz58_1
             try clear hfz58_2
             try clear hfz58_3
             try clear hfz58_4
             try clear hfz59_0
             try clear hfz59_1
             try clear hfz59_2
             try clear hfz59_3
             try clear hfz59_4
             try clear hfz59_5
             try clear hfz59_6
             try clear hfz59_7
             try clear hfz61_0
             try clear hfz61_1
             try clear hfz61_2
             try clear hfz61_3
             try clear hfz61_4
             try clear hfz61_5
             try clear hfz61_6
             try clear hfz61_7
             try clear hx206_0
             try clear hx206_1
             try clear hx206_2
             try clear hx206_3
             try clear hx206_4
             try clear hx206_5
             try clear hx206_6
             try clear hx206_7
             try clear hx215_0
             try clear hx216_0
             try clear p2
             try clear p20
             try clear p206
             try clear p215
             try clear p216
             try clear q2
             try clear q20
             try clear q206
             try clear q215
             try clear q216
             obtain ⟨x10_4, rfl, HA, HK4, HO_8, BK204, BK205, BK207, HB⟩ := hrel
             cases gk with
             | zero => exact absurd HA.out (by simp [crosstreeref08_Insn.l1])
             | succ k4 =>
              have H := HA.out
              clear HA
              simp only [crosstreeref08_Insn.l1] at H
              by_cases c63 : x10_4 < (t218.length : Int)
              ·rw [if_pos c63] at H
               have c63b0 : decide (x10_4 < (t218.length : Int)) = true := decide_eq_true c63
               clear c63
               by_cases c64 : 0 ≤ x10_4
               ·rw [if_pos c64] at H
                have c64b0 : decide (0 ≤ x10_4) = true := decide_eq_true c64
                clear c64
                by_cases c65 : (rd t218 x10_4) < 0
                ·rw [if_pos c65] at H
                 have c65b0 : decide ((rd t218 x10_4) < 0) = true := decide_eq_true c65
                 clear c65
                 obtain rfl := Option.some.inj H
                 obtain ⟨Ao66, co66, eo66⟩ := Kd.R_slice HO_8.out
                 subst eo66
                 have p221 : 0 ≤ (x10_4 : Int) := of_decide_eq_true (by first | (with_reducible assumption) | assumption)
                 have q221 : x10_4 < (t218.length : Int) := of_decide_eq_true (by first | (with_reducible assumption) | assumption)
                 obtain ⟨ad221, e221, hx221_0⟩ := Kd.at_int (Kd.R_reads' HO_8.out).2.2 x10_4 p221 q221
                 cases e221
                 replace p221 := eq_true p221
                 replace q221 := eq_true q221
                 go_wp2
                 repeat (go_quiet (fail); try go_wp2)
                 go_ret
                 exact ⟨by first | rfl | (simp [errW_none, errW_some] <;> rfl) | (simp [*, errW_none, errW_some] <;> rfl), by repeat (first | (with_reducible first | exact HB.out | apply below_alloc | apply pw_below_drewN | apply below_drew1 | refine below_set ?_ GE204.out | refine below_set ?_ GE205.out | refine below_set ?_ GE207.out) | exact HB.out)⟩
                ·rw [if_neg c65] at H
                 have c65b0 : decide ((rd t218 x10_4) < 0) = false := decide_eq_false c65
                 clear c65
                 by_cases c67 : (rd t218 x10_4) ≥ (l1_4.length : Int)
                 ·rw [if_pos c67] at H
                  have c67b0 : decide ((l1_4.length : Int) ≤ (rd t218 x10_4)) = true := decide_eq_true c67
                  clear c67
                  obtain rfl := Option.some.inj H
                  obtain ⟨Ao68, co68, eo68⟩ := Kd.R_slice HO_8.out
                  subst eo68
                  have p221 : 0 ≤ (x10_4 : Int) := of_decide_eq_true (by first | (with_reducible assumption) | assumption)
                  have q221 : x10_4 < (t218.length : Int) := of_decide_eq_true (by first | (with_reducible assumption) | assumption)
                  obtain ⟨ad221, e221, hx221_0⟩ := Kd.at_int (Kd.R_reads' HO_8.out).2.2 x10_4 p221 q221
                  cases e221
                  replace p221 := eq_true p221
                  replace q221 := eq_true q221
                  have p222 : 0 ≤ (x10_4 : Int) := of_decide_eq_true (by first | (with_reducible assumption) | assumption)
                  have q222 : x10_4 < (t218.length : Int) := of_decide_eq_true (by first | (with_reducible assumption) | assumption)
                  obtain ⟨ad222, e222, hx222_0⟩ := Kd.at_int (Kd.R_reads' HO_8.out).2.2 x10_4 p222 q222
                  obtain rfl : ad221 = ad222 := (by injection e222)
                  replace p222 := eq_true p222
                  replace q222 := eq_true q222
                  have hnb69 := NB205_204.out
                  have hnc69 := NB204_205.out
                  have hnb70 := NB205_207.out
                  have hnc70 := NB207_205.out
                  have hcz71_0 : wr.cell? ⟨gb205, 0, none⟩ = some (.string a1_0) := (blk_cell BK205.out 0).trans rfl
                  have hcz71_1 : wr.cell? ⟨gb205, 1, none⟩ = some (.int .i64 a1_1) := (blk_cell BK205.out 1).trans rfl
                  have hcz71_2 : wr.cell? ⟨gb205, 2, none⟩ = some (.int .i64 a1_2) := (blk_cell BK205.out 2).trans rfl
                  have hcz71_3 : wr.cell? ⟨gb205, 3, none⟩ = some (.slice A1_3 l1_3.length c1_3) := (blk_cell BK205.out 3).trans rfl
                  have hcz71_4 : wr.cell? ⟨gb205, 4, none⟩ = some (.slice (some ad206) l1_4.length c1_4) := (blk_cell BK205.out 4).trans rfl
                  have hfz71_0 := blk_frozen BK205.out 0
                  have hfz71_1 := blk_frozen BK205.out 1
                  have hfz71_2 := blk_frozen BK205.out 2
                  have hfz71_3 := blk_frozen BK205.out 3
                  have hfz71_4 := blk_frozen BK205.out 4
                  go_wp2
                  repeat (go_quiet (fail); try go_wp2)
                  go_ret
                  exact ⟨by first | rfl | (simp [errW_none, errW_some] <;> rfl) | (simp [*, errW_none, errW_some] <;> rfl), by repeat (first | (with_reducible first | exact HB.out | apply below_alloc | apply pw_below_drewN | apply below_drew1 | refine below_set ?_ GE204.out | refine below_set ?_ GE205.out | refine below_set ?_ GE207.out) | exact HB.out)⟩
                 ·rw [if_neg c67] at H
                  have c67b0 : decide ((l1_4.length : Int) ≤ (rd t218 x10_4)) = false := decide_eq_false c67
                  clear c67
                  have H' := Aside0.mk H
                  clear H
                  obtain ⟨Ao72, co72, eo72⟩ := Kd.R_slice HO_8.out
                  subst eo72
                  have p221 : 0 ≤ (x10_4 : Int) := of_decide_eq_true (by first | (with_reducible assumption) | assumption)
                  have q221 : x10_4 < (t218.length : Int) := of_decide_eq_true (by first | (with_reducible assumption) | assumption)
                  obtain ⟨ad221, e221, hx221_0⟩ := Kd.at_int (Kd.R_reads' HO_8.out).2.2 x10_4 p221 q221
                  cases e221
                  replace p221 := eq_true p221
                  replace q221 := eq_true q221
                  have p222 : 0 ≤ (x10_4 : Int) := of_decide_eq_true (by first | (with_reducible assumption) | assumption)
                  have q222 : x10_4 < (t218.length : Int) := of_decide_eq_true (by first | (with_reducible assumption) | assumption)
                  obtain ⟨ad222, e222, hx222_0⟩ := Kd.at_int (Kd.R_reads' HO_8.out).2.2 x10_4 p222 q222
                  obtain rfl : ad221 = ad222 := (by injection e222)
                  replace p222 := eq_true p222
                  replace q222 := eq_true q222
                  have hnb73 := NB205_204.out
                  have hnc73 := NB204_205.out
                  have hnb74 := NB205_207.out
                  have hnc74 := NB207_205.out
                  have hcz75_0 : wr.cell? ⟨gb205, 0, none⟩ = some (.string a1_0) := (blk_cell BK205.out 0).trans rfl
                  have hcz75_1 : wr.cell? ⟨gb205, 1, none⟩ = some (.int .i64 a1_1) := (blk_cell BK205.out 1).trans rfl
                  have hcz75_2 : wr.cell? ⟨gb205, 2, none⟩ = some (.int .i64 a1_2) := (blk_cell BK205.out 2).trans rfl
                  have hcz75_3 : wr.cell? ⟨gb205, 3, none⟩ = some (.slice A1_3 l1_3.length c1_3) := (blk_cell BK205.out 3).trans rfl
                  have hcz75_4 : wr.cell? ⟨gb205, 4, none⟩ = some (.slice (some ad206) l1_4.length c1_4) := (blk_cell BK205.out 4).trans rfl
                  have hfz75_0 := blk_frozen BK205.out 0
                  have hfz75_1 := blk_frozen BK205.out 1
                  have hfz75_2 := blk_frozen BK205.out 2
                  have hfz75_3 := blk_frozen BK205.out 3
                  have hfz75_4 := blk_frozen BK205.out 4
                  go_wp2
                  repeat (go_quiet (fail); try go_wp2)
                  go_roundg k4
                  case measure => have := HJ5.out; have := HJ24.out; have := HK3.out; have := HK4.out; omega
                  case rel => exact ⟨(wrap64 (x10_4 + 1)), (by first | rfl | (simp; done) | (simp [*]; done)), H', ⟨by have := HJ5.out; have := HJ24.out; have := HK3.out; have := HK4.out; omega⟩, ⟨by (with_reducible repeat (first | apply Kd.R_alloc | apply Kd.R_drewN | apply Kd.R_drew)); exact HO_8.out⟩, ⟨by (with_reducible repeat (first | refine blk_drewN ?_ _ | refine blk_drew ?_ | refine blk_alloc ?_ _)); exact BK204.out⟩, ⟨by (with_reducible repeat (first | refine blk_drewN ?_ _ | refine blk_drew ?_ | refine blk_alloc ?_ _)); exact BK205.out⟩, ⟨by (with_reducible repeat (first | refine blk_drewN ?_ _ | refine blk_drew ?_ | refine blk_alloc ?_ _)); exact BK207.out⟩, ⟨by repeat (first | (with_reducible first | exact HB.out | apply below_alloc | apply pw_below_drewN | apply below_drew1 | refine below_set ?_ GE204.out | refine below_set ?_ GE205.out | refine below_set ?_ GE207.out) | exact HB.out)⟩⟩
               ·rw [if_neg c64] at H
                exact absurd H (by simp)
              ·rw [if_neg c63] at H
               have c63b0 : decide (x10_4 < (t218.length : Int)) = false := decide_eq_false c63
               clear c63
               obtain rfl := Option.some.inj H
               obtain ⟨Ao76, co76, eo76⟩ := Kd.R_slice HO_8.out
               subst eo76
               go_wp2
               repeat (go_quiet (fail); try go_wp2)
               go_ret
               exact ⟨by first | rfl | (simp [errW_none, errW_some] <;> rfl) | (simp [*, errW_none, errW_some] <;> rfl), by repeat (first | (with_reducible first | exact HB.out | apply below_alloc | apply pw_below_drewN | apply below_drew1 | refine below_set ?_ GE204.out | refine below_set ?_ GE205.out | refine below_set ?_ GE207.out) | exact HB.out)⟩
           ·replace c51 := Bool.eq_false_iff.mpr c51
            subst c51
            have H1 : (some 8) = some r := by rw [if_neg (show ¬ (false = true) by decide)] at H; exact H
            clear H
            have H := H1
            clear H1
            obtain rfl := Option.some.inj H
            obtain ⟨Ao77, co77, eo77⟩ := Kd.R_slice HO_8.out
            subst eo77
            have hnb78 := NB204_205.out
            have hnc78 := NB205_204.out
            have hnb79 := NB204_207.out
            have hnc79 := NB207_204.out
            have hcz80_0 : wr.cell? ⟨gb204, 0, none⟩ = some (.slice A0_0 l0_0.length c0_0) := (blk_cell BK204.out 0).trans rfl
            have hcz80_1 : wr.cell? ⟨gb204, 1, none⟩ = some (.slice A0_1 l0_1.length c0_1) := (blk_cell BK204.out 1).trans rfl
            have hcz80_2 : wr.cell? ⟨gb204, 2, none⟩ = some (.int .i64 a0_2) := (blk_cell BK204.out 2).trans rfl
            have hfz80_0 := blk_frozen BK204.out 0
            have hfz80_1 := blk_frozen BK204.out 1
            have hfz80_2 := blk_frozen BK204.out 2
            have hnb81 := NB205_207.out
            have hnc81 := NB207_205.out
            have hcz82_0 : wr.cell? ⟨gb205, 0, none⟩ = some (.string a1_0) := (blk_cell BK205.out 0).trans rfl
            have hcz82_1 : wr.cell? ⟨gb205, 1, none⟩ = some (.int .i64 a1_1) := (blk_cell BK205.out 1).trans rfl
            have hcz82_2 : wr.cell? ⟨gb205, 2, none⟩ = some (.int .i64 a1_2) := (blk_cell BK205.out 2).trans rfl
            have hcz82_3 : wr.cell? ⟨gb205, 3, none⟩ = some (.slice A1_3 l1_3.length c1_3) := (blk_cell BK205.out 3).trans rfl
            have hcz82_4 : wr.cell? ⟨gb205, 4, none⟩ = some (.slice (some ad206) l1_4.length c1_4) := (blk_cell BK205.out 4).trans rfl
            have hfz82_0 := blk_frozen BK205.out 0
            have hfz82_1 := blk_frozen BK205.out 1
            have hfz82_2 := blk_frozen BK205.out 2
            have hfz82_3 := blk_frozen BK205.out 3
            have hfz82_4 := blk_frozen BK205.out 4
            have hcz83_0 : wr.cell? ⟨gb207, 0, none⟩ = some (.int .i64 ((rd_T39 l1_4 a2).f0)) := (blk_cell BK207.out 0).trans rfl
            have hcz83_1 : wr.cell? ⟨gb207, 1, none⟩ = some (.int .i64 ((rd_T39 l1_4 a2).f1)) := (blk_cell BK207.out 1).trans rfl
            have hcz83_2 : wr.cell? ⟨gb207, 2, none⟩ = some (.int .i64 ((rd_T39 l1_4 a2).f2)) := (blk_cell BK207.out 2).trans rfl
            have hcz83_3 : wr.cell? ⟨gb207, 3, none⟩ = some (.int .i64 ((rd_T39 l1_4 a2).f3)) := (blk_cell BK207.out 3).trans rfl
            have hcz83_4 : wr.cell? ⟨gb207, 4, none⟩ = some (.int .i64 ((rd_T39 l1_4 a2).f4)) := (blk_cell BK207.out 4).trans rfl
            have hcz83_5 : wr.cell? ⟨gb207, 5, none⟩ = some (.int .i64 ((rd_T39 l1_4 a2).f5)) := (blk_cell BK207.out 5).trans rfl
            have hcz83_6 : wr.cell? ⟨gb207, 6, none⟩ = some (.string ((rd_T39 l1_4 a2).f6)) := (blk_cell BK207.out 6).trans rfl
            have hcz83_7 : wr.cell? ⟨gb207, 7, none⟩ = some (.slice A206_7 ((rd_T39 l1_4 a2).f7).length c206_7) := (blk_cell BK207.out 7).trans rfl
            have hfz83_0 := blk_frozen BK207.out 0
            have hfz83_1 := blk_frozen BK207.out 1
            have hfz83_2 := blk_frozen BK207.out 2
            have hfz83_3 := blk_frozen BK207.out 3
            have hfz83_4 := blk_frozen BK207.out 4
            have hfz83_5 := blk_frozen BK207.out 5
            have hfz83_6 := blk_frozen BK207.out 6
            have hfz83_7 := blk_frozen BK207.out 7
            go_wp2_with (first | (go_at_call 22; (with_reducible refine (crosstreeref08_Others.calls k3 _ _ l0_0 _ _ l0_1 a0_2 a1_0 a1_1 a1_2 _ _ l1_3 _ _ l1_4 ((rd_T39 l1_4 a2).f0) ((rd_T39 l1_4 a2).f1) ((rd_T39 l1_4 a2).f2) ((rd_T39 l1_4 a2).f3) ((rd_T39 l1_4 a2).f4) ((rd_T39 l1_4 a2).f5) ((rd_T39 l1_4 a2).f6) _ _ ((rd_T39 l1_4 a2).f7) false _ ?side1 ?side2 ?side3 ?side4 ?side5 ?side6 ?side7 ?side8 ?side9 ?side10 A50.out).mono ?_); (case side1 => repeat (first | exact (Kd.C_below HR0_0.out HB.out) | (with_reducible refine Kd.C_alloc ?_ _) | (with_reducible refine Kd.C_drewN ?_ _) | (with_reducible refine Kd.C_drew ?_))); (case side2 => exact HC0_0.out); (case side3 => repeat (first | exact (Kd.C_below HR0_1.out HB.out) | (with_reducible refine Kd.C_alloc ?_ _) | (with_reducible refine Kd.C_drewN ?_ _) | (with_reducible refine Kd.C_drew ?_))); (case side4 => exact HC0_1.out); (case side5 => repeat (first | exact (Kd.C_below HR1_3.out HB.out) | (with_reducible refine Kd.C_alloc ?_ _) | (with_reducible refine Kd.C_drewN ?_ _) | (with_reducible refine Kd.C_drew ?_))); (case side6 => exact HC1_3.out); (case side7 => repeat (first | exact (Kd.C_below HR1_4.out HB.out) | (with_reducible refine Kd.C_alloc ?_ _) | (with_reducible refine Kd.C_drewN ?_ _) | (with_reducible refine Kd.C_drew ?_))); (case side8 => exact HC1_4.out); (case side9 => repeat (first | exact (Kd.C_below HR206_7.out HB.out) | (with_reducible refine Kd.C_alloc ?_ _) | (with_reducible refine Kd.C_drewN ?_ _) | (with_reducible refine Kd.C_drew ?_))); (case side10 => exact HC206_7.out); rintro e w84 ⟨rfl, hb⟩; have n0_ := Aside0.mk (Kd.R_below (by (with_reducible repeat (first | apply Kd.R_alloc | apply Kd.R_drewN | apply Kd.R_drew)); exact HO_8.out) hb); have n1_ := Aside0.mk (blk_below (g := gb204) (o := .cells #[.slice A0_0 l0_0.length c0_0, .slice A0_1 l0_1.length c0_1, .int .i64 a0_2] 25 (0, 0)) (by (with_reducible repeat (first | refine blk_drewN ?_ _ | refine blk_drew ?_ | refine blk_alloc ?_ _)); exact BK204.out) hb); have n2_ := Aside0.mk (blk_below (g := gb205) (o := .cells #[.string a1_0, .int .i64 a1_1, .int .i64 a1_2, .slice A1_3 l1_3.length c1_3, .slice (some ad206) l1_4.length c1_4] 36 (0, 0)) (by (with_reducible repeat (first | refine blk_drewN ?_ _ | refine blk_drew ?_ | refine blk_alloc ?_ _)); exact BK205.out) hb); have n3_ := Aside0.mk (blk_below (g := gb207) (o := .cells #[.int .i64 ((rd_T39 l1_4 a2).f0), .int .i64 ((rd_T39 l1_4 a2).f1), .int .i64 ((rd_T39 l1_4 a2).f2), .int .i64 ((rd_T39 l1_4 a2).f3), .int .i64 ((rd_T39 l1_4 a2).f4), .int .i64 ((rd_T39 l1_4 a2).f5), .string ((rd_T39 l1_4 a2).f6), .slice A206_7 ((rd_T39 l1_4 a2).f7).length c206_7] 39 (0, 0)) (by (with_reducible repeat (first | refine blk_drewN ?_ _ | refine blk_drew ?_ | refine blk_alloc ?_ _)); exact BK207.out) hb); have n4_ := Aside0.mk (below_step (by repeat (first | (with_reducible first | exact HB.out | apply below_alloc | apply pw_below_drewN | apply below_drew1 | refine below_set ?_ GE204.out | refine below_set ?_ GE205.out | refine below_set ?_ GE207.out) | exact HB.out)) hb); clear HO_8; clear BK204; clear BK205; clear BK207; clear HB; have HO_8 := n0_; have BK204 := n1_; have BK205 := n2_; have BK207 := n3_; have HB := n4_; clear n0_ n1_ n2_ n3_ n4_; (try clear hb); (try clear hb2); (try clear hk); (try clear hi)))
            repeat (go_quiet (first | (go_at_call 22; (with_reducible refine (crosstreeref08_Others.calls k3 _ _ l0_0 _ _ l0_1 a0_2 a1_0 a1_1 a1_2 _ _ l1_3 _ _ l1_4 ((rd_T39 l1_4 a2).f0) ((rd_T39 l1_4 a2).f1) ((rd_T39 l1_4 a2).f2) ((rd_T39 l1_4 a2).f3) ((rd_T39 l1_4 a2).f4) ((rd_T39 l1_4 a2).f5) ((rd_T39 l1_4 a2).f6) _ _ ((rd_T39 l1_4 a2).f7) false _ ?side1 ?side2 ?side3 ?side4 ?side5 ?side6 ?side7 ?side8 ?side9 ?side10 A50.out).mono ?_); (case side1 => repeat (first | exact (Kd.C_below HR0_0.out HB.out) | (with_reducible refine Kd.C_alloc ?_ _) | (with_reducible refine Kd.C_drewN ?_ _) | (with_reducible refine Kd.C_drew ?_))); (case side2 => exact HC0_0.out); (case side3 => repeat (first | exact (Kd.C_below HR0_1.out HB.out) | (with_reducible refine Kd.C_alloc ?_ _) | (with_reducible refine Kd.C_drewN ?_ _) | (with_reducible refine Kd.C_drew ?_))); (case side4 => exact HC0_1.out); (case side5 => repeat (first | exact (Kd.C_below HR1_3.out HB.out) | (with_reducible refine Kd.C_alloc ?_ _) | (with_reducible refine Kd.C_drewN ?_ _) | (with_reducible refine Kd.C_drew ?_))); (case side6 => exact HC1_3.out); (case side7 => repeat (first | exact (Kd.C_below HR1_4.out HB.out) | (with_reducible refine Kd.C_alloc ?_ _) | (with_reducible refine Kd.C_drewN ?_ _) | (with_reducible refine Kd.C_drew ?_))); (case side8 => exact HC1_4.out); (case side9 => repeat (first | exact (Kd.C_below HR206_7.out HB.out) | (with_reducible refine Kd.C_alloc ?_ _) | (with_reducible refine Kd.C_drewN ?_ _) | (with_reducible refine Kd.C_drew ?_))); (case side10 => exact HC206_7.out); rintro e w84 ⟨rfl, hb⟩; have n0_ := Aside0.mk (Kd.R_below (by (with_reducible repeat (first | apply Kd.R_alloc | apply Kd.R_drewN | apply Kd.R_drew)); exact HO_8.out) hb); have n1_ := Aside0.mk (blk_below (g := gb204) (o := .cells #[.slice A0_0 l0_0.length c0_0, .slice A0_1 l0_1.length c0_1, .int .i64 a0_2] 25 (0, 0)) (by (with_reducible repeat (first | refine blk_drewN ?_ _ | refine blk_drew ?_ | refine blk_alloc ?_ _)); exact BK204.out) hb); have n2_ := Aside0.mk (blk_below (g := gb205) (o := .cells #[.string a1_0, .int .i64 a1_1, .int .i64 a1_2, .slice A1_3 l1_3.length c1_3, .slice (some ad206) l1_4.length c1_4] 36 (0, 0)) (by (with_reducible repeat (first | refine blk_drewN ?_ _ | refine blk_drew ?_ | refine blk_alloc ?_ _)); exact BK205.out) hb); have n3_ := Aside0.mk (blk_below (g := gb207) (o := .cells #[.int .i64 ((rd_T39 l1_4 a2).f0), .int .i64 ((rd_T39 l1_4 a2).f1), .int .i64 ((rd_T39 l1_4 a2).f2), .int .i64 ((rd_T39 l1_4 a2).f3), .int .i64 ((rd_T39 l1_4 a2).f4), .int .i64 ((rd_T39 l1_4 a2).f5), .string ((rd_T39 l1_4 a2).f6), .slice A206_7 ((rd_T39 l1_4 a2).f7).length c206_7] 39 (0, 0)) (by (with_reducible repeat (first | refine blk_drewN ?_ _ | refine blk_drew ?_ | refine blk_alloc ?_ _)); exact BK207.out) hb); have n4_ := Aside0.mk (below_step (by repeat (first | (with_reducible first | exact HB.out | apply below_alloc | apply pw_below_drewN | apply below_drew1 | refine below_set ?_ GE204.out | refine below_set ?_ GE205.out | refine below_set ?_ GE207.out) | exact HB.out)) hb); clear HO_8; clear BK204; clear BK205; clear BK207; clear HB; have HO_8 := n0_; have BK204 := n1_; have BK205 := n2_; have BK207 := n3_; have HB := n4_; clear n0_ n1_ n2_ n3_ n4_; (try clear hb); (try clear hb2); (try clear hk); (try clear hi))); try go_wp2_with (first | (go_at_call 22; (with_reducible refine (crosstreeref08_Others.calls k3 _ _ l0_0 _ _ l0_1 a0_2 a1_0 a1_1 a1_2 _ _ l1_3 _ _ l1_4 ((rd_T39 l1_4 a2).f0) ((rd_T39 l1_4 a2).f1) ((rd_T39 l1_4 a2).f2) ((rd_T39 l1_4 a2).f3) ((rd_T39 l1_4 a2).f4) ((rd_T39 l1_4 a2).f5) ((rd_T39 l1_4 a2).f6) _ _ ((rd_T39 l1_4 a2).f7) false _ ?side1 ?side2 ?side3 ?side4 ?side5 ?side6 ?side7 ?side8 ?side9 ?side10 A50.out).mono ?_); (case side1 => repeat (first | exact (Kd.C_below HR0_0.out HB.out) | (with_reducible refine Kd.C_alloc ?_ _) | (with_reducible refine Kd.C_drewN ?_ _) | (with_reducible refine Kd.C_drew ?_))); (case side2 => exact HC0_0.out); (case side3 => repeat (first | exact (Kd.C_below HR0_1.out HB.out) | (with_reducible refine Kd.C_alloc ?_ _) | (with_reducible refine Kd.C_drewN ?_ _) | (with_reducible refine Kd.C_drew ?_))); (case side4 => exact HC0_1.out); (case side5 => repeat (first | exact (Kd.C_below HR1_3.out HB.out) | (with_reducible refine Kd.C_alloc ?_ _) | (with_reducible refine Kd.C_drewN ?_ _) | (with_reducible refine Kd.C_drew ?_))); (case side6 => exact HC1_3.out); (case side7 => repeat (first | exact (Kd.C_below HR1_4.out HB.out) | (with_reducible refine Kd.C_alloc ?_ _) | (with_reducible refine Kd.C_drewN ?_ _) | (with_reducible refine Kd.C_drew ?_))); (case side8 => exact HC1_4.out); (case side9 => repeat (first | exact (Kd.C_below HR206_7.out HB.out) | (with_reducible refine Kd.C_alloc ?_ _) | (with_reducible refine Kd.C_drewN ?_ _) | (with_reducible refine Kd.C_drew ?_))); (case side10 => exact HC206_7.out); rintro e w84 ⟨rfl, hb⟩; have n0_ := Aside0.mk (Kd.R_below (by (with_reducible repeat (first | apply Kd.R_alloc | apply Kd.R_drewN | apply Kd.R_drew)); exact HO_8.out) hb); have n1_ := Aside0.mk (blk_below (g := gb204) (o := .cells #[.slice A0_0 l0_0.length c0_0, .slice A0_1 l0_1.length c0_1, .int .i64 a0_2] 25 (0, 0)) (by (with_reducible repeat (first | refine blk_drewN ?_ _ | refine blk_drew ?_ | refine blk_alloc ?_ _)); exact BK204.out) hb); have n2_ := Aside0.mk (blk_below (g := gb205) (o := .cells #[.string a1_0, .int .i64 a1_1, .int .i64 a1_2, .slice A1_3 l1_3.length c1_3, .slice (some ad206) l1_4.length c1_4] 36 (0, 0)) (by (with_reducible repeat (first | refine blk_drewN ?_ _ | refine blk_drew ?_ | refine blk_alloc ?_ _)); exact BK205.out) hb); have n3_ := Aside0.mk (blk_below (g := gb207) (o := .cells #[.int .i64 ((rd_T39 l1_4 a2).f0), .int .i64 ((rd_T39 l1_4 a2).f1), .int .i64 ((rd_T39 l1_4 a2).f2), .int .i64 ((rd_T39 l1_4 a2).f3), .int .i64 ((rd_T39 l1_4 a2).f4), .int .i64 ((rd_T39 l1_4 a2).f5), .string ((rd_T39 l1_4 a2).f6), .slice A206_7 ((rd_T39 l1_4 a2).f7).length c206_7] 39 (0, 0)) (by (with_reducible repeat (first | refine blk_drewN ?_ _ | refine blk_drew ?_ | refine blk_alloc ?_ _)); exact BK207.out) hb); have n4_ := Aside0.mk (below_step (by repeat (first | (with_reducible first | exact HB.out | apply below_alloc | apply pw_below_drewN | apply below_drew1 | refine below_set ?_ GE204.out | refine below_set ?_ GE205.out | refine below_set ?_ GE207.out) | exact HB.out)) hb); clear HO_8; clear BK204; clear BK205; clear BK207; clear HB; have HO_8 := n0_; have BK204 := n1_; have BK205 := n2_; have BK207 := n3_; have HB := n4_; clear n0_ n1_ n2_ n3_ n4_; (try clear hb); (try clear hb2); (try clear hk); (try clear hi))))
            go_ret
            exact ⟨by first | rfl | (simp [errW_none, errW_some] <;> rfl) | (simp [*, errW_none, errW_some] <;> rfl), by repeat (first | (with_reducible first | exact HB.out | apply below_alloc | apply pw_below_drewN | apply below_drew1 | refine below_set ?_ GE204.out | refine below_set ?_ GE205.out | refine below_set ?_ GE207.out) | exact HB.out)⟩
  ·rw [if_neg c5] at H
   exact absurd H (by simp)
 ·rw [if_neg c4] at H
  exact absurd H (by simp)
end Go.Proofs.YtmiacdacebaagaaDoor.G
set_option linter.unusedVariables false
set_option linter.unusedSimpArgs false
namespace Go.Proofs.YtmiacdacebaagaaDoor.G
open Go.RowKit Go.Proofs.YtmiacdacebaagaaDoor.B Go.Proofs.YtmiacdacebaagaaDoorW.PrintWords Go.Proofs.YtmiacdacebaagaaDoorW.PrintLast Go.Proofs.YtmiacdacebaagaaDoorW.PrintMore
def badR (m r : Int) : Bool := decide (r < 0) || decide (m ≤ r)
def nextS (i : S39) (pc : Int) : List Int := if i.f0 = 19 then [] else if i.f0 = 17 then [i.f5] else if i.f0 = 18 then (if i.f5 = wrap64 (pc + 1) then [wrap64 (pc + 1)] else [wrap64 (pc + 1), i.f5]) else [wrap64 (pc + 1)]
def readsI (i : S39) : List Int := readsS i.f1 i.f2 i.f3 i.f7 (rowS i.f0).data.toList
def wrongA (p : PV) (f : S36) (i : S39) : Bool := (readsI i).any (badR f.f1) || (wr i.f0 && badR f.f1 i.f1) || !fitsS p i
def wrongB (f : S36) (i : S39) (pc : Int) : Bool := ((i.f0 == 17 || i.f0 == 18) && badR f.f4.length i.f5) || (nextS i pc).any (badR f.f4.length)
def insnS (p : PV) (f : S36) (pc : Int) : Int :=
  if (rd_T39 f.f4 pc).f0 < 1 ∨ 20 < (rd_T39 f.f4 pc).f0 then 1 else if wrongA p f (rd_T39 f.f4 pc) = true then 8 else if wrongB f (rd_T39 f.f4 pc) pc = true then 8 else 0
def badSize (f : S36) : Bool := decide (4000 < f.f4.length) || (f.f4.length == 0 || (decide (4000 < f.f1) || (decide (f.f1 < f.f2) || decide (f.f2 < 0))))
def localOk (p : PV) (n s : Int) : Bool := kindS p.sites s == 2 && (rd_T48 p.sites s).f2 == n
def codeS (p : PV) (f : S36) : Nat → Nat → Int × Int
  | 0, _ => (0, 0)
  | d + 1, pc => if insnS p f pc = 0 then codeS p f d (pc + 1) else ((pc : Int), insnS p f pc)
def fnS (p : PV) (n : Int) : Int × Int :=
  if badSize (rd_T36 p.fns n) = true then (0, 5) else if (rd_T36 p.fns n).f3.all (localOk p n) = true then codeS p (rd_T36 p.fns n) (rd_T36 p.fns n).f4.length 0 else (0, 8)
def fnsS (p : PV) : Nat → Nat → Int × Int × Int
  | 0, _ => (0, 0, 0)
  | d + 1, n => if (fnS p n).2 = 0 then fnsS p d (n + 1) else ((n : Int), (fnS p n).1, (fnS p n).2)
def sitesS (p : PV) : Nat → Nat → Bool
  | 0, _ => true
  | d + 1, n => if ((rd_T48 p.sites n).f0 == 4) = decide ((n : Int) < p.fns.length) then sitesS p d (n + 1) else false
def chkS (p : PV) : Int × Int × Int :=
  if 200 < p.fns.length ∨ 600 < p.sites.length then (0, 0, 5)
  else if p.main < 0 ∨ (p.fns.length : Int) ≤ p.main ∨ p.sites.length < p.fns.length then (0, 0, 8)
  else if sitesS p p.sites.length 0 = true then fnsS p p.fns.length 0 else (0, 0, 8)
theorem le_mono {β : Type} {g : Nat → Option β} (h : ∀ k, LeO (g k) (g (k + 1))) {m : Nat} {r : β} (hr : g m = some r) : ∀ k, m ≤ k → g k = some r := by
  intro k hk
  obtain ⟨d, rfl⟩ : ∃ d, k = m + d := ⟨k - m, by omega⟩
  clear hk
  induction d with
  | zero => exact hr
  | succ d ih => exact h _ _ ih
theorem sign_l0 (l : List ByteArray) (s : ByteArray) (hl : l.length ≤ 1000) : ∀ (d i : Nat), l.length - i = d → i ≤ l.length → crosstreeref08_sign.l0 (d + 1) l s (i : Int) = some (decide (s.toList ∈ (l.drop i).map ByteArray.toList)) := by
  intro d
  induction d with
  | zero =>
    intro i h1 h2
    unfold crosstreeref08_sign.l0
    rw [if_neg (by omega), List.drop_eq_nil_of_le (by omega)]
    simp
  | succ d ih =>
    intro i h1 h2
    have hlt : i < l.length := by omega
    unfold crosstreeref08_sign.l0
    have hr : rdOf ByteArray.empty l (i : Int) = l[i] := by unfold rdOf; rw [Int.toNat_natCast, List.getD_eq_getElem?_getD, List.getElem?_eq_getElem hlt]; rfl
    rw [if_pos (by omega), if_pos (by omega), hr, List.drop_eq_getElem_cons hlt, List.map_cons]
    by_cases he : l[i].toList = s.toList
    · rw [if_pos he, he]
      simp
    · rw [if_neg he, w64 (x := (i : Int) + 1) (by omega) (by omega), show (i : Int) + 1 = ((i + 1 : Nat) : Int) by omega, ih (i + 1) (by omega) (by omega)]
      have : s.toList ≠ l[i].toList := fun h => he h.symm
      simp [this]
theorem sign_f (k : Nat) (l : List ByteArray) (s : ByteArray) (hl : l.length ≤ 1000) (hk : l.length < k) : crosstreeref08_sign.f k l s = some (decide (s.toList ∈ l.map ByteArray.toList)) := by
  refine le_mono (g := fun k => crosstreeref08_sign.f k l s) (crosstreeref08_sign.mono l s) (m := l.length + 1) ?_ k (by omega)
  have := sign_l0 l s hl l.length 0 (by omega) (Nat.zero_le _)
  rw [show ((0 : Nat) : Int) = 0 from rfl, List.drop_zero] at this
  exact this
theorem refOthers_ok (p : PV) (f : S36) (i : S39) (k : Nat) (hk : 100 ≤ k) :
    crosstreeref08_Others.f k p.sites p.fns p.main f.f0 f.f1 f.f2 f.f3 f.f4 i.f0 i.f1 i.f2 i.f3 i.f4 i.f5 i.f6 i.f7 = some (fitsS p i && !((i.f0 == 17 || i.f0 == 18) && badR f.f4.length i.f5)) := by
  obtain ⟨op, a, b, c, wd, n, sg, l⟩ := i
  obtain ⟨k, rfl⟩ : ∃ j, k = j + 1 := ⟨k - 1, by omega⟩
  unfold crosstreeref08_Others.f
  simp only []
  by_cases o2 : op = 2
  · subst o2
    rw [if_pos rfl, rkind_f]
    simp [fitsS]
  rw [if_neg o2]
  by_cases o5 : op = 5
  · subst o5
    rw [if_pos rfl]
    have h := sign_f (k + 1) signT sg (by decide) (by show 16 < _; omega)
    rw [signT_list] at h
    show (crosstreeref08_sign.f (k + 1) signT sg).bind _ = _
    rw [h]
    simp [fitsS]
  rw [if_neg o5]
  by_cases o6 : op = 6
  · subst o6
    rw [if_pos rfl]
    rw [sign_f (k + 1) _ sg (by decide) (by show 2 < _; omega)]
    by_cases e1 : sg.data.toList = [45] <;> by_cases e2 : sg.data.toList = [126] <;> simp [fitsS, bytes_toList, e1, e2]
  rw [if_neg o6]
  by_cases o7 : op = 7
  · subst o7
    simp only [crosstreeref08_Others.j0]
    by_cases w1 : wd = 1
    · subst w1; simp [fitsS]
    have v1 : (wd == 1) = false := beq_eq_false_iff_ne.mpr w1
    by_cases w4 : wd = 4
    · subst w4; simp [fitsS]
    simp [fitsS, v1, w1, w4]
  rw [if_neg o7]
  by_cases o8 : op = 8
  · subst o8
    simp only [crosstreeref08_Others.j0]
    by_cases w1 : wd = 1
    · subst w1; simp [fitsS]
    have v1 : (wd == 1) = false := beq_eq_false_iff_ne.mpr w1
    by_cases w4 : wd = 4
    · subst w4; simp [fitsS]
    simp [fitsS, v1, w1, w4]
  rw [if_neg o8]
  simp only [crosstreeref08_Others.j0]
  by_cases o9 : op = 9
  · subst o9
    by_cases w1 : wd = 1
    · subst w1; simp [fitsS]
    have v1 : (wd == 1) = false := beq_eq_false_iff_ne.mpr w1
    by_cases w4 : wd = 4
    · subst w4; simp [fitsS]
    simp [fitsS, v1, w1, w4]
  rw [if_neg (by simp [o9])]
  by_cases o10 : op = 10
  · subst o10
    by_cases h : 0 ≤ n <;> simp [fitsS, h]
  rw [if_neg o10]
  by_cases o13 : op = 13
  · subst o13
    rw [if_pos rfl, rkind_f]
    by_cases h : 0 ≤ n
    · by_cases h2 : n < p.sites.length
      · simp [fitsS, h, h2]
      · have : kindS p.sites n = 0 := by unfold kindS; rw [if_pos (by omega)]
        simp [fitsS, h, h2, this]
    · have : kindS p.sites n = 0 := by unfold kindS; rw [if_pos (by omega)]
      simp [fitsS, h, this]
  rw [if_neg o13]
  by_cases o15 : op = 15
  · subst o15
    by_cases h : 0 ≤ n
    · by_cases h2 : n < p.fns.length
      · simp [fitsS, h, h2]
      · simp [fitsS, h, h2]
    · simp [fitsS, h]
  rw [if_neg o15]
  by_cases o16 : op = 16
  · subst o16
    simp [fitsS]
    omega
  rw [if_neg o16]
  by_cases o17 : op = 17
  · subst o17
    by_cases h : 0 ≤ n
    · by_cases h2 : n < f.f4.length <;> simp [fitsS, badR, h, h2] <;> omega
    · simp [fitsS, badR, h]
      skip
  rw [if_neg o17]
  by_cases o18 : op = 18
  · subst o18
    by_cases h : 0 ≤ n
    · by_cases h2 : n < f.f4.length <;> simp [fitsS, badR, h, h2] <;> omega
    · simp [fitsS, badR, h]
      skip
  rw [if_neg o18]
  simp [fitsS, *]
theorem rd_at (l : List Int) (i : Nat) (h : i < l.length) : rd l (i : Int) = l[i] := by
  unfold rd
  rw [Int.toNat_natCast, List.getD_eq_getElem?_getD, List.getElem?_eq_getElem h]
  rfl
theorem insn_l1 (f : S36) (l : List Int) (hl : l.length ≤ 100000000000000000) : ∀ (d i k : Nat), l.length - i = d → i ≤ l.length → d < k → crosstreeref08_Insn.l1 k l (i : Int) f.f0 f.f1 f.f2 f.f3 f.f4 = some (if (l.drop i).any (badR f.f4.length) = true then 8 else 0) := by
  intro d
  induction d with
  | zero =>
    intro i k h1 h2 h3
    obtain ⟨k, rfl⟩ : ∃ j, k = j + 1 := ⟨k - 1, by omega⟩
    unfold crosstreeref08_Insn.l1
    rw [if_neg (by omega), List.drop_eq_nil_of_le (by omega)]
    rfl
  | succ d ih =>
    intro i k h1 h2 h3
    obtain ⟨k, rfl⟩ : ∃ j, k = j + 1 := ⟨k - 1, by omega⟩
    have hlt : i < l.length := by omega
    unfold crosstreeref08_Insn.l1
    rw [if_pos (by omega), if_pos (by omega), rd_at l i hlt, List.drop_eq_getElem_cons hlt, List.any_cons]
    by_cases h4 : l[i] < 0
    · rw [if_pos h4]; simp [badR, h4]
    · rw [if_neg h4]
      by_cases h5 : l[i] ≥ (f.f4.length : Int)
      · rw [if_pos h5]; simp [badR, h5]
      · rw [if_neg h5, w64 (x := (i : Int) + 1) (by omega) (by omega), show (i : Int) + 1 = ((i + 1 : Nat) : Int) by omega, ih (i + 1) k (by omega) (by omega) (by omega)]
        have : badR f.f4.length l[i] = false := by simp [badR]; omega
        rw [this, Bool.false_or]
theorem refNext_ok (i : S39) (pc : Int) : crosstreeref08_Next.f i.f0 i.f1 i.f2 i.f3 i.f4 i.f5 i.f6 i.f7 pc = some (nextS i pc) := by
  unfold crosstreeref08_Next.f nextS
  split
  · rfl
  split
  · rfl
  split
  · split <;> rfl
  · rfl
theorem next_len (i : S39) (pc : Int) : (nextS i pc).length ≤ 2 := by
  unfold nextS
  repeat' split
  all_goals simp
theorem insn_l0 (p : PV) (f : S36) (i : S39) (pc : Int) (l : List Int) (hl : l.length ≤ 100000000000000000) : ∀ (d j k : Nat), l.length - j = d → j ≤ l.length → d + 200 < k →
    crosstreeref08_Insn.l0 k pc l (j : Int) p.sites p.fns p.main f.f0 f.f1 f.f2 f.f3 f.f4 i.f0 i.f1 i.f2 i.f3 i.f4 i.f5 i.f6 i.f7 = some (if ((l.drop j).any (badR f.f1) || !fitsS p i) = true then 8 else if wrongB f i pc = true then 8 else 0) := by
  intro d
  induction d with
  | zero =>
    intro j k h1 h2 h3
    obtain ⟨k, rfl⟩ : ∃ j, k = j + 1 := ⟨k - 1, by omega⟩
    unfold crosstreeref08_Insn.l0
    rw [if_neg (by omega), List.drop_eq_nil_of_le (by omega), refOthers_ok p f i k (by omega), Option.bind_some, refNext_ok, Option.bind_some]
    have h4 := insn_l1 f (nextS i pc) (Nat.le_trans (next_len i pc) (by decide)) _ 0 k rfl (Nat.zero_le _) (by have := next_len i pc; omega)
    rw [show ((0 : Nat) : Int) = 0 from rfl, List.drop_zero] at h4
    rw [h4]
    unfold wrongB
    cases fitsS p i <;> cases ((i.f0 == 17 || i.f0 == 18) && badR f.f4.length i.f5) <;> simp
  | succ d ih =>
    intro j k h1 h2 h3
    obtain ⟨k, rfl⟩ : ∃ j, k = j + 1 := ⟨k - 1, by omega⟩
    have hlt : j < l.length := by omega
    unfold crosstreeref08_Insn.l0
    rw [if_pos (by omega), if_pos (by omega), rd_at l j hlt, List.drop_eq_getElem_cons hlt, List.any_cons]
    by_cases h4 : l[j] < 0
    · rw [if_pos h4]; simp [badR, h4]
    · rw [if_neg h4]
      by_cases h5 : l[j] ≥ f.f1
      · rw [if_pos h5]; simp [badR, h5]
      · rw [if_neg h5, w64 (x := (j : Int) + 1) (by omega) (by omega), show (j : Int) + 1 = ((j + 1 : Nat) : Int) by omega, ih (j + 1) k (by omega) (by omega) (by omega)]
        have : badR f.f1 l[j] = false := by simp [badR]; omega
        rw [this, Bool.false_or]
theorem readsS_len (op a b c : Int) (l : List Int) : (readsS a b c l (rowS op).data.toList).length ≤ l.length + 3 := by
  by_cases h : 1 ≤ op ∧ op ≤ 20
  · rcases ops_cases h.1 h.2 with rfl | rfl | rfl | rfl | rfl | rfl | rfl | rfl | rfl | rfl | rfl | rfl | rfl | rfl | rfl | rfl | rfl | rfl | rfl | rfl
    all_goals by_cases e : a = -1
    all_goals simp [rowS, readsS, stepR, e]
  · have hs : rowS op = ⟨#[]⟩ := by unfold rowS; rw [if_pos (by omega)]
    rw [hs]
    simp [readsS]
theorem reads_len (i : S39) : (readsI i).length ≤ i.f7.length + 3 := readsS_len _ _ _ _ _
theorem refInsn_ok (p : PV) (f : S36) (pc : Int) (k : Nat) (h0 : 0 ≤ pc) (h1 : pc < f.f4.length) (hl : (rd_T39 f.f4 pc).f7.length * 8 ≤ 140737488351232) (hk : 3 * ((rd_T39 f.f4 pc).f7.length + 1) + 300 ≤ k) :
    crosstreeref08_Insn.f k p.sites p.fns p.main f.f0 f.f1 f.f2 f.f3 f.f4 pc = some (insnS p f pc) := by
  unfold crosstreeref08_Insn.f insnS
  generalize hi : rd_T39 f.f4 pc = i at hl hk ⊢
  obtain ⟨k, rfl⟩ : ∃ j, k = j + 2 := ⟨k - 2, by omega⟩
  rw [if_pos h0, if_pos h1]
  by_cases h2 : i.f0 < 1
  · rw [if_pos h2]
    simp [crosstreeref08_Insn.j0, h2]
  · rw [if_neg h2]
    by_cases h3 : i.f0 > 20
    · simp [crosstreeref08_Insn.j0, h3]
    · rw [decide_eq_false h3, if_neg (by omega)]
      rw [crosstreeref08_Insn.j0]
      have hR : crosstreeref08_Reads.f (k + 1) i.f0 i.f1 i.f2 i.f3 i.f4 i.f5 i.f6 i.f7 = some (readsI i) :=
        le_mono (g := fun k => crosstreeref08_Reads.f k i.f0 i.f1 i.f2 i.f3 i.f4 i.f5 i.f6 i.f7) (crosstreeref08_Reads.mono _ _ _ _ _ _ _ _) (m := 6) (refReads_ok _ _ _ _ _ _ _ _ hl) _ (by omega)
      have hrl := reads_len i
      rw [if_neg (by simp), hR, Option.bind_some, refwrites_ok, Option.bind_some]
      unfold wrongA
      cases hw : wr i.f0 with
      | true =>
        rw [if_pos rfl, if_pos (by omega)]
        rw [crosstreeref08_Insn.j1]
        have h4 := insn_l0 p f i pc (readsI i ++ [i.f1]) (by simp; omega) _ 0 k rfl (Nat.zero_le _) (by simp; omega)
        rw [show ((0 : Nat) : Int) = 0 from rfl, List.drop_zero] at h4
        rw [h4]
        simp [List.any_append]
      | false =>
        rw [if_neg (by simp)]
        rw [crosstreeref08_Insn.j1]
        have h4 := insn_l0 p f i pc (readsI i) (by omega) _ 0 k rfl (Nat.zero_le _) (by omega)
        rw [show ((0 : Nat) : Int) = 0 from rfl, List.drop_zero] at h4
        rw [h4]
        simp
end Go.Proofs.YtmiacdacebaagaaDoor.G
set_option linter.unusedVariables false
set_option linter.unusedSimpArgs false
namespace Go.Proofs.YtmiacdacebaagaaDoor.G
open Go.RowKit Go.Proofs.YtmiacdacebaagaaDoor.B Go.Proofs.YtmiacdacebaagaaDoorW.PrintWords Go.Proofs.YtmiacdacebaagaaDoorW.PrintLast Go.Proofs.YtmiacdacebaagaaDoorW.PrintMore
theorem cell5 {W : World} {g t : Nat} {a b c d e : Value} (h : W.heap[g]? = some (.cells #[a, b, c, d, e] t (0, 0))) :
  W.cell? ⟨g, 0, none⟩ = some a ∧ W.cell? ⟨g, 1, none⟩ = some b ∧ W.cell? ⟨g, 2, none⟩ = some c ∧ W.cell? ⟨g, 3, none⟩ = some d ∧ W.cell? ⟨g, 4, none⟩ = some e :=
 ⟨(blk_cell h 0).trans rfl, (blk_cell h 1).trans rfl, (blk_cell h 2).trans rfl, (blk_cell h 3).trans rfl, (blk_cell h 4).trans rfl⟩
theorem next_c (i : S39) (A : Option Addr) (c : Nat) (pc : Int) (w : World) (hC : Kd.C (Kd.int .i64) w A i.f7.length i.f7) (hc : i.f7.length ≤ c) :
  Calls Tryd.prog 11 #[.agg #[.int .i64 i.f0, .int .i64 i.f1, .int .i64 i.f2, .int .i64 i.f3, .int .i64 i.f4, .int .i64 i.f5, .string i.f6, .slice A i.f7.length c], .int .i64 pc] w fun e w' => ∃ A1 c1, e = .returned (.slice A1 (nextS i pc).length c1) ∧ (nextS i pc).length ≤ c1 ∧ Kd.C (Kd.int .i64) w' A1 (nextS i pc).length (nextS i pc) ∧ Below w.heap.size w w' :=
 next_calls i.f0 i.f1 i.f2 i.f3 i.f4 i.f5 i.f6 A c i.f7 pc w hC hc (nextS i pc) (refNext_ok i pc)
theorem readsI_c (i : S39) (A : Option Addr) (c : Nat) (w : World) (hC : Kd.C (Kd.int .i64) w A i.f7.length i.f7) (hl : i.f7.length * 8 ≤ 140737488351232) :
  Calls Tryd.prog 9 #[.agg #[.int .i64 i.f0, .int .i64 i.f1, .int .i64 i.f2, .int .i64 i.f3, .int .i64 i.f4, .int .i64 i.f5, .string i.f6, .slice A i.f7.length c]] w fun e w' => ∃ A1 c1, e = .returned (.slice A1 (readsI i).length c1) ∧ (readsI i).length ≤ c1 ∧ Kd.C (Kd.int .i64) w' A1 (readsI i).length (readsI i) ∧ Below w.heap.size w w' :=
 readsC i.f0 i.f1 i.f2 i.f3 i.f4 i.f5 i.f6 A c i.f7 w hC hl (readsI i) rfl
theorem fitsI_c (p : PV) (i : S39) (A : Option Addr) (c : Nat) (w : World) (h : RdP w p) (hg : Tab w) :
  Calls Tryd.prog 28 #[.agg #[.slice p.A0 p.sites.length p.c0, .slice p.A1 p.fns.length p.c1, .int .i64 p.main], .agg #[.int .i64 i.f0, .int .i64 i.f1, .int .i64 i.f2, .int .i64 i.f3, .int .i64 i.f4, .int .i64 i.f5, .string i.f6, .slice A i.f7.length c]] w
   fun e w' => e = .returned (.bool (fitsS p i)) ∧ Below w.heap.size w w' :=
 fits_c p i.f0 i.f1 i.f2 i.f3 i.f4 i.f5 i.f6 i.f7 A c w h hg
theorem range_ok {op : Int} (h : (decide (1 ≤ op) && decide (op ≤ 20)) = true) : ¬ (op < 1 ∨ 20 < op) := by
 simp at h
 omega
theorem range_no {op : Int} (h : (decide (1 ≤ op) && decide (op ≤ 20)) = false) : op < 1 ∨ 20 < op := by
 simp at h
 omega
set_option maxRecDepth 100000 in
set_option maxHeartbeats 8000000 in
theorem insn_c (p : PV) (f : S36) (A3 A4 : Option Addr) (c3 c4 : Nat) (pc : Int) (w : World) (h : RdP w p) (hg : Tab w) (hC : Kd.C k39 w A4 f.f4.length f.f4) (h0 : 0 ≤ pc) (h1 : pc < (f.f4.length : Int))
  (hl : (rd_T39 f.f4 pc).f7.length * 8 ≤ 140737488351232) :
  Calls Tryd.prog 19 #[.agg #[.slice p.A0 p.sites.length p.c0, .slice p.A1 p.fns.length p.c1, .int .i64 p.main], .agg #[.string f.f0, .int .i64 f.f1, .int .i64 f.f2, .slice A3 f.f3.length c3, .slice A4 f.f4.length c4], .int .i64 pc] w
   fun e w' => e = .returned (.int .i64 (insnS p f pc)) ∧ Below w.heap.size w w' := by
 have HP := Aside0.mk h
 have HG := Aside0.mk hg
 have HC := Aside0.mk hC
 clear h hg hC
 go_enter Tryd.func19, Tryd.ntmps19
 go_upto_region 1 with (fail)
 have HX := Aside0.mk (blk_alloc (blk_at_ (W := w) (n := w.heap.size) (.cells #[.slice p.A0 p.sites.length p.c0, .slice p.A1 p.fns.length p.c1, .int .i64 p.main] 25) rfl) (.cells #[.string f.f0, .int .i64 f.f1, .int .i64 f.f2, .slice A3 f.f3.length c3, .slice A4 f.f4.length c4] 36))
 have HY := Aside0.mk (blk_at_ (W := w.alloc (.cells #[.slice p.A0 p.sites.length p.c0, .slice p.A1 p.fns.length p.c1, .int .i64 p.main] 25)) (n := w.heap.size + 1) (.cells #[.string f.f0, .int .i64 f.f1, .int .i64 f.f2, .slice A3 f.f3.length c3, .slice A4 f.f4.length c4] 36) (by simp))
 have HB := Aside0.mk (show Below w.heap.size w ((w.alloc (.cells #[.slice p.A0 p.sites.length p.c0, .slice p.A1 p.fns.length p.c1, .int .i64 p.main] 25)).alloc (.cells #[.string f.f0, .int .i64 f.f1, .int .i64 f.f2, .slice A3 f.f3.length c3, .slice A4 f.f4.length c4] 36)) from below_alloc (below_alloc (Below.refl _ _) _) _)
 generalize (w.alloc (.cells #[.slice p.A0 p.sites.length p.c0, .slice p.A1 p.fns.length p.c1, .int .i64 p.main] 25)).alloc (.cells #[.string f.f0, .int .i64 f.f1, .int .i64 f.f2, .slice A3 f.f3.length c3, .slice A4 f.f4.length c4] 36) = W at HX HY HB ⊢
 have y4 : W.cell? ⟨w.heap.size + 1, 4, none⟩ = some (.slice A4 f.f4.length c4) := (blk_cell HY.out 4).trans rfl
 obtain ⟨ad, A7, c7, hA, z0, z1, z2, z3, z4, z5, z6, z7, hl7, hC7⟩ := at_T39 (Kd.C_below HC.out HB.out) pc h0 h1
 subst hA
 have HS : Aside0 (insnS p f pc = (if (rd_T39 f.f4 pc).f0 < 1 ∨ 20 < (rd_T39 f.f4 pc).f0 then 1 else if wrongA p f (rd_T39 f.f4 pc) = true then 8 else if wrongB f (rd_T39 f.f4 pc) pc = true then 8 else 0)) := Aside0.mk rfl
 generalize rd_T39 f.f4 pc = i at z0 z1 z2 z3 z4 z5 z6 z7 hl7 hC7 hl HS
 have HL := Aside0.mk hl
 have hC7' := Kd.C_below hC7 (below_alloc (Below.refl W.heap.size W) (.cells #[.int .i64 i.f0, .int .i64 i.f1, .int .i64 i.f2, .int .i64 i.f3, .int .i64 i.f4, .int .i64 i.f5, .string i.f6, .slice A7 i.f7.length c7] 39))
 have HC7 := Aside0.mk hC7'
 have HL7 := Aside0.mk hl7
 clear hC7 hC7' hl7 hl
 go_upto_region 2 with (fail)
 clear y4 z0 z1 z2 z3 z4 z5 z6 z7
 have HZ := Aside0.mk (blk_new W (.cells #[.int .i64 i.f0, .int .i64 i.f1, .int .i64 i.f2, .int .i64 i.f3, .int .i64 i.f4, .int .i64 i.f5, .string i.f6, .slice A7 i.f7.length c7] 39))
 replace HX := Aside0.mk (blk_alloc HX.out (.cells #[.int .i64 i.f0, .int .i64 i.f1, .int .i64 i.f2, .int .i64 i.f3, .int .i64 i.f4, .int .i64 i.f5, .string i.f6, .slice A7 i.f7.length c7] 39))
 replace HY := Aside0.mk (blk_alloc HY.out (.cells #[.int .i64 i.f0, .int .i64 i.f1, .int .i64 i.f2, .int .i64 i.f3, .int .i64 i.f4, .int .i64 i.f5, .string i.f6, .slice A7 i.f7.length c7] 39))
 replace HB := Aside0.mk (below_alloc HB.out (.cells #[.int .i64 i.f0, .int .i64 i.f1, .int .i64 i.f2, .int .i64 i.f3, .int .i64 i.f4, .int .i64 i.f5, .string i.f6, .slice A7 i.f7.length c7] 39))
 generalize W.alloc (.cells #[.int .i64 i.f0, .int .i64 i.f1, .int .i64 i.f2, .int .i64 i.f3, .int .i64 i.f4, .int .i64 i.f5, .string i.f6, .slice A7 i.f7.length c7] 39) = V at HX HY HZ HB HC7 ⊢
 generalize W.heap.size = gz at HZ ⊢
 generalize w.heap.size + 1 = gy at HY ⊢
 obtain ⟨x0, x1, x2⟩ := cell3 HX.out
 obtain ⟨y0, y1, y2, y3, y4⟩ := cell5 HY.out
 obtain ⟨z0, z1, z2, z3, z4, z5, z6, z7⟩ := cell8 HZ.out
 go_wp2_with fail
 refine (row_calls i.f0 _).mono ?_
 rintro e w1 ⟨rfl, hk⟩
 clear x0 x1 x2 y0 y1 y2 y3 y4 z0 z1 z2 z3 z4 z5 z6 z7
 replace HX := Aside0.mk (blk_below HX.out hk)
 replace HY := Aside0.mk (blk_below HY.out hk)
 replace HZ := Aside0.mk (blk_below HZ.out hk)
 replace HC7 := Aside0.mk (Kd.C_below HC7.out hk)
 replace HB := Aside0.mk (below_step HB.out hk)
 clear hk
 obtain ⟨x0, x1, x2⟩ := cell3 HX.out
 obtain ⟨y0, y1, y2, y3, y4⟩ := cell5 HY.out
 obtain ⟨z0, z1, z2, z3, z4, z5, z6, z7⟩ := cell8 HZ.out
 cases hr : (decide (1 ≤ i.f0) && decide (i.f0 ≤ 20)) with
 | false =>
  replace HS := Aside0.mk (HS.out.trans (if_pos (range_no hr)))
  clear hr
  go_wp2_with fail
  go_ret
  exact ⟨ret_int HS.out.symm, HB.out⟩
 | true =>
  replace HS := Aside0.mk (HS.out.trans (if_neg (range_ok hr)))
  clear hr
  go_wp2_with fail
  refine (readsI_c i A7 c7 _ HC7.out HL.out).mono ?_
  rintro e w2 ⟨A1, c1, rfl, hc1, hC1, hk⟩
  have HC1 := Aside0.mk hC1
  clear hC1 hc1
  clear x0 x1 x2 y0 y1 y2 y3 y4 z0 z1 z2 z3 z4 z5 z6 z7
  replace HX := Aside0.mk (blk_below HX.out hk)
  replace HY := Aside0.mk (blk_below HY.out hk)
  replace HZ := Aside0.mk (blk_below HZ.out hk)
  replace HC7 := Aside0.mk (Kd.C_below HC7.out hk)
  replace HB := Aside0.mk (below_step HB.out hk)
  clear hk
  obtain ⟨x0, x1, x2⟩ := cell3 HX.out
  obtain ⟨y0, y1, y2, y3, y4⟩ := cell5 HY.out
  obtain ⟨z0, z1, z2, z3, z4, z5, z6, z7⟩ := cell8 HZ.out
  go_wp2_with fail
  refine (contains25 (.pointer (some ⟨gy, 0, none⟩)) (badR f.f1) _ HC1.out (by have := reads_len i; have := HL.out; omega) (fun W2 r hb => bad_c (pw_cell_below hb (cell5 HY.out).2.1) r)).mono ?_
  rintro e w3 ⟨rfl, hk⟩
  clear x0 x1 x2 y0 y1 y2 y3 y4 z0 z1 z2 z3 z4 z5 z6 z7
  replace HX := Aside0.mk (blk_below HX.out hk)
  replace HY := Aside0.mk (blk_below HY.out hk)
  replace HZ := Aside0.mk (blk_below HZ.out hk)
  replace HC7 := Aside0.mk (Kd.C_below HC7.out hk)
  replace HB := Aside0.mk (below_step HB.out hk)
  clear hk
  obtain ⟨x0, x1, x2⟩ := cell3 HX.out
  obtain ⟨y0, y1, y2, y3, y4⟩ := cell5 HY.out
  obtain ⟨z0, z1, z2, z3, z4, z5, z6, z7⟩ := cell8 HZ.out
  clear HC1
  cases hb1 : (readsI i).any (badR f.f1) with
  | true =>
   have hA : wrongA p f i = true := by unfold wrongA; rw [hb1]; simp
   replace HS := Aside0.mk (HS.out.trans (if_pos hA))
   clear hA hb1
   go_wp2_with fail
   go_ret
   exact ⟨ret_int HS.out.symm, HB.out⟩
  | false =>
   replace HS := Aside0.mk (HS.out.trans (show (if wrongA p f i = true then (8 : Int) else if wrongB f i pc = true then 8 else 0) = (if ((wr i.f0 && badR f.f1 i.f1) || !fitsS p i) = true then (8 : Int) else if wrongB f i pc = true then 8 else 0) by unfold wrongA; rw [hb1, Bool.false_or]))
   clear hb1
   go_wp2_with fail
   refine (strings_HasPrefix.calls (rowS i.f0) ⟨#[61]⟩ (wr i.f0) _ (pre_ok i.f0)).mono ?_
   rintro e w4 ⟨rfl, hd⟩
   have hk := hd.below
   clear hd
   clear x0 x1 x2 y0 y1 y2 y3 y4 z0 z1 z2 z3 z4 z5 z6 z7
   replace HX := Aside0.mk (blk_below HX.out hk)
   replace HY := Aside0.mk (blk_below HY.out hk)
   replace HZ := Aside0.mk (blk_below HZ.out hk)
   replace HC7 := Aside0.mk (Kd.C_below HC7.out hk)
   replace HB := Aside0.mk (below_step HB.out hk)
   clear hk
   obtain ⟨x0, x1, x2⟩ := cell3 HX.out
   obtain ⟨y0, y1, y2, y3, y4⟩ := cell5 HY.out
   obtain ⟨z0, z1, z2, z3, z4, z5, z6, z7⟩ := cell8 HZ.out
   cases hw : wr i.f0 with
   | true =>
    rw [hw] at HS
    clear hw
    go_wp2_with fail
    refine (bad_c y1 i.f1).mono ?_
    rintro e w5 ⟨rfl, hk⟩
    clear x0 x1 x2 y0 y1 y2 y3 y4 z0 z1 z2 z3 z4 z5 z6 z7
    replace HX := Aside0.mk (blk_below HX.out hk)
    replace HY := Aside0.mk (blk_below HY.out hk)
    replace HZ := Aside0.mk (blk_below HZ.out hk)
    replace HC7 := Aside0.mk (Kd.C_below HC7.out hk)
    replace HB := Aside0.mk (below_step HB.out hk)
    clear hk
    obtain ⟨x0, x1, x2⟩ := cell3 HX.out
    obtain ⟨y0, y1, y2, y3, y4⟩ := cell5 HY.out
    obtain ⟨z0, z1, z2, z3, z4, z5, z6, z7⟩ := cell8 HZ.out
    cases hb2 : badR f.f1 i.f1 with
    | true =>
     replace HS := Aside0.mk (HS.out.trans (if_pos (by rw [hb2]; rfl)))
     have hb2' : (decide (i.f1 < 0) || decide (f.f1 ≤ i.f1)) = true := hb2
     clear hb2
     go_wp2_with fail
     go_ret
     exact ⟨ret_int HS.out.symm, HB.out⟩
    | false =>
     replace HS := Aside0.mk (HS.out.trans (by rw [hb2]; rfl : (if ((true && badR f.f1 i.f1) || !fitsS p i) = true then (8 : Int) else if wrongB f i pc = true then 8 else 0) = (if (!fitsS p i) = true then (8 : Int) else if wrongB f i pc = true then 8 else 0)))
     have hb2' : (decide (i.f1 < 0) || decide (f.f1 ≤ i.f1)) = false := hb2
     clear hb2
     go_wp2_with fail
     refine (fitsI_c p i A7 c7 _ (HP.out.below HB.out) (HG.out.below HB.out)).mono ?_
     rintro e w6 ⟨rfl, hk⟩
     clear x0 x1 x2 y0 y1 y2 y3 y4 z0 z1 z2 z3 z4 z5 z6 z7
     replace HX := Aside0.mk (blk_below HX.out hk)
     replace HY := Aside0.mk (blk_below HY.out hk)
     replace HZ := Aside0.mk (blk_below HZ.out hk)
     replace HC7 := Aside0.mk (Kd.C_below HC7.out hk)
     replace HB := Aside0.mk (below_step HB.out hk)
     clear hk
     obtain ⟨x0, x1, x2⟩ := cell3 HX.out
     obtain ⟨y0, y1, y2, y3, y4⟩ := cell5 HY.out
     obtain ⟨z0, z1, z2, z3, z4, z5, z6, z7⟩ := cell8 HZ.out
     cases hf : fitsS p i with
     | false =>
      replace HS := Aside0.mk (HS.out.trans (if_pos (by rw [hf]; rfl)))
      clear hf
      go_wp2_with fail
      go_ret
      exact ⟨ret_int HS.out.symm, HB.out⟩
     | true =>
      replace HS := Aside0.mk (HS.out.trans (if_neg (by rw [hf]; simp)))
      clear hf
      clear HP HG HL
      cases e17 : (i.f0 == 17) with
      | true =>
       by_cases r1 : i.f5 < 0
       ·have hW : wrongB f i pc = true := by unfold wrongB badR; rw [e17]; simp [r1]
        replace HS := Aside0.mk (HS.out.trans (if_pos hW))
        have hd := decide_eq_true r1
        clear hW
        go_wp2_with fail
        go_ret
        exact ⟨ret_int HS.out.symm, HB.out⟩
       ·have hd := decide_eq_false r1
        by_cases r2 : (f.f4.length : Int) ≤ i.f5
        ·have hW : wrongB f i pc = true := by unfold wrongB badR; rw [e17]; simp [r2]
         replace HS := Aside0.mk (HS.out.trans (if_pos hW))
         have hd2 := decide_eq_true r2
         clear hW
         go_wp2_with fail
         go_ret
         exact ⟨ret_int HS.out.symm, HB.out⟩
        ·have hW : wrongB f i pc = (nextS i pc).any (badR f.f4.length) := by unfold wrongB badR; rw [e17, hd, decide_eq_false r2]; simp
         rw [hW] at HS
         have hd2 := decide_eq_false r2
         clear hW
         go_wp2_with fail
         refine (next_c i A7 c7 pc _ HC7.out HL7.out).mono ?_
         rintro e w7 ⟨A2, c2, rfl, hc2, hC2, hk⟩
         have HC2 := Aside0.mk hC2
         clear hC2 hc2
         clear x0 x1 x2 y0 y1 y2 y3 y4 z0 z1 z2 z3 z4 z5 z6 z7
         replace HX := Aside0.mk (blk_below HX.out hk)
         replace HY := Aside0.mk (blk_below HY.out hk)
         replace HZ := Aside0.mk (blk_below HZ.out hk)
         replace HC7 := Aside0.mk (Kd.C_below HC7.out hk)
         replace HB := Aside0.mk (below_step HB.out hk)
         clear hk
         obtain ⟨x0, x1, x2⟩ := cell3 HX.out
         obtain ⟨y0, y1, y2, y3, y4⟩ := cell5 HY.out
         obtain ⟨z0, z1, z2, z3, z4, z5, z6, z7⟩ := cell8 HZ.out
         go_wp2_with fail
         refine (contains26 (.pointer (some ⟨gy, 0, none⟩)) (badR f.f4.length) _ HC2.out (by have := next_len i pc; omega) (fun W2 r hb => leads_c (pw_cell_below hb (cell5 HY.out).2.2.2.2) r)).mono ?_
         rintro e w8 ⟨rfl, hk⟩
         clear x0 x1 x2 y0 y1 y2 y3 y4 z0 z1 z2 z3 z4 z5 z6 z7
         replace HX := Aside0.mk (blk_below HX.out hk)
         replace HY := Aside0.mk (blk_below HY.out hk)
         replace HZ := Aside0.mk (blk_below HZ.out hk)
         replace HC7 := Aside0.mk (Kd.C_below HC7.out hk)
         replace HB := Aside0.mk (below_step HB.out hk)
         clear hk
         obtain ⟨x0, x1, x2⟩ := cell3 HX.out
         obtain ⟨y0, y1, y2, y3, y4⟩ := cell5 HY.out
         obtain ⟨z0, z1, z2, z3, z4, z5, z6, z7⟩ := cell8 HZ.out
         clear HC2
         cases hb5 : (nextS i pc).any (badR f.f4.length) with
         | true =>
          rw [hb5] at HS
          replace HS := Aside0.mk (HS.out.trans (if_pos rfl))
          clear hb5
          go_wp2_with fail
          go_ret
          exact ⟨ret_int HS.out.symm, HB.out⟩
         | false =>
          rw [hb5] at HS
          replace HS := Aside0.mk (HS.out.trans (if_neg (by simp)))
          clear hb5
          go_wp2_with fail
          go_ret
          exact ⟨ret_int HS.out.symm, HB.out⟩
      | false =>
       cases e18 : (i.f0 == 18) with
       | true =>
        by_cases r1 : i.f5 < 0
        ·have hW : wrongB f i pc = true := by unfold wrongB badR; rw [e17, e18]; simp [r1]
         replace HS := Aside0.mk (HS.out.trans (if_pos hW))
         have hd := decide_eq_true r1
         clear hW
         go_wp2_with fail
         go_ret
         exact ⟨ret_int HS.out.symm, HB.out⟩
        ·have hd := decide_eq_false r1
         by_cases r2 : (f.f4.length : Int) ≤ i.f5
         ·have hW : wrongB f i pc = true := by unfold wrongB badR; rw [e17, e18]; simp [r2]
          replace HS := Aside0.mk (HS.out.trans (if_pos hW))
          have hd2 := decide_eq_true r2
          clear hW
          go_wp2_with fail
          go_ret
          exact ⟨ret_int HS.out.symm, HB.out⟩
         ·have hW : wrongB f i pc = (nextS i pc).any (badR f.f4.length) := by unfold wrongB badR; rw [e17, e18, hd, decide_eq_false r2]; simp
          rw [hW] at HS
          have hd2 := decide_eq_false r2
          clear hW
          go_wp2_with fail
          refine (next_c i A7 c7 pc _ HC7.out HL7.out).mono ?_
          rintro e w7 ⟨A2, c2, rfl, hc2, hC2, hk⟩
          have HC2 := Aside0.mk hC2
          clear hC2 hc2
          clear x0 x1 x2 y0 y1 y2 y3 y4 z0 z1 z2 z3 z4 z5 z6 z7
          replace HX := Aside0.mk (blk_below HX.out hk)
          replace HY := Aside0.mk (blk_below HY.out hk)
          replace HZ := Aside0.mk (blk_below HZ.out hk)
          replace HC7 := Aside0.mk (Kd.C_below HC7.out hk)
          replace HB := Aside0.mk (below_step HB.out hk)
          clear hk
          obtain ⟨x0, x1, x2⟩ := cell3 HX.out
          obtain ⟨y0, y1, y2, y3, y4⟩ := cell5 HY.out
          obtain ⟨z0, z1, z2, z3, z4, z5, z6, z7⟩ := cell8 HZ.out
          go_wp2_with fail
          refine (contains26 (.pointer (some ⟨gy, 0, none⟩)) (badR f.f4.length) _ HC2.out (by have := next_len i pc; omega) (fun W2 r hb => leads_c (pw_cell_below hb (cell5 HY.out).2.2.2.2) r)).mono ?_
          rintro e w8 ⟨rfl, hk⟩
          clear x0 x1 x2 y0 y1 y2 y3 y4 z0 z1 z2 z3 z4 z5 z6 z7
          replace HX := Aside0.mk (blk_below HX.out hk)
          replace HY := Aside0.mk (blk_below HY.out hk)
          replace HZ := Aside0.mk (blk_below HZ.out hk)
          replace HC7 := Aside0.mk (Kd.C_below HC7.out hk)
          replace HB := Aside0.mk (below_step HB.out hk)
          clear hk
          obtain ⟨x0, x1, x2⟩ := cell3 HX.out
          obtain ⟨y0, y1, y2, y3, y4⟩ := cell5 HY.out
          obtain ⟨z0, z1, z2, z3, z4, z5, z6, z7⟩ := cell8 HZ.out
          clear HC2
          cases hb5 : (nextS i pc).any (badR f.f4.length) with
          | true =>
           rw [hb5] at HS
           replace HS := Aside0.mk (HS.out.trans (if_pos rfl))
           clear hb5
           go_wp2_with fail
           go_ret
           exact ⟨ret_int HS.out.symm, HB.out⟩
          | false =>
           rw [hb5] at HS
           replace HS := Aside0.mk (HS.out.trans (if_neg (by simp)))
           clear hb5
           go_wp2_with fail
           go_ret
           exact ⟨ret_int HS.out.symm, HB.out⟩
       | false =>
        have hW : wrongB f i pc = (nextS i pc).any (badR f.f4.length) := by unfold wrongB; rw [e17, e18]; simp
        rw [hW] at HS
        clear hW
        go_wp2_with fail
        refine (next_c i A7 c7 pc _ HC7.out HL7.out).mono ?_
        rintro e w7 ⟨A2, c2, rfl, hc2, hC2, hk⟩
        have HC2 := Aside0.mk hC2
        clear hC2 hc2
        clear x0 x1 x2 y0 y1 y2 y3 y4 z0 z1 z2 z3 z4 z5 z6 z7
        replace HX := Aside0.mk (blk_below HX.out hk)
        replace HY := Aside0.mk (blk_below HY.out hk)
        replace HZ := Aside0.mk (blk_below HZ.out hk)
        replace HC7 := Aside0.mk (Kd.C_below HC7.out hk)
        replace HB := Aside0.mk (below_step HB.out hk)
        clear hk
        obtain ⟨x0, x1, x2⟩ := cell3 HX.out
        obtain ⟨y0, y1, y2, y3, y4⟩ := cell5 HY.out
        obtain ⟨z0, z1, z2, z3, z4, z5, z6, z7⟩ := cell8 HZ.out
        go_wp2_with fail
        refine (contains26 (.pointer (some ⟨gy, 0, none⟩)) (badR f.f4.length) _ HC2.out (by have := next_len i pc; omega) (fun W2 r hb => leads_c (pw_cell_below hb (cell5 HY.out).2.2.2.2) r)).mono ?_
        rintro e w8 ⟨rfl, hk⟩
        clear x0 x1 x2 y0 y1 y2 y3 y4 z0 z1 z2 z3 z4 z5 z6 z7
        replace HX := Aside0.mk (blk_below HX.out hk)
        replace HY := Aside0.mk (blk_below HY.out hk)
        replace HZ := Aside0.mk (blk_below HZ.out hk)
        replace HC7 := Aside0.mk (Kd.C_below HC7.out hk)
        replace HB := Aside0.mk (below_step HB.out hk)
        clear hk
        obtain ⟨x0, x1, x2⟩ := cell3 HX.out
        obtain ⟨y0, y1, y2, y3, y4⟩ := cell5 HY.out
        obtain ⟨z0, z1, z2, z3, z4, z5, z6, z7⟩ := cell8 HZ.out
        clear HC2
        cases hb5 : (nextS i pc).any (badR f.f4.length) with
        | true =>
         rw [hb5] at HS
         replace HS := Aside0.mk (HS.out.trans (if_pos rfl))
         clear hb5
         go_wp2_with fail
         go_ret
         exact ⟨ret_int HS.out.symm, HB.out⟩
        | false =>
         rw [hb5] at HS
         replace HS := Aside0.mk (HS.out.trans (if_neg (by simp)))
         clear hb5
         go_wp2_with fail
         go_ret
         exact ⟨ret_int HS.out.symm, HB.out⟩
   | false =>
    rw [hw] at HS
    replace HS := Aside0.mk (HS.out.trans (by rfl : (if ((false && badR f.f1 i.f1) || !fitsS p i) = true then (8 : Int) else if wrongB f i pc = true then 8 else 0) = (if (!fitsS p i) = true then (8 : Int) else if wrongB f i pc = true then 8 else 0)))
    clear hw
    go_wp2_with fail
    refine (fitsI_c p i A7 c7 _ (HP.out.below HB.out) (HG.out.below HB.out)).mono ?_
    rintro e w6 ⟨rfl, hk⟩
    clear x0 x1 x2 y0 y1 y2 y3 y4 z0 z1 z2 z3 z4 z5 z6 z7
    replace HX := Aside0.mk (blk_below HX.out hk)
    replace HY := Aside0.mk (blk_below HY.out hk)
    replace HZ := Aside0.mk (blk_below HZ.out hk)
    replace HC7 := Aside0.mk (Kd.C_below HC7.out hk)
    replace HB := Aside0.mk (below_step HB.out hk)
    clear hk
    obtain ⟨x0, x1, x2⟩ := cell3 HX.out
    obtain ⟨y0, y1, y2, y3, y4⟩ := cell5 HY.out
    obtain ⟨z0, z1, z2, z3, z4, z5, z6, z7⟩ := cell8 HZ.out
    cases hf : fitsS p i with
    | false =>
     replace HS := Aside0.mk (HS.out.trans (if_pos (by rw [hf]; rfl)))
     clear hf
     go_wp2_with fail
     go_ret
     exact ⟨ret_int HS.out.symm, HB.out⟩
    | true =>
     replace HS := Aside0.mk (HS.out.trans (if_neg (by rw [hf]; simp)))
     clear hf
     clear HP HG HL
     cases e17 : (i.f0 == 17) with
     | true =>
      by_cases r1 : i.f5 < 0
      ·have hW : wrongB f i pc = true := by unfold wrongB badR; rw [e17]; simp [r1]
       replace HS := Aside0.mk (HS.out.trans (if_pos hW))
       have hd := decide_eq_true r1
       clear hW
       go_wp2_with fail
       go_ret
       exact ⟨ret_int HS.out.symm, HB.out⟩
      ·have hd := decide_eq_false r1
       by_cases r2 : (f.f4.length : Int) ≤ i.f5
       ·have hW : wrongB f i pc = true := by unfold wrongB badR; rw [e17]; simp [r2]
        replace HS := Aside0.mk (HS.out.trans (if_pos hW))
        have hd2 := decide_eq_true r2
        clear hW
        go_wp2_with fail
        go_ret
        exact ⟨ret_int HS.out.symm, HB.out⟩
       ·have hW : wrongB f i pc = (nextS i pc).any (badR f.f4.length) := by unfold wrongB badR; rw [e17, hd, decide_eq_false r2]; simp
        rw [hW] at HS
        have hd2 := decide_eq_false r2
        clear hW
        go_wp2_with fail
        refine (next_c i A7 c7 pc _ HC7.out HL7.out).mono ?_
        rintro e w7 ⟨A2, c2, rfl, hc2, hC2, hk⟩
        have HC2 := Aside0.mk hC2
        clear hC2 hc2
        clear x0 x1 x2 y0 y1 y2 y3 y4 z0 z1 z2 z3 z4 z5 z6 z7
        replace HX := Aside0.mk (blk_below HX.out hk)
        replace HY := Aside0.mk (blk_below HY.out hk)
        replace HZ := Aside0.mk (blk_below HZ.out hk)
        replace HC7 := Aside0.mk (Kd.C_below HC7.out hk)
        replace HB := Aside0.mk (below_step HB.out hk)
        clear hk
        obtain ⟨x0, x1, x2⟩ := cell3 HX.out
        obtain ⟨y0, y1, y2, y3, y4⟩ := cell5 HY.out
        obtain ⟨z0, z1, z2, z3, z4, z5, z6, z7⟩ := cell8 HZ.out
        go_wp2_with fail
        refine (contains26 (.pointer (some ⟨gy, 0, none⟩)) (badR f.f4.length) _ HC2.out (by have := next_len i pc; omega) (fun W2 r hb => leads_c (pw_cell_below hb (cell5 HY.out).2.2.2.2) r)).mono ?_
        rintro e w8 ⟨rfl, hk⟩
        clear x0 x1 x2 y0 y1 y2 y3 y4 z0 z1 z2 z3 z4 z5 z6 z7
        replace HX := Aside0.mk (blk_below HX.out hk)
        replace HY := Aside0.mk (blk_below HY.out hk)
        replace HZ := Aside0.mk (blk_below HZ.out hk)
        replace HC7 := Aside0.mk (Kd.C_below HC7.out hk)
        replace HB := Aside0.mk (below_step HB.out hk)
        clear hk
        obtain ⟨x0, x1, x2⟩ := cell3 HX.out
        obtain ⟨y0, y1, y2, y3, y4⟩ := cell5 HY.out
        obtain ⟨z0, z1, z2, z3, z4, z5, z6, z7⟩ := cell8 HZ.out
        clear HC2
        cases hb5 : (nextS i pc).any (badR f.f4.length) with
        | true =>
         rw [hb5] at HS
         replace HS := Aside0.mk (HS.out.trans (if_pos rfl))
         clear hb5
         go_wp2_with fail
         go_ret
         exact ⟨ret_int HS.out.symm, HB.out⟩
        | false =>
         rw [hb5] at HS
         replace HS := Aside0.mk (HS.out.trans (if_neg (by simp)))
         clear hb5
         go_wp2_with fail
         go_ret
         exact ⟨ret_int HS.out.symm, HB.out⟩
     | false =>
      cases e18 : (i.f0 == 18) with
      | true =>
       by_cases r1 : i.f5 < 0
       ·have hW : wrongB f i pc = true := by unfold wrongB badR; rw [e17, e18]; simp [r1]
        replace HS := Aside0.mk (HS.out.trans (if_pos hW))
        have hd := decide_eq_true r1
        clear hW
        go_wp2_with fail
        go_ret
        exact ⟨ret_int HS.out.symm, HB.out⟩
       ·have hd := decide_eq_false r1
        by_cases r2 : (f.f4.length : Int) ≤ i.f5
        ·have hW : wrongB f i pc = true := by unfold wrongB badR; rw [e17, e18]; simp [r2]
         replace HS := Aside0.mk (HS.out.trans (if_pos hW))
         have hd2 := decide_eq_true r2
         clear hW
         go_wp2_with fail
         go_ret
         exact ⟨ret_int HS.out.symm, HB.out⟩
        ·have hW : wrongB f i pc = (nextS i pc).any (badR f.f4.length) := by unfold wrongB badR; rw [e17, e18, hd, decide_eq_false r2]; simp
         rw [hW] at HS
         have hd2 := decide_eq_false r2
         clear hW
         go_wp2_with fail
         refine (next_c i A7 c7 pc _ HC7.out HL7.out).mono ?_
         rintro e w7 ⟨A2, c2, rfl, hc2, hC2, hk⟩
         have HC2 := Aside0.mk hC2
         clear hC2 hc2
         clear x0 x1 x2 y0 y1 y2 y3 y4 z0 z1 z2 z3 z4 z5 z6 z7
         replace HX := Aside0.mk (blk_below HX.out hk)
         replace HY := Aside0.mk (blk_below HY.out hk)
         replace HZ := Aside0.mk (blk_below HZ.out hk)
         replace HC7 := Aside0.mk (Kd.C_below HC7.out hk)
         replace HB := Aside0.mk (below_step HB.out hk)
         clear hk
         obtain ⟨x0, x1, x2⟩ := cell3 HX.out
         obtain ⟨y0, y1, y2, y3, y4⟩ := cell5 HY.out
         obtain ⟨z0, z1, z2, z3, z4, z5, z6, z7⟩ := cell8 HZ.out
         go_wp2_with fail
         refine (contains26 (.pointer (some ⟨gy, 0, none⟩)) (badR f.f4.length) _ HC2.out (by have := next_len i pc; omega) (fun W2 r hb => leads_c (pw_cell_below hb (cell5 HY.out).2.2.2.2) r)).mono ?_
         rintro e w8 ⟨rfl, hk⟩
         clear x0 x1 x2 y0 y1 y2 y3 y4 z0 z1 z2 z3 z4 z5 z6 z7
         replace HX := Aside0.mk (blk_below HX.out hk)
         replace HY := Aside0.mk (blk_below HY.out hk)
         replace HZ := Aside0.mk (blk_below HZ.out hk)
         replace HC7 := Aside0.mk (Kd.C_below HC7.out hk)
         replace HB := Aside0.mk (below_step HB.out hk)
         clear hk
         obtain ⟨x0, x1, x2⟩ := cell3 HX.out
         obtain ⟨y0, y1, y2, y3, y4⟩ := cell5 HY.out
         obtain ⟨z0, z1, z2, z3, z4, z5, z6, z7⟩ := cell8 HZ.out
         clear HC2
         cases hb5 : (nextS i pc).any (badR f.f4.length) with
         | true =>
          rw [hb5] at HS
          replace HS := Aside0.mk (HS.out.trans (if_pos rfl))
          clear hb5
          go_wp2_with fail
          go_ret
          exact ⟨ret_int HS.out.symm, HB.out⟩
         | false =>
          rw [hb5] at HS
          replace HS := Aside0.mk (HS.out.trans (if_neg (by simp)))
          clear hb5
          go_wp2_with fail
          go_ret
          exact ⟨ret_int HS.out.symm, HB.out⟩
      | false =>
       have hW : wrongB f i pc = (nextS i pc).any (badR f.f4.length) := by unfold wrongB; rw [e17, e18]; simp
       rw [hW] at HS
       clear hW
       go_wp2_with fail
       refine (next_c i A7 c7 pc _ HC7.out HL7.out).mono ?_
       rintro e w7 ⟨A2, c2, rfl, hc2, hC2, hk⟩
       have HC2 := Aside0.mk hC2
       clear hC2 hc2
       clear x0 x1 x2 y0 y1 y2 y3 y4 z0 z1 z2 z3 z4 z5 z6 z7
       replace HX := Aside0.mk (blk_below HX.out hk)
       replace HY := Aside0.mk (blk_below HY.out hk)
       replace HZ := Aside0.mk (blk_below HZ.out hk)
       replace HC7 := Aside0.mk (Kd.C_below HC7.out hk)
       replace HB := Aside0.mk (below_step HB.out hk)
       clear hk
       obtain ⟨x0, x1, x2⟩ := cell3 HX.out
       obtain ⟨y0, y1, y2, y3, y4⟩ := cell5 HY.out
       obtain ⟨z0, z1, z2, z3, z4, z5, z6, z7⟩ := cell8 HZ.out
       go_wp2_with fail
       refine (contains26 (.pointer (some ⟨gy, 0, none⟩)) (badR f.f4.length) _ HC2.out (by have := next_len i pc; omega) (fun W2 r hb => leads_c (pw_cell_below hb (cell5 HY.out).2.2.2.2) r)).mono ?_
       rintro e w8 ⟨rfl, hk⟩
       clear x0 x1 x2 y0 y1 y2 y3 y4 z0 z1 z2 z3 z4 z5 z6 z7
       replace HX := Aside0.mk (blk_below HX.out hk)
       replace HY := Aside0.mk (blk_below HY.out hk)
       replace HZ := Aside0.mk (blk_below HZ.out hk)
       replace HC7 := Aside0.mk (Kd.C_below HC7.out hk)
       replace HB := Aside0.mk (below_step HB.out hk)
       clear hk
       obtain ⟨x0, x1, x2⟩ := cell3 HX.out
       obtain ⟨y0, y1, y2, y3, y4⟩ := cell5 HY.out
       obtain ⟨z0, z1, z2, z3, z4, z5, z6, z7⟩ := cell8 HZ.out
       clear HC2
       cases hb5 : (nextS i pc).any (badR f.f4.length) with
       | true =>
        rw [hb5] at HS
        replace HS := Aside0.mk (HS.out.trans (if_pos rfl))
        clear hb5
        go_wp2_with fail
        go_ret
        exact ⟨ret_int HS.out.symm, HB.out⟩
       | false =>
        rw [hb5] at HS
        replace HS := Aside0.mk (HS.out.trans (if_neg (by simp)))
        clear hb5
        go_wp2_with fail
        go_ret
        exact ⟨ret_int HS.out.symm, HB.out⟩
end Go.Proofs.YtmiacdacebaagaaDoor.G
