/- Merged texts (by slim.py): what the law's proof names. -/
import Derived.ProofKit
import Derived.OpenShut
import Derived.ShutString
import Derived.ChangeOld
import Derived.SizedLaws
import Derived.Test.YtmiacdacebaagaaDoorRows
import Derived.Deep.DeepHandedRow
import Derived.Deep.DeepWitnessRowRef
import Derived.Lib.LaidU8
import Derived.LaidLaws
import Derived.WalkKit
import Derived.Test.YtmiacdacebaagaaDoorZf
namespace Go.Proofs.YtmiacdacebaagaaDoor.G
open Go.RowKit Go.Proofs.YtmiacdacebaagaaDoorW.PrintWords Go.Proofs.YtmiacdacebaagaaDoorW.PrintLast Go.Proofs.YtmiacdacebaagaaDoorW.PrintMore
attribute [local go_sem] max2_int min2_int max_two min_two max_three min_three max_four min_four
set_option linter.unusedVariables false
set_option linter.unusedSimpArgs false
mutual
def crosstreeref08_Check.j0 : Nat → Bool → List (S48) → List (S36) → Int → Option (Int × Int × Int)
 | 0, _, _, _, _ => none
 | k + 1, x20, x224000, x224001, x224002 => if x20 = true then (some (0, 0, 5)) else (if x224002 < 0 then (crosstreeref08_Check.j1 k true x224000 x224001 x224002) else (if x224002 ≥ (x224001.length : Int) then (crosstreeref08_Check.j1 k true x224000 x224001 x224002) else (crosstreeref08_Check.j1 k (decide ((x224000.length : Int) < (x224001.length : Int))) x224000 x224001 x224002)))
def crosstreeref08_Check.j1 : Nat → Bool → List (S48) → List (S36) → Int → Option (Int × Int × Int)
 | 0, _, _, _, _ => none
 | k + 1, x40, x224000, x224001, x224002 => if x40 = true then (some (0, 0, 8)) else (crosstreeref08_Check.l0 k 0 x224000 x224001 x224002)
def crosstreeref08_Check.l0 : Nat → Int → List (S48) → List (S36) → Int → Option (Int × Int × Int)
 | 0, _, _, _, _ => none
 | k + 1, x5, x224000, x224001, x224002 => if x5 < (x224000.length : Int) then (if 0 ≤ x5 then (if ((((rd_T48 x224000 x5).f0) == 4) != (decide (x5 < (x224001.length : Int)))) = true then (some (0, 0, 8)) else (crosstreeref08_Check.l0 k (wrap64 (x5 + 1)) x224000 x224001 x224002)) else (none)) else (crosstreeref08_Check.l1 k 0 x224000 x224001 x224002)
def crosstreeref08_Check.l1 : Nat → Int → List (S48) → List (S36) → Int → Option (Int × Int × Int)
 | 0, _, _, _, _ => none
 | k + 1, x6, x224000, x224001, x224002 => if x6 < (x224001.length : Int) then (if 0 ≤ x6 then (if (((rd_T36 x224001 x6).f4).length : Int) > 4000 then (crosstreeref08_Check.j4 k x6 true x224000 x224001 x224002 ((rd_T36 x224001 x6).f0) ((rd_T36 x224001 x6).f1) ((rd_T36 x224001 x6).f2) ((rd_T36 x224001 x6).f3) ((rd_T36 x224001 x6).f4)) else (if (((rd_T36 x224001 x6).f4).length : Int) = 0 then (crosstreeref08_Check.j4 k x6 true x224000 x224001 x224002 ((rd_T36 x224001 x6).f0) ((rd_T36 x224001 x6).f1) ((rd_T36 x224001 x6).f2) ((rd_T36 x224001 x6).f3) ((rd_T36 x224001 x6).f4)) else (if ((rd_T36 x224001 x6).f1) > 4000 then (crosstreeref08_Check.j4 k x6 true x224000 x224001 x224002 ((rd_T36 x224001 x6).f0) ((rd_T36 x224001 x6).f1) ((rd_T36 x224001 x6).f2) ((rd_T36 x224001 x6).f3) ((rd_T36 x224001 x6).f4)) else (if ((rd_T36 x224001 x6).f1) < ((rd_T36 x224001 x6).f2) then (crosstreeref08_Check.j4 k x6 true x224000 x224001 x224002 ((rd_T36 x224001 x6).f0) ((rd_T36 x224001 x6).f1) ((rd_T36 x224001 x6).f2) ((rd_T36 x224001 x6).f3) ((rd_T36 x224001 x6).f4)) else (crosstreeref08_Check.j4 k x6 (decide (((rd_T36 x224001 x6).f2) < 0)) x224000 x224001 x224002 ((rd_T36 x224001 x6).f0) ((rd_T36 x224001 x6).f1) ((rd_T36 x224001 x6).f2) ((rd_T36 x224001 x6).f3) ((rd_T36 x224001 x6).f4)))))) else (none)) else (some (0, 0, 0))
def crosstreeref08_Check.j4 : Nat → Int → Bool → List (S48) → List (S36) → Int → ByteArray → Int → Int → List Int → List (S39) → Option (Int × Int × Int)
 | 0, _, _, _, _, _, _, _, _, _, _ => none
 | k + 1, x6, x99, x224000, x224001, x224002, x227000, x227001, x227002, x227003, x227004 => if x99 = true then (some (x6, 0, 5)) else (crosstreeref08_Check.l2 k x6 0 x224000 x224001 x224002 x227000 x227001 x227002 x227003 x227004)
def crosstreeref08_Check.l2 : Nat → Int → Int → List (S48) → List (S36) → Int → ByteArray → Int → Int → List Int → List (S39) → Option (Int × Int × Int)
 | 0, _, _, _, _, _, _, _, _, _, _ => none
 | k + 1, x6, x8, x224000, x224001, x224002, x227000, x227001, x227002, x227003, x227004 => if x8 < (x227003.length : Int) then (if 0 ≤ x8 then ((crosstreeref08_Kind.f x224000 x224001 x224002 (rd x227003 x8)).bind fun t228 => (if t228 = 2 then (if 0 ≤ (rd x227003 x8) then (if (rd x227003 x8) < (x224000.length : Int) then (if ((rd_T48 x224000 (rd x227003 x8)).f2) = x6 then (crosstreeref08_Check.l2 k x6 (wrap64 (x8 + 1)) x224000 x224001 x224002 x227000 x227001 x227002 x227003 x227004) else (some (x6, 0, 8))) else (none)) else (none)) else (some (x6, 0, 8)))) else (none)) else (crosstreeref08_Check.l3 k x6 0 x224000 x224001 x224002 x227000 x227001 x227002 x227003 x227004)
def crosstreeref08_Check.l3 : Nat → Int → Int → List (S48) → List (S36) → Int → ByteArray → Int → Int → List Int → List (S39) → Option (Int × Int × Int)
 | 0, _, _, _, _, _, _, _, _, _, _ => none
 | k + 1, x6, x9, x224000, x224001, x224002, x227000, x227001, x227002, x227003, x227004 => if x9 < (x227004.length : Int) then ((crosstreeref08_Insn.f k x224000 x224001 x224002 x227000 x227001 x227002 x227003 x227004 x9).bind fun t231 => (if t231 = 0 then (crosstreeref08_Check.l3 k x6 (wrap64 (x9 + 1)) x224000 x224001 x224002 x227000 x227001 x227002 x227003 x227004) else (some (x6, x9, t231)))) else (crosstreeref08_Check.l1 k (wrap64 (x6 + 1)) x224000 x224001 x224002)
end
def crosstreeref08_Check.f (k : Nat) (l0_0 : List (S48)) (l0_1 : List (S36)) (a0_2 : Int) : Option (Int × Int × Int) := if (l0_1.length : Int) > 200 then (crosstreeref08_Check.j0 k true l0_0 l0_1 a0_2) else (crosstreeref08_Check.j0 k (decide ((l0_0.length : Int) > 600)) l0_0 l0_1 a0_2)
def crosstreeref08_Check.T8 : Bool × List (List Nat × List Nat) := (true, [([], []), ([0], [0]), ([], []), ([1, 2], [1, 2]), ([3], [3]), ([4], [4]), ([5], [5]), ([], []), ([], []), ([8], [8]), ([9], [9]), ([7, 10], [7, 10]), ([6, 11], [6, 11])])
def crosstreeref08_Check.B8 : List Nat := [0, 1, 0, 7, 15, 31, 63, 0, 0, 256, 768, 1920, 4095]
theorem crosstreeref08_Check.tab8 : rtab .any (opsOf Tryd.f8 8) = crosstreeref08_Check.T8 := by kernel_rfl
theorem crosstreeref08_Check.bits8 : waitsOk crosstreeref08_Check.T8.2 crosstreeref08_Check.B8 = true := by kernel_rfl
def crosstreeref08_Check.T19 : Bool × List (List Nat × List Nat) := (true, [([], []), ([], []), ([1], [1]), ([], []), ([2, 3], [2, 3]), ([4], [4]), ([0, 5], [0, 5]), ([6], [6]), ([7, 6], [7]), ([8], [8]), ([9, 8], [8, 9]), ([8], [8]), ([11, 8], [8, 11]), ([8], [8]), ([12, 13, 8], [8, 12, 13]), ([14, 8], [8, 14]), ([10, 15, 8], [8, 10, 15]), ([16, 8], [8, 16]), ([17, 8], [8, 17]), ([8], [8]), ([18, 19, 8], [8, 18, 19]), ([8, 20], [8, 20])])
def crosstreeref08_Check.B19 : List Nat := [0, 0, 2, 0, 14, 30, 63, 127, 255, 511, 1023, 511, 2559, 511, 14847, 31231, 65535, 131071, 262143, 511, 1048575, 2097151]
theorem crosstreeref08_Check.tab19 : rtab .any (opsOf Tryd.f8 19) = crosstreeref08_Check.T19 := by kernel_rfl
theorem crosstreeref08_Check.bits19 : waitsOk crosstreeref08_Check.T19.2 crosstreeref08_Check.B19 = true := by kernel_rfl
set_option maxHeartbeats 8000000 in
set_option maxRecDepth 100000 in
theorem crosstreeref08_Check.calls (k : Nat) (A0_0 : Option Addr) (c0_0 : Nat) (l0_0 : List (S48)) (A0_1 : Option Addr) (c0_1 : Nat) (l0_1 : List (S36)) (a0_2 : Int) (r1 : Int) (r2 : Int) (r3 : Int) (w : World) (hr0_0 : Kd.C k48 w A0_0 l0_0.length l0_0) (hc0_0 : l0_0.length ≤ c0_0) (hr0_1 : Kd.C k36 w A0_1 l0_1.length l0_1) (hc0_1 : l0_1.length ≤ c0_1) (h : crosstreeref08_Check.f k l0_0 l0_1 a0_2 = some (r1, r2, r3)) :
  Calls Tryd.prog 8 #[.agg #[.slice A0_0 l0_0.length c0_0, .slice A0_1 l0_1.length c0_1, .int .i64 a0_2]] w fun e w' => e = .returned (.tuple #[.int .i64 r1, .int .i64 r2, .int .i64 r3]) ∧ Below w.heap.size w w' := by
 have hu25 := Tryd.underlying25
 have hu36 := Tryd.underlying36
 have HR0_0 := Aside0.mk hr0_0
 have HC0_0 := Aside0.mk hc0_0
 clear hr0_0 hc0_0
 have HR0_1 := Aside0.mk hr0_1
 have HC0_1 := Aside0.mk hc0_1
 clear hr0_1 hc0_1
 have HB := Aside0.mk (Below.refl w.heap.size w)
 have H : (if (l0_1.length : Int) > 200 then (crosstreeref08_Check.j0 k true l0_0 l0_1 a0_2) else (crosstreeref08_Check.j0 k (decide ((l0_0.length : Int) > 600)) l0_0 l0_1 a0_2)) = some (r1, r2, r3) := h
 clear h
 have HC2 := Aside0.mk H
 clear H
 go_enter Tryd.func8, Tryd.ntmps8
 go_upto_region 1 with (first | ((with_reducible refine gate_dst (N := 1) rfl ?_); (try (refine gate_guard (by rfl) ?_; dsimp only)); refine box_event ?hg (N := 1) ?hd (cs := #[.slice A0_0 l0_0.length c0_0, .slice A0_1 l0_1.length c0_1, .int .i64 a0_2]) (t := 25) ?hr ?_; (case hd => rfl); (case hg => rfl); (case hr => first | (go_simp; done) | (go_simp; rfl)); intro gb223 hg w3 hbox hb; have n0_ := Aside0.mk (below_step (by repeat (first | (with_reducible first | exact HB.out | apply below_alloc | apply pw_below_drewN | apply below_drew1) | exact HB.out)) hb); have n1_ := Aside0.mk (hbox); have n2_ := Aside0.mk ((by rw [hg]; exact (below_size (by repeat (first | (with_reducible first | exact HB.out | apply below_alloc | apply pw_below_drewN | apply below_drew1) | exact HB.out))) : w.heap.size ≤ gb223)); have n3_ := Aside0.mk ((by rw [hg]; exact (below_size (by repeat (first | (with_reducible first | exact HB.out | apply below_alloc | apply pw_below_drewN | apply below_drew1) | exact HB.out))) : w.heap.size ≤ gb223)); clear HB; have HB := n0_; have BK223 := n1_; have GW223 := n2_; have GE223 := n3_; clear n0_ n1_ n2_ n3_; clear hb hbox hg))
 (try simp only [Act.put, List.setIfInBounds_toArray, List.set_cons_zero, List.set_cons_succ])
 go_cut [20] (fun v20 wc => ∃ (kq : Nat) (x20_1 : Bool), v20 = .bool x20_1 ∧ Aside0 (crosstreeref08_Check.j0 kq x20_1 l0_0 l0_1 a0_2 = some (r1, r2, r3)) ∧ Aside0 (kq ≤ k) ∧ Aside0 (wc.heap[gb223]? = some (.cells #[(.slice A0_0 l0_0.length c0_0), (.slice A0_1 l0_1.length c0_1), .int .i64 a0_2] 25 (0, 0))) ∧ Aside0 (Below w.heap.size w wc))
 case first =>
  have H := HC2.out
  clear HC2
  by_cases c4 : (l0_1.length : Int) > 200
  ·rw [if_pos c4] at H
   have c4b0 : decide (200 < (l0_1.length : Int)) = true := decide_eq_true c4
   have c4b1 : decide (200 < l0_1.length) = true := decide_eq_true (by omega)
   clear c4
   (first | rw [c4b0] | (simp only [i64_w, i32_w]; rw [c4b0]) | skip)
   have H' := Aside0.mk H
   clear H
   have hcz5_0 : w3.cell? ⟨gb223, 0, none⟩ = some (.slice A0_0 l0_0.length c0_0) := (blk_cell BK223.out 0).trans rfl
   have hcz5_1 : w3.cell? ⟨gb223, 1, none⟩ = some (.slice A0_1 l0_1.length c0_1) := (blk_cell BK223.out 1).trans rfl
   have hcz5_2 : w3.cell? ⟨gb223, 2, none⟩ = some (.int .i64 a0_2) := (blk_cell BK223.out 2).trans rfl
   have hfz5_0 := blk_frozen BK223.out 0
   have hfz5_1 := blk_frozen BK223.out 1
   have hfz5_2 := blk_frozen BK223.out 2
   go_wp2
   go_meet
   case rel => exact ⟨_, (true), (by first | rfl | (simp; done) | (simp [*]; done)), H', ⟨by first | omega | exact Nat.le_refl _⟩, ⟨by (with_reducible repeat (first | refine blk_drewN ?_ _ | refine blk_drew ?_ | refine blk_alloc ?_ _)); exact BK223.out⟩, ⟨by repeat (first | (with_reducible first | exact HB.out | apply below_alloc | apply pw_below_drewN | apply below_drew1 | refine below_set ?_ GE223.out) | exact HB.out)⟩⟩
  ·rw [if_neg c4] at H
   have c4b0 : decide (200 < (l0_1.length : Int)) = false := decide_eq_false c4
   have c4b1 : decide (200 < l0_1.length) = false := decide_eq_false (by omega)
   clear c4
   (first | rw [c4b0] | (simp only [i64_w, i32_w]; rw [c4b0]) | skip)
   have H' := Aside0.mk H
   clear H
   have hcz6_0 : w3.cell? ⟨gb223, 0, none⟩ = some (.slice A0_0 l0_0.length c0_0) := (blk_cell BK223.out 0).trans rfl
   have hcz6_1 : w3.cell? ⟨gb223, 1, none⟩ = some (.slice A0_1 l0_1.length c0_1) := (blk_cell BK223.out 1).trans rfl
   have hcz6_2 : w3.cell? ⟨gb223, 2, none⟩ = some (.int .i64 a0_2) := (blk_cell BK223.out 2).trans rfl
   have hfz6_0 := blk_frozen BK223.out 0
   have hfz6_1 := blk_frozen BK223.out 1
   have hfz6_2 := blk_frozen BK223.out 2
   go_wp2
   go_meet
   case rel => exact ⟨_, (decide ((l0_0.length : Int) > 600)), (by first | rfl | (simp; done) | (simp [*]; done)), H', ⟨by first | omega | exact Nat.le_refl _⟩, ⟨by (with_reducible repeat (first | refine blk_drewN ?_ _ | refine blk_drew ?_ | refine blk_alloc ?_ _)); exact BK223.out⟩, ⟨by repeat (first | (with_reducible first | exact HB.out | apply below_alloc | apply pw_below_drewN | apply below_drew1 | refine below_set ?_ GE223.out) | exact HB.out)⟩⟩
 case rest =>
  clear HC2
  try clear p2
  try clear c4
  try clear c4b0
  try clear c4b1
  try clear hcz5_0
  try clear hcz5_1
  try clear hcz5_2
  try clear hcz6_0
  try clear hcz6_1
  try clear hcz6_2
  try clear hfz5_0
  try clear hfz5_1
  try clear hfz5_2
  try clear hfz6_0
  try clear hfz6_1
  try clear hfz6_2
  obtain ⟨kq, x20_1, rfl, HA, HJ1, BK223, HB⟩ := hcut
  cases kq with
  | zero => exact absurd HA.out (by simp [crosstreeref08_Check.j0])
  | succ kj1 =>
   have H := HA.out
   clear HA
   simp only [crosstreeref08_Check.j0] at H
   by_cases c7 : x20_1 = true
   ·subst c7
    have H1 : (some (0, 0, 5)) = some (r1, r2, r3) := by rw [if_pos rfl] at H; exact H
    clear H
    have H := H1
    clear H1
    simp only [Option.some.injEq, Prod.mk.injEq] at H
    obtain ⟨rfl, rfl, rfl⟩ := H
    go_wp2
    go_ret3
    exact ⟨by first | rfl | (simp [errW_none, errW_some] <;> rfl) | (simp [*, errW_none, errW_some] <;> rfl), by repeat (first | (with_reducible first | exact HB.out | apply below_alloc | apply pw_below_drewN | apply below_drew1 | refine below_set ?_ GE223.out) | exact HB.out)⟩
   ·replace c7 := Bool.eq_false_iff.mpr c7
    subst c7
    have H1 : (if a0_2 < 0 then (crosstreeref08_Check.j1 kj1 true l0_0 l0_1 a0_2) else (if a0_2 ≥ (l0_1.length : Int) then (crosstreeref08_Check.j1 kj1 true l0_0 l0_1 a0_2) else (crosstreeref08_Check.j1 kj1 (decide ((l0_0.length : Int) < (l0_1.length : Int))) l0_0 l0_1 a0_2))) = some (r1, r2, r3) := by rw [if_neg (show ¬ (false = true) by decide)] at H; exact H
    clear H
    have H := H1
    clear H1
    have HC8 := Aside0.mk H
    clear H
    go_upto_region 3 with (fail)
    go_cut [40] (fun v40 wc => ∃ (kq : Nat) (x40_7 : Bool), v40 = .bool x40_7 ∧ Aside0 (crosstreeref08_Check.j1 kq x40_7 l0_0 l0_1 a0_2 = some (r1, r2, r3)) ∧ Aside0 (kq ≤ kj1) ∧ Aside0 (wc.heap[gb223]? = some (.cells #[(.slice A0_0 l0_0.length c0_0), (.slice A0_1 l0_1.length c0_1), .int .i64 a0_2] 25 (0, 0))) ∧ Aside0 (Below w.heap.size w wc))
    case first =>
     have H := HC8.out
     clear HC8
     by_cases c9 : a0_2 < 0
     ·rw [if_pos c9] at H
      have c9b0 : decide (a0_2 < 0) = true := decide_eq_true c9
      clear c9
      (first | rw [c9b0] | (simp only [i64_w, i32_w]; rw [c9b0]) | skip)
      have H' := Aside0.mk H
      clear H
      have hcz10_0 : wc.cell? ⟨gb223, 0, none⟩ = some (.slice A0_0 l0_0.length c0_0) := (blk_cell BK223.out 0).trans rfl
      have hcz10_1 : wc.cell? ⟨gb223, 1, none⟩ = some (.slice A0_1 l0_1.length c0_1) := (blk_cell BK223.out 1).trans rfl
      have hcz10_2 : wc.cell? ⟨gb223, 2, none⟩ = some (.int .i64 a0_2) := (blk_cell BK223.out 2).trans rfl
      have hfz10_0 := blk_frozen BK223.out 0
      have hfz10_1 := blk_frozen BK223.out 1
      have hfz10_2 := blk_frozen BK223.out 2
      go_wp2
      go_meet
      case rel => exact ⟨_, (true), (by first | rfl | (simp; done) | (simp [*]; done)), H', ⟨by have := HJ1.out; first | omega | exact Nat.le_refl _⟩, ⟨by (with_reducible repeat (first | refine blk_drewN ?_ _ | refine blk_drew ?_ | refine blk_alloc ?_ _)); exact BK223.out⟩, ⟨by repeat (first | (with_reducible first | exact HB.out | apply below_alloc | apply pw_below_drewN | apply below_drew1 | refine below_set ?_ GE223.out) | exact HB.out)⟩⟩
     ·rw [if_neg c9] at H
      have c9b0 : decide (a0_2 < 0) = false := decide_eq_false c9
      clear c9
      (first | rw [c9b0] | (simp only [i64_w, i32_w]; rw [c9b0]) | skip)
      by_cases c11 : a0_2 ≥ (l0_1.length : Int)
      ·rw [if_pos c11] at H
       have c11b0 : decide ((l0_1.length : Int) ≤ a0_2) = true := decide_eq_true c11
       clear c11
       have H' := Aside0.mk H
       clear H
       have hcz12_0 : wc.cell? ⟨gb223, 0, none⟩ = some (.slice A0_0 l0_0.length c0_0) := (blk_cell BK223.out 0).trans rfl
       have hcz12_1 : wc.cell? ⟨gb223, 1, none⟩ = some (.slice A0_1 l0_1.length c0_1) := (blk_cell BK223.out 1).trans rfl
       have hcz12_2 : wc.cell? ⟨gb223, 2, none⟩ = some (.int .i64 a0_2) := (blk_cell BK223.out 2).trans rfl
       have hfz12_0 := blk_frozen BK223.out 0
       have hfz12_1 := blk_frozen BK223.out 1
       have hfz12_2 := blk_frozen BK223.out 2
       go_wp2
       go_meet
       case rel => exact ⟨_, (true), (by first | rfl | (simp; done) | (simp [*]; done)), H', ⟨by have := HJ1.out; first | omega | exact Nat.le_refl _⟩, ⟨by (with_reducible repeat (first | refine blk_drewN ?_ _ | refine blk_drew ?_ | refine blk_alloc ?_ _)); exact BK223.out⟩, ⟨by repeat (first | (with_reducible first | exact HB.out | apply below_alloc | apply pw_below_drewN | apply below_drew1 | refine below_set ?_ GE223.out) | exact HB.out)⟩⟩
      ·rw [if_neg c11] at H
       have c11b0 : decide ((l0_1.length : Int) ≤ a0_2) = false := decide_eq_false c11
       clear c11
       have H' := Aside0.mk H
       clear H
       have hcz13_0 : wc.cell? ⟨gb223, 0, none⟩ = some (.slice A0_0 l0_0.length c0_0) := (blk_cell BK223.out 0).trans rfl
       have hcz13_1 : wc.cell? ⟨gb223, 1, none⟩ = some (.slice A0_1 l0_1.length c0_1) := (blk_cell BK223.out 1).trans rfl
       have hcz13_2 : wc.cell? ⟨gb223, 2, none⟩ = some (.int .i64 a0_2) := (blk_cell BK223.out 2).trans rfl
       have hfz13_0 := blk_frozen BK223.out 0
       have hfz13_1 := blk_frozen BK223.out 1
       have hfz13_2 := blk_frozen BK223.out 2
       go_wp2
       go_meet
       case rel => exact ⟨_, (decide ((l0_0.length : Int) < (l0_1.length : Int))), (by first | rfl | (simp; done) | (simp [*]; done)), H', ⟨by have := HJ1.out; first | omega | exact Nat.le_refl _⟩, ⟨by (with_reducible repeat (first | refine blk_drewN ?_ _ | refine blk_drew ?_ | refine blk_alloc ?_ _)); exact BK223.out⟩, ⟨by repeat (first | (with_reducible first | exact HB.out | apply below_alloc | apply pw_below_drewN | apply below_drew1 | refine below_set ?_ GE223.out) | exact HB.out)⟩⟩
    case rest =>
     clear HC8
     try clear c1
     try clear p2
     try clear c4
     try clear c4b0
     try clear c4b1
     try clear c7
     try clear c8
     try clear c9
     try clear c9b0
     try clear c11
     try clear c11b0
     try clear hcz10_0
     try clear hcz10_1
     try clear hcz10_2
     try clear hcz12_0
     try clear hcz12_1
     try clear hcz12_2
     try clear hcz13_0
     try clear hcz13_1
     try clear hcz13_2
     try clear hcz5_0
     try clear hcz5_1
     try clear hcz5_2
     try clear hcz6_0
     try clear hcz6_1
     try clear hcz6_2
     try clear hfz10_0
     try clear hfz10_1
     try clear hfz10_2
     try clear hfz12_0
     try clear hfz12_1
     try clear hfz12_2
     try clear hfz13_0
     try clear hfz13_1
     try clear hfz13_2
     try clear hfz5_0
     try clear hfz5_1
     try clear hfz5_2
     try clear hfz6_0
     try clear hfz6_1
     try clear hfz6_2
     try clear p2
     obtain ⟨kq, x40_7, rfl, HA, HJ7, BK223, HB⟩ := hcut
     cases kq with
     | zero => exact absurd HA.out (by simp [crosstreeref08_Check.j1])
     | succ kj7 =>
      have H := HA.out
      clear HA
      simp only [crosstreeref08_Check.j1] at H
      by_cases c14 : x40_7 = true
      ·subst c14
       have H1 : (some (0, 0, 8)) = some (r1, r2, r3) := by rw [if_pos rfl] at H; exact H
       clear H
       have H := H1
       clear H1
       simp only [Option.some.injEq, Prod.mk.injEq] at H
       obtain ⟨rfl, rfl, rfl⟩ := H
       go_wp2
       go_ret3
       exact ⟨by first | rfl | (simp [errW_none, errW_some] <;> rfl) | (simp [*, errW_none, errW_some] <;> rfl), by repeat (first | (with_reducible first | exact HB.out | apply below_alloc | apply pw_below_drewN | apply below_drew1 | refine below_set ?_ GE223.out) | exact HB.out)⟩
      ·replace c14 := Bool.eq_false_iff.mpr c14
       subst c14
       have H1 : (crosstreeref08_Check.l0 kj7 0 l0_0 l0_1 a0_2) = some (r1, r2, r3) := by rw [if_neg (show ¬ (false = true) by decide)] at H; exact H
       clear H
       have H := H1
       clear H1
       have H' := Aside0.mk H
       clear H
       go_wp2
       go_loopg [5] kj7 (fun kq v5 w' => ∃ (x5_3 : Int), v5 = .int .i64 x5_3 ∧ Aside0 (crosstreeref08_Check.l0 kq x5_3 l0_0 l0_1 a0_2 = some (r1, r2, r3)) ∧ Aside0 (kq ≤ kj7) ∧ Aside0 (w'.heap[gb223]? = some (.cells #[(.slice A0_0 l0_0.length c0_0), (.slice A0_1 l0_1.length c0_1), .int .i64 a0_2] 25 (0, 0))) ∧ Aside0 (Below w.heap.size w w'))
       case atStart => exact ⟨(0), (by first | rfl | (simp; done) | (simp [*]; done)), H', ⟨Nat.le_refl _⟩, ⟨by (with_reducible repeat (first | refine blk_drewN ?_ _ | refine blk_drew ?_ | refine blk_alloc ?_ _)); exact BK223.out⟩, ⟨by repeat (first | (with_reducible first | exact HB.out | apply below_alloc | apply pw_below_drewN | apply below_drew1 | refine below_set ?_ GE223.out) | exact HB.out)⟩⟩
       case round =>
        clear H'
        try clear c1
        try clear p2
        try clear c4
        try clear c4b0
        try clear c4b1
        try clear c7
        try clear c8
        try clear c9
        try clear c9b0
        try clear c11
        try clear c11b0
        try clear c14
        try clear hcz10_0
        try clear hcz10_1
        try clear hcz10_2
        try clear hcz12_0
        try clear hcz12_1
        try clear hcz12_2
        try clear hcz13_0
        try clear hcz13_1
        try clear hcz13_2
        try clear hcz5_0
        try clear hcz5_1
        try clear hcz5_2
        try clear hcz6_0
        try clear hcz6_1
        try clear hcz6_2
        try clear hfz10_0
        try clear hfz10_1
        try clear hfz10_2
        try clear hfz12_0
        try clear hfz12_1
        try clear hfz12_2
        try clear hfz13_0
        try clear hfz13_1
        try clear hfz13_2
        try clear hfz5_0
        try clear hfz5_1
        try clear hfz5_2
        try clear hfz6_0
        try clear hfz6_1
        try clear hfz6_2
        try clear p2
        obtain ⟨x5_3, rfl, HA, HK3, BK223, HB⟩ := hrel
        cases gk with
        | zero => exact absurd HA.out (by simp [crosstreeref08_Check.l0])
        | succ k3 =>
         have H := HA.out
         clear HA
         simp only [crosstreeref08_Check.l0] at H
         by_cases c15 : x5_3 < (l0_0.length : Int)
         ·rw [if_pos c15] at H
          have c15b0 : decide (x5_3 < (l0_0.length : Int)) = true := decide_eq_true c15
          clear c15
          by_cases c16 : 0 ≤ x5_3
          ·rw [if_pos c16] at H
           have c16b0 : decide (0 ≤ x5_3) = true := decide_eq_true c16
           clear c16
           by_cases c17 : ((((rd_T48 l0_0 x5_3).f0) == 4) != (decide (x5_3 < (l0_1.length : Int)))) = true
           ·rw [if_pos c17] at H
            have c17b0 : ((((rd_T48 l0_0 x5_3).f0) == 4) != (decide (x5_3 < (l0_1.length : Int)))) = true := c17
            (try (have c17b1 : decide ((((rd_T48 l0_0 x5_3).f0) == 4) = (decide (x5_3 < (l0_1.length : Int)))) = false := by simpa using c17))
            (try (have c17b2 : ((((rd_T48 l0_0 x5_3).f0) == 4) == (decide (x5_3 < (l0_1.length : Int)))) = false := by simpa using c17))
            (try (have c17b3 : ¬ ((((rd_T48 l0_0 x5_3).f0) == 4) = (decide (x5_3 < (l0_1.length : Int)))) := by simpa using c17))
            clear c17
            simp only [Option.some.injEq, Prod.mk.injEq] at H
            obtain ⟨rfl, rfl, rfl⟩ := H
            have hcz18_0 : wr.cell? ⟨gb223, 0, none⟩ = some (.slice A0_0 l0_0.length c0_0) := (blk_cell BK223.out 0).trans rfl
            have hcz18_1 : wr.cell? ⟨gb223, 1, none⟩ = some (.slice A0_1 l0_1.length c0_1) := (blk_cell BK223.out 1).trans rfl
            have hcz18_2 : wr.cell? ⟨gb223, 2, none⟩ = some (.int .i64 a0_2) := (blk_cell BK223.out 2).trans rfl
            have hfz18_0 := blk_frozen BK223.out 0
            have hfz18_1 := blk_frozen BK223.out 1
            have hfz18_2 := blk_frozen BK223.out 2
            try go_wp2
            have n0_ := Aside0.mk (blk_drew BK223.out)
            have n1_ := Aside0.mk (below_drew1 HB.out)
            clear BK223
            clear HB
            have BK223 := n0_
            have HB := n1_
            clear n0_ n1_
            have p224 : 0 ≤ (x5_3 : Int) := of_decide_eq_true (by first | (with_reducible assumption) | assumption)
            have q224 : x5_3 < (l0_0.length : Int) := of_decide_eq_true (by first | (with_reducible assumption) | assumption)
            obtain ⟨ad224, A224_7, c224_7, e224, hx224_0, hx224_1, hx224_2, hx224_3, hx224_4, hx224_5, hx224_6, hx224_7, hl224_7, hi224_7⟩ := at_T48 HR0_0.out x5_3 p224 q224
            have hw224_7 := hx224_7
            have hw224_6 := hx224_6
            have hw224_5 := hx224_5
            have hw224_4 := hx224_4
            have hw224_3 := hx224_3
            have hw224_2 := hx224_2
            have hw224_1 := hx224_1
            have hw224_0 := hx224_0
            cases e224
            replace hx224_0 := (HB.out.cell (World.block_lt_of_cell? w _ hx224_0)).trans hx224_0
            replace hx224_1 := (HB.out.cell (World.block_lt_of_cell? w _ hx224_1)).trans hx224_1
            replace hx224_2 := (HB.out.cell (World.block_lt_of_cell? w _ hx224_2)).trans hx224_2
            replace hx224_3 := (HB.out.cell (World.block_lt_of_cell? w _ hx224_3)).trans hx224_3
            replace hx224_4 := (HB.out.cell (World.block_lt_of_cell? w _ hx224_4)).trans hx224_4
            replace hx224_5 := (HB.out.cell (World.block_lt_of_cell? w _ hx224_5)).trans hx224_5
            replace hx224_6 := (HB.out.cell (World.block_lt_of_cell? w _ hx224_6)).trans hx224_6
            replace hx224_7 := (HB.out.cell (World.block_lt_of_cell? w _ hx224_7)).trans hx224_7
            have HR224_7 := Aside0.mk hi224_7
            have HC224_7 := Aside0.mk hl224_7
            clear hi224_7 hl224_7
            replace p224 := eq_true p224
            replace q224 := eq_true q224
            refine start_ (n := 13) (S := fun w' => w'.cell? ⟨gb223, 0, none⟩ = some (.slice (some ad224) l0_0.length c0_0) ∧ w'.cell? ⟨gb223, 1, none⟩ = some (.slice A0_1 l0_1.length c0_1) ∧ w'.cell? ⟨gb223, 2, none⟩ = some (.int .i64 a0_2) ∧ w'.cell? (ad224.add ((x5_3).toNat * 8)) = some (.int .i64 ((rd_T48 l0_0 x5_3).f0)) ∧ w'.cell? ⟨(ad224.add ((x5_3).toNat * 8)).block, (ad224.add ((x5_3).toNat * 8)).off + 1, none⟩ = some (.int .i64 ((rd_T48 l0_0 x5_3).f1)) ∧ w'.cell? ⟨(ad224.add ((x5_3).toNat * 8)).block, (ad224.add ((x5_3).toNat * 8)).off + 2, none⟩ = some (.int .i64 ((rd_T48 l0_0 x5_3).f2)) ∧ w'.cell? ⟨(ad224.add ((x5_3).toNat * 8)).block, (ad224.add ((x5_3).toNat * 8)).off + 3, none⟩ = some (.string ((rd_T48 l0_0 x5_3).f3)) ∧ w'.cell? ⟨(ad224.add ((x5_3).toNat * 8)).block, (ad224.add ((x5_3).toNat * 8)).off + 4, none⟩ = some (.int .i64 ((rd_T48 l0_0 x5_3).f4.f0)) ∧ w'.cell? ⟨(ad224.add ((x5_3).toNat * 8)).block, (ad224.add ((x5_3).toNat * 8)).off + 5, none⟩ = some (.int .i64 ((rd_T48 l0_0 x5_3).f4.f1)) ∧ w'.cell? ⟨(ad224.add ((x5_3).toNat * 8)).block, (ad224.add ((x5_3).toNat * 8)).off + 6, none⟩ = some (.string ((rd_T48 l0_0 x5_3).f4.f2)) ∧ w'.cell? ⟨(ad224.add ((x5_3).toNat * 8)).block, (ad224.add ((x5_3).toNat * 8)).off + 7, none⟩ = some (.slice A224_7 ((rd_T48 l0_0 x5_3).f4.f3).length c224_7)) (ds := []) #[false, false, false, false, false, false, false, false, false, false, false, false, false] (by kernel_rfl) rfl rfl ⟨(blk_cell BK223.out 0).trans rfl, (blk_cell BK223.out 1).trans rfl, (blk_cell BK223.out 2).trans rfl, ((HB.out.cell (World.block_lt_of_cell? w _ hw224_0)).trans hw224_0), ((HB.out.cell (World.block_lt_of_cell? w _ hw224_1)).trans hw224_1), ((HB.out.cell (World.block_lt_of_cell? w _ hw224_2)).trans hw224_2), ((HB.out.cell (World.block_lt_of_cell? w _ hw224_3)).trans hw224_3), ((HB.out.cell (World.block_lt_of_cell? w _ hw224_4)).trans hw224_4), ((HB.out.cell (World.block_lt_of_cell? w _ hw224_5)).trans hw224_5), ((HB.out.cell (World.block_lt_of_cell? w _ hw224_6)).trans hw224_6), ((HB.out.cell (World.block_lt_of_cell? w _ hw224_7)).trans hw224_7)⟩ (fun hHeld => ?_); refine with_tabW crosstreeref08_Check.tab8 crosstreeref08_Check.bits8 (fun HT_ HW_ => ?_)
            generalize wr.drew = w19 at BK223 HB HR224_7 hx224_0 hx224_1 hx224_2 hx224_3 hx224_4 hx224_5 hx224_6 hx224_7 hHeld ⊢
            refine pure_ (i := 0) (N := some 48) (v := ?_) (a' := ?_) #[true, false, false, false, false, false, false, false, false, false, false, false, false] rfl rfl (any_of HT_.out (by kernel_rfl)) (fun _ _ _ h => h) (Or.inl ⟨by rfl, ?_⟩) ?_ ?_
            rotate_left
            ·intro w'
             go_simp
             with_reducible rfl
            rotate_left
            ·simp only [Act.put, List.setIfInBounds_toArray, List.set_cons_zero, List.set_cons_succ, i64_w, i32_w]
             rfl
            refine pure_ (i := 2) (N := some 50) (v := ?_) (a' := ?_) #[true, false, true, false, false, false, false, false, false, false, false, false, false] rfl rfl (any_of HT_.out (by kernel_rfl)) (fun _ _ _ h => h) (Or.inl ⟨by rfl, ?_⟩) ?_ ?_
            rotate_left
            ·intro w'
             go_simp
             with_reducible rfl
            rotate_left
            ·simp only [Act.put, List.setIfInBounds_toArray, List.set_cons_zero, List.set_cons_succ, i64_w, i32_w]
             rfl
            refine pure_ (i := 7) (N := some 55) (v := ?_) (a' := ?_) #[true, false, true, false, false, false, false, true, false, false, false, false, false] rfl rfl (any_of HT_.out (by kernel_rfl)) (fun _ _ _ h => h) (Or.inl ⟨by rfl, ?_⟩) ?_ ?_
            rotate_left
            ·intro w'
             go_simp
             with_reducible rfl
            rotate_left
            ·simp only [Act.put, List.setIfInBounds_toArray, List.set_cons_zero, List.set_cons_succ, i64_w, i32_w]
             rfl
            refine pure_ (i := 8) (N := some 56) (v := ?_) (a' := ?_) #[true, false, true, false, false, false, false, true, true, false, false, false, false] rfl rfl (any_of HT_.out (by kernel_rfl)) (fun _ _ _ h => h) (Or.inl ⟨by rfl, ?_⟩) ?_ ?_
            rotate_left
            ·intro w'
             go_simp
             with_reducible rfl
            rotate_left
            ·simp only [Act.put, List.setIfInBounds_toArray, List.set_cons_zero, List.set_cons_succ, i64_w, i32_w]
             rfl
            refine take_ (i := 1) (N := some 49) (v := ?_) (a' := ?_) #[true, true, true, false, false, false, false, true, true, false, false, false, false] rfl rfl (take_ofW HT_.out HW_.out (by kernel_rfl)) (fun _ _ _ h => h) (Or.inl ⟨by rfl, ?_⟩) hHeld ?_ ?_
            rotate_left
            ·rintro w' ⟨s0, s1, s2, s3, s4, s5, s6, s7, s8, s9, s10⟩
             go_simp
             with_reducible rfl
            rotate_left
            ·simp only [Act.put, List.setIfInBounds_toArray, List.set_cons_zero, List.set_cons_succ, i64_w, i32_w]
             rfl
            refine pure_ (i := 3) (N := some 51) (v := ?_) (a' := ?_) #[true, true, true, true, false, false, false, true, true, false, false, false, false] rfl rfl (any_of HT_.out (by kernel_rfl)) (fun _ _ _ h => h) (Or.inl ⟨by rfl, ?_⟩) ?_ ?_
            rotate_left
            ·intro w'
             go_simp
             with_reducible rfl
            rotate_left
            ·simp only [Act.put, List.setIfInBounds_toArray, List.set_cons_zero, List.set_cons_succ, i64_w, i32_w]
             rfl
            refine pure_ (i := 4) (N := some 52) (v := ?_) (a' := ?_) #[true, true, true, true, true, false, false, true, true, false, false, false, false] rfl rfl (any_of HT_.out (by kernel_rfl)) (fun _ _ _ h => h) (Or.inl ⟨by rfl, ?_⟩) ?_ ?_
            rotate_left
            ·intro w'
             go_simp
             with_reducible rfl
            rotate_left
            ·simp only [Act.put, List.setIfInBounds_toArray, List.set_cons_zero, List.set_cons_succ, i64_w, i32_w]
             rfl
            refine take_ (i := 5) (N := some 53) (v := ?_) (a' := ?_) #[true, true, true, true, true, true, false, true, true, false, false, false, false] rfl rfl (take_ofW HT_.out HW_.out (by kernel_rfl)) (fun _ _ _ h => h) (Or.inl ⟨by rfl, ?_⟩) hHeld ?_ ?_
            rotate_left
            ·rintro w' ⟨s0, s1, s2, s3, s4, s5, s6, s7, s8, s9, s10⟩
             go_simp
             with_reducible rfl
            rotate_left
            ·simp only [Act.put, List.setIfInBounds_toArray, List.set_cons_zero, List.set_cons_succ, i64_w, i32_w]
             rfl
            refine pure_ (i := 6) (N := some 54) (v := ?_) (a' := ?_) #[true, true, true, true, true, true, true, true, true, false, false, false, false] rfl rfl (any_of HT_.out (by kernel_rfl)) (fun _ _ _ h => h) (Or.inl ⟨by rfl, ?_⟩) ?_ ?_
            rotate_left
            ·intro w'
             go_simp
             with_reducible rfl
            rotate_left
            ·simp only [Act.put, List.setIfInBounds_toArray, List.set_cons_zero, List.set_cons_succ, i64_w, i32_w]
             rfl
            refine take_ (i := 9) (N := some 57) (v := ?_) (a' := ?_) #[true, true, true, true, true, true, true, true, true, true, false, false, false] rfl rfl (take_ofW HT_.out HW_.out (by kernel_rfl)) (fun _ _ _ h => h) (Or.inl ⟨by rfl, ?_⟩) hHeld ?_ ?_
            rotate_left
            ·rintro w' ⟨s0, s1, s2, s3, s4, s5, s6, s7, s8, s9, s10⟩
             go_simp
             with_reducible rfl
            rotate_left
            ·simp only [Act.put, List.setIfInBounds_toArray, List.set_cons_zero, List.set_cons_succ, i64_w, i32_w]
             rfl
            refine pure_ (i := 10) (N := some 58) (v := ?_) (a' := ?_) #[true, true, true, true, true, true, true, true, true, true, true, false, false] rfl rfl (any_of HT_.out (by kernel_rfl)) (fun _ _ _ h => h) (Or.inl ⟨by rfl, ?_⟩) ?_ ?_
            rotate_left
            ·intro w'
             go_simp
             with_reducible rfl
            rotate_left
            ·simp only [Act.put, List.setIfInBounds_toArray, List.set_cons_zero, List.set_cons_succ, i64_w, i32_w]
             rfl
            refine pure_ (i := 11) (N := some 59) (v := ?_) (a' := ?_) #[true, true, true, true, true, true, true, true, true, true, true, true, false] rfl rfl (any_of HT_.out (by kernel_rfl)) (fun _ _ _ h => h) (Or.inl ⟨by rfl, ?_⟩) ?_ ?_
            rotate_left
            ·intro w'
             go_simp
             with_reducible rfl
            rotate_left
            ·simp only [Act.put, List.setIfInBounds_toArray, List.set_cons_zero, List.set_cons_succ, i64_w, i32_w]
             rfl
            refine pure_ (i := 12) (N := some 60) (v := ?_) (a' := ?_) #[true, true, true, true, true, true, true, true, true, true, true, true, true] rfl rfl (any_of HT_.out (by kernel_rfl)) (fun _ _ _ h => h) (Or.inl ⟨by rfl, ?_⟩) ?_ ?_
            rotate_left
            ·intro w'
             go_simp
             with_reducible rfl
            rotate_left
            ·simp only [Act.put, List.setIfInBounds_toArray, List.set_cons_zero, List.set_cons_succ, i64_w, i32_w]
             rfl
            refine done_ (done_of HT_.out (by kernel_rfl)) ?_
            try go_wp2
            go_ret3
            exact ⟨by first | rfl | (simp [errW_none, errW_some] <;> rfl) | (simp [*, errW_none, errW_some] <;> rfl), by repeat (first | (with_reducible first | exact HB.out | apply below_alloc | apply pw_below_drewN | apply below_drew1 | refine below_set ?_ GE223.out) | exact HB.out)⟩
           ·rw [if_neg c17] at H
            have c17b0 : ((((rd_T48 l0_0 x5_3).f0) == 4) != (decide (x5_3 < (l0_1.length : Int)))) = false := by simpa using c17
            (try (have c17b1 : decide ((((rd_T48 l0_0 x5_3).f0) == 4) = (decide (x5_3 < (l0_1.length : Int)))) = true := by simpa using c17))
            (try (have c17b2 : ((((rd_T48 l0_0 x5_3).f0) == 4) == (decide (x5_3 < (l0_1.length : Int)))) = true := by simpa using c17))
            clear c17
            have H' := Aside0.mk H
            clear H
            have hcz20_0 : wr.cell? ⟨gb223, 0, none⟩ = some (.slice A0_0 l0_0.length c0_0) := (blk_cell BK223.out 0).trans rfl
            have hcz20_1 : wr.cell? ⟨gb223, 1, none⟩ = some (.slice A0_1 l0_1.length c0_1) := (blk_cell BK223.out 1).trans rfl
            have hcz20_2 : wr.cell? ⟨gb223, 2, none⟩ = some (.int .i64 a0_2) := (blk_cell BK223.out 2).trans rfl
            have hfz20_0 := blk_frozen BK223.out 0
            have hfz20_1 := blk_frozen BK223.out 1
            have hfz20_2 := blk_frozen BK223.out 2
            try go_wp2
            have n0_ := Aside0.mk (blk_drew BK223.out)
            have n1_ := Aside0.mk (below_drew1 HB.out)
            clear BK223
            clear HB
            have BK223 := n0_
            have HB := n1_
            clear n0_ n1_
            have p224 : 0 ≤ (x5_3 : Int) := of_decide_eq_true (by first | (with_reducible assumption) | assumption)
            have q224 : x5_3 < (l0_0.length : Int) := of_decide_eq_true (by first | (with_reducible assumption) | assumption)
            obtain ⟨ad224, A224_7, c224_7, e224, hx224_0, hx224_1, hx224_2, hx224_3, hx224_4, hx224_5, hx224_6, hx224_7, hl224_7, hi224_7⟩ := at_T48 HR0_0.out x5_3 p224 q224
            have hw224_7 := hx224_7
            have hw224_6 := hx224_6
            have hw224_5 := hx224_5
            have hw224_4 := hx224_4
            have hw224_3 := hx224_3
            have hw224_2 := hx224_2
            have hw224_1 := hx224_1
            have hw224_0 := hx224_0
            cases e224
            replace hx224_0 := (HB.out.cell (World.block_lt_of_cell? w _ hx224_0)).trans hx224_0
            replace hx224_1 := (HB.out.cell (World.block_lt_of_cell? w _ hx224_1)).trans hx224_1
            replace hx224_2 := (HB.out.cell (World.block_lt_of_cell? w _ hx224_2)).trans hx224_2
            replace hx224_3 := (HB.out.cell (World.block_lt_of_cell? w _ hx224_3)).trans hx224_3
            replace hx224_4 := (HB.out.cell (World.block_lt_of_cell? w _ hx224_4)).trans hx224_4
            replace hx224_5 := (HB.out.cell (World.block_lt_of_cell? w _ hx224_5)).trans hx224_5
            replace hx224_6 := (HB.out.cell (World.block_lt_of_cell? w _ hx224_6)).trans hx224_6
            replace hx224_7 := (HB.out.cell (World.block_lt_of_cell? w _ hx224_7)).trans hx224_7
            have HR224_7 := Aside0.mk hi224_7
            have HC224_7 := Aside0.mk hl224_7
            clear hi224_7 hl224_7
            replace p224 := eq_true p224
            replace q224 := eq_true q224
            refine start_ (n := 13) (S := fun w' => w'.cell? ⟨gb223, 0, none⟩ = some (.slice (some ad224) l0_0.length c0_0) ∧ w'.cell? ⟨gb223, 1, none⟩ = some (.slice A0_1 l0_1.length c0_1) ∧ w'.cell? ⟨gb223, 2, none⟩ = some (.int .i64 a0_2) ∧ w'.cell? (ad224.add ((x5_3).toNat * 8)) = some (.int .i64 ((rd_T48 l0_0 x5_3).f0)) ∧ w'.cell? ⟨(ad224.add ((x5_3).toNat * 8)).block, (ad224.add ((x5_3).toNat * 8)).off + 1, none⟩ = some (.int .i64 ((rd_T48 l0_0 x5_3).f1)) ∧ w'.cell? ⟨(ad224.add ((x5_3).toNat * 8)).block, (ad224.add ((x5_3).toNat * 8)).off + 2, none⟩ = some (.int .i64 ((rd_T48 l0_0 x5_3).f2)) ∧ w'.cell? ⟨(ad224.add ((x5_3).toNat * 8)).block, (ad224.add ((x5_3).toNat * 8)).off + 3, none⟩ = some (.string ((rd_T48 l0_0 x5_3).f3)) ∧ w'.cell? ⟨(ad224.add ((x5_3).toNat * 8)).block, (ad224.add ((x5_3).toNat * 8)).off + 4, none⟩ = some (.int .i64 ((rd_T48 l0_0 x5_3).f4.f0)) ∧ w'.cell? ⟨(ad224.add ((x5_3).toNat * 8)).block, (ad224.add ((x5_3).toNat * 8)).off + 5, none⟩ = some (.int .i64 ((rd_T48 l0_0 x5_3).f4.f1)) ∧ w'.cell? ⟨(ad224.add ((x5_3).toNat * 8)).block, (ad224.add ((x5_3).toNat * 8)).off + 6, none⟩ = some (.string ((rd_T48 l0_0 x5_3).f4.f2)) ∧ w'.cell? ⟨(ad224.add ((x5_3).toNat * 8)).block, (ad224.add ((x5_3).toNat * 8)).off + 7, none⟩ = some (.slice A224_7 ((rd_T48 l0_0 x5_3).f4.f3).length c224_7)) (ds := []) #[false, false, false, false, false, false, false, false, false, false, false, false, false] (by kernel_rfl) rfl rfl ⟨(blk_cell BK223.out 0).trans rfl, (blk_cell BK223.out 1).trans rfl, (blk_cell BK223.out 2).trans rfl, ((HB.out.cell (World.block_lt_of_cell? w _ hw224_0)).trans hw224_0), ((HB.out.cell (World.block_lt_of_cell? w _ hw224_1)).trans hw224_1), ((HB.out.cell (World.block_lt_of_cell? w _ hw224_2)).trans hw224_2), ((HB.out.cell (World.block_lt_of_cell? w _ hw224_3)).trans hw224_3), ((HB.out.cell (World.block_lt_of_cell? w _ hw224_4)).trans hw224_4), ((HB.out.cell (World.block_lt_of_cell? w _ hw224_5)).trans hw224_5), ((HB.out.cell (World.block_lt_of_cell? w _ hw224_6)).trans hw224_6), ((HB.out.cell (World.block_lt_of_cell? w _ hw224_7)).trans hw224_7)⟩ (fun hHeld => ?_); refine with_tabW crosstreeref08_Check.tab8 crosstreeref08_Check.bits8 (fun HT_ HW_ => ?_)
            generalize wr.drew = w21 at BK223 HB HR224_7 hx224_0 hx224_1 hx224_2 hx224_3 hx224_4 hx224_5 hx224_6 hx224_7 hHeld ⊢
            refine pure_ (i := 0) (N := some 48) (v := ?_) (a' := ?_) #[true, false, false, false, false, false, false, false, false, false, false, false, false] rfl rfl (any_of HT_.out (by kernel_rfl)) (fun _ _ _ h => h) (Or.inl ⟨by rfl, ?_⟩) ?_ ?_
            rotate_left
            ·intro w'
             go_simp
             with_reducible rfl
            rotate_left
            ·simp only [Act.put, List.setIfInBounds_toArray, List.set_cons_zero, List.set_cons_succ, i64_w, i32_w]
             rfl
            refine pure_ (i := 2) (N := some 50) (v := ?_) (a' := ?_) #[true, false, true, false, false, false, false, false, false, false, false, false, false] rfl rfl (any_of HT_.out (by kernel_rfl)) (fun _ _ _ h => h) (Or.inl ⟨by rfl, ?_⟩) ?_ ?_
            rotate_left
            ·intro w'
             go_simp
             with_reducible rfl
            rotate_left
            ·simp only [Act.put, List.setIfInBounds_toArray, List.set_cons_zero, List.set_cons_succ, i64_w, i32_w]
             rfl
            refine pure_ (i := 7) (N := some 55) (v := ?_) (a' := ?_) #[true, false, true, false, false, false, false, true, false, false, false, false, false] rfl rfl (any_of HT_.out (by kernel_rfl)) (fun _ _ _ h => h) (Or.inl ⟨by rfl, ?_⟩) ?_ ?_
            rotate_left
            ·intro w'
             go_simp
             with_reducible rfl
            rotate_left
            ·simp only [Act.put, List.setIfInBounds_toArray, List.set_cons_zero, List.set_cons_succ, i64_w, i32_w]
             rfl
            refine pure_ (i := 8) (N := some 56) (v := ?_) (a' := ?_) #[true, false, true, false, false, false, false, true, true, false, false, false, false] rfl rfl (any_of HT_.out (by kernel_rfl)) (fun _ _ _ h => h) (Or.inl ⟨by rfl, ?_⟩) ?_ ?_
            rotate_left
            ·intro w'
             go_simp
             with_reducible rfl
            rotate_left
            ·simp only [Act.put, List.setIfInBounds_toArray, List.set_cons_zero, List.set_cons_succ, i64_w, i32_w]
             rfl
            refine take_ (i := 1) (N := some 49) (v := ?_) (a' := ?_) #[true, true, true, false, false, false, false, true, true, false, false, false, false] rfl rfl (take_ofW HT_.out HW_.out (by kernel_rfl)) (fun _ _ _ h => h) (Or.inl ⟨by rfl, ?_⟩) hHeld ?_ ?_
            rotate_left
            ·rintro w' ⟨s0, s1, s2, s3, s4, s5, s6, s7, s8, s9, s10⟩
             go_simp
             with_reducible rfl
            rotate_left
            ·simp only [Act.put, List.setIfInBounds_toArray, List.set_cons_zero, List.set_cons_succ, i64_w, i32_w]
             rfl
            refine pure_ (i := 3) (N := some 51) (v := ?_) (a' := ?_) #[true, true, true, true, false, false, false, true, true, false, false, false, false] rfl rfl (any_of HT_.out (by kernel_rfl)) (fun _ _ _ h => h) (Or.inl ⟨by rfl, ?_⟩) ?_ ?_
            rotate_left
            ·intro w'
             go_simp
             with_reducible rfl
            rotate_left
            ·simp only [Act.put, List.setIfInBounds_toArray, List.set_cons_zero, List.set_cons_succ, i64_w, i32_w]
             rfl
            refine pure_ (i := 4) (N := some 52) (v := ?_) (a' := ?_) #[true, true, true, true, true, false, false, true, true, false, false, false, false] rfl rfl (any_of HT_.out (by kernel_rfl)) (fun _ _ _ h => h) (Or.inl ⟨by rfl, ?_⟩) ?_ ?_
            rotate_left
            ·intro w'
             go_simp
             with_reducible rfl
            rotate_left
            ·simp only [Act.put, List.setIfInBounds_toArray, List.set_cons_zero, List.set_cons_succ, i64_w, i32_w]
             rfl
            refine take_ (i := 5) (N := some 53) (v := ?_) (a' := ?_) #[true, true, true, true, true, true, false, true, true, false, false, false, false] rfl rfl (take_ofW HT_.out HW_.out (by kernel_rfl)) (fun _ _ _ h => h) (Or.inl ⟨by rfl, ?_⟩) hHeld ?_ ?_
            rotate_left
            ·rintro w' ⟨s0, s1, s2, s3, s4, s5, s6, s7, s8, s9, s10⟩
             go_simp
             with_reducible rfl
            rotate_left
            ·simp only [Act.put, List.setIfInBounds_toArray, List.set_cons_zero, List.set_cons_succ, i64_w, i32_w]
             rfl
            refine pure_ (i := 6) (N := some 54) (v := ?_) (a' := ?_) #[true, true, true, true, true, true, true, true, true, false, false, false, false] rfl rfl (any_of HT_.out (by kernel_rfl)) (fun _ _ _ h => h) (Or.inl ⟨by rfl, ?_⟩) ?_ ?_
            rotate_left
            ·intro w'
             go_simp
             with_reducible rfl
            rotate_left
            ·simp only [Act.put, List.setIfInBounds_toArray, List.set_cons_zero, List.set_cons_succ, i64_w, i32_w]
             rfl
            refine take_ (i := 9) (N := some 57) (v := ?_) (a' := ?_) #[true, true, true, true, true, true, true, true, true, true, false, false, false] rfl rfl (take_ofW HT_.out HW_.out (by kernel_rfl)) (fun _ _ _ h => h) (Or.inl ⟨by rfl, ?_⟩) hHeld ?_ ?_
            rotate_left
            ·rintro w' ⟨s0, s1, s2, s3, s4, s5, s6, s7, s8, s9, s10⟩
             go_simp
             with_reducible rfl
            rotate_left
            ·simp only [Act.put, List.setIfInBounds_toArray, List.set_cons_zero, List.set_cons_succ, i64_w, i32_w]
             rfl
            refine pure_ (i := 10) (N := some 58) (v := ?_) (a' := ?_) #[true, true, true, true, true, true, true, true, true, true, true, false, false] rfl rfl (any_of HT_.out (by kernel_rfl)) (fun _ _ _ h => h) (Or.inl ⟨by rfl, ?_⟩) ?_ ?_
            rotate_left
            ·intro w'
             go_simp
             with_reducible rfl
            rotate_left
            ·simp only [Act.put, List.setIfInBounds_toArray, List.set_cons_zero, List.set_cons_succ, i64_w, i32_w]
             rfl
            refine pure_ (i := 11) (N := some 59) (v := ?_) (a' := ?_) #[true, true, true, true, true, true, true, true, true, true, true, true, false] rfl rfl (any_of HT_.out (by kernel_rfl)) (fun _ _ _ h => h) (Or.inl ⟨by rfl, ?_⟩) ?_ ?_
            rotate_left
            ·intro w'
             go_simp
             with_reducible rfl
            rotate_left
            ·simp only [Act.put, List.setIfInBounds_toArray, List.set_cons_zero, List.set_cons_succ, i64_w, i32_w]
             rfl
            refine pure_ (i := 12) (N := some 60) (v := ?_) (a' := ?_) #[true, true, true, true, true, true, true, true, true, true, true, true, true] rfl rfl (any_of HT_.out (by kernel_rfl)) (fun _ _ _ h => h) (Or.inl ⟨by rfl, ?_⟩) ?_ ?_
            rotate_left
            ·intro w'
             go_simp
             with_reducible rfl
            rotate_left
            ·simp only [Act.put, List.setIfInBounds_toArray, List.set_cons_zero, List.set_cons_succ, i64_w, i32_w]
             rfl
            refine done_ (done_of HT_.out (by kernel_rfl)) ?_
            try go_wp2
            go_roundg k3
            case measure => have := HJ1.out; have := HJ7.out; have := HK3.out; omega
            case rel => exact ⟨(wrap64 (x5_3 + 1)), (by first | rfl | (simp; done) | (simp [*]; done)), H', ⟨by have := HJ1.out; have := HJ7.out; have := HK3.out; omega⟩, ⟨by (with_reducible repeat (first | refine blk_drewN ?_ _ | refine blk_drew ?_ | refine blk_alloc ?_ _)); exact BK223.out⟩, ⟨by repeat (first | (with_reducible first | exact HB.out | apply below_alloc | apply pw_below_drewN | apply below_drew1 | refine below_set ?_ GE223.out) | exact HB.out)⟩⟩
          ·rw [if_neg c16] at H
           exact absurd H (by simp)
         ·rw [if_neg c15] at H
          have c15b0 : decide (x5_3 < (l0_0.length : Int)) = false := decide_eq_false c15
          clear c15
          have H' := Aside0.mk H
          clear H
          have hcz22_0 : wr.cell? ⟨gb223, 0, none⟩ = some (.slice A0_0 l0_0.length c0_0) := (blk_cell BK223.out 0).trans rfl
          have hcz22_1 : wr.cell? ⟨gb223, 1, none⟩ = some (.slice A0_1 l0_1.length c0_1) := (blk_cell BK223.out 1).trans rfl
          have hcz22_2 : wr.cell? ⟨gb223, 2, none⟩ = some (.int .i64 a0_2) := (blk_cell BK223.out 2).trans rfl
          have hfz22_0 := blk_frozen BK223.out 0
          have hfz22_1 := blk_frozen BK223.out 1
          have hfz22_2 := blk_frozen BK223.out 2
          go_wp2
          go_loopg [6] k3 (fun kq v6 w' => ∃ (x6_4 : Int), v6 = .int .i64 x6_4 ∧ Aside0 (crosstreeref08_Check.l1 kq x6_4 l0_0 l0_1 a0_2 = some (r1, r2, r3)) ∧ Aside0 (kq ≤ k3) ∧ Aside0 (w'.heap[gb223]? = some (.cells #[(.slice A0_0 l0_0.length c0_0), (.slice A0_1 l0_1.length c0_1), .int .i64 a0_2] 25 (0, 0))) ∧ Aside0 (Below w.heap.size w w'))
          case atStart => exact ⟨(0), (by first | rfl | (simp; done) | (simp [*]; done)), H', ⟨Nat.le_refl _⟩, ⟨by (with_reducible repeat (first | refine blk_drewN ?_ _ | refine blk_drew ?_ | refine blk_alloc ?_ _)); exact BK223.out⟩, ⟨by repeat (first | (with_reducible first | exact HB.out | apply below_alloc | apply pw_below_drewN | apply below_drew1 | refine below_set ?_ GE223.out) | exact HB.out)⟩⟩
          case round =>
           clear H'
           try clear c1
           try clear c2
           try clear p2
           try clear q2
           try clear hx2
           try clear c4
           try clear c4b0
           try clear c4b1
           try clear p6
           try clear c7
           try clear c8
           try clear c9
           try clear c9b0
           try clear c11
           try clear c11b0
           try clear c14
           try clear c15
           try clear c15b0
           try clear c16
           try clear c16b0
           try clear c17
           try clear c17b0
           try clear c17b1
           try clear c17b2
           try clear c22
           try clear p22
           try clear q22
           try clear hx22
           try clear hcz10_0
           try clear hcz10_1
           try clear hcz10_2
           try clear hcz12_0
           try clear hcz12_1
           try clear hcz12_2
           try clear hcz13_0
           try clear hcz13_1
           try clear hcz13_2
           try clear hcz18_0
           try clear hcz18_1
           try clear hcz18_2
           try clear hcz20_0
           try clear hcz20_1
           try clear hcz20_2
           try clear hcz22_0
           try clear hcz22_1
           try clear hcz22_2
           try clear hcz5_0
           try clear hcz5_1
           try clear hcz5_2
           try clear hcz6_0
           try clear hcz6_1
           try clear hcz6_2
           try clear hfz10_0
           try clear hfz10_1
           try clear hfz10_2
           try clear hfz12_0
           try clear hfz12_1
           try clear hfz12_2
           try clear hfz13_0
           try clear hfz13_1
           try clear hfz13_2
           try clear hfz18_0
           try clear hfz18_1
           try clear hfz18_2
           try clear hfz20_0
           try clear hfz20_1
           try clear hfz20_2
           try clear hfz22_0
           try clear hfz22_1
           try clear hfz22_2
           try clear hfz5_0
           try clear hfz5_1
           try clear hfz5_2
           try clear hfz6_0
           try clear hfz6_1
           try clear hfz6_2
           try clear hx224_0
           try clear hx224_1
           try clear hx224_2
           try clear hx224_3
           try clear hx224_4
           try clear hx224_5
           try clear hx224_6
           try clear hx224_7
           try clear p2
           try clear p224
           try clear q224
           obtain ⟨x6_4, rfl, HA, HK4, BK223, HB⟩ := hrel
           cases gk with
           | zero => exact absurd HA.out (by simp [crosstreeref08_Check.l1])
           | succ k4 =>
            have H := HA.out
            clear HA
            simp only [crosstreeref08_Check.l1] at H
            by_cases c23 : x6_4 < (l0_1.length : Int)
            ·rw [if_pos c23] at H
             have c23b0 : decide (x6_4 < (l0_1.length : Int)) = true := decide_eq_true c23
             clear c23
             by_cases c24 : 0 ≤ x6_4
             ·rw [if_pos c24] at H
              have c24b0 : decide (0 ≤ x6_4) = true := decide_eq_true c24
              clear c24
              have HC25 := Aside0.mk H
              clear H
              have hcz26_0 : wr.cell? ⟨gb223, 0, none⟩ = some (.slice A0_0 l0_0.length c0_0) := (blk_cell BK223.out 0).trans rfl
              have hcz26_1 : wr.cell? ⟨gb223, 1, none⟩ = some (.slice A0_1 l0_1.length c0_1) := (blk_cell BK223.out 1).trans rfl
              have hcz26_2 : wr.cell? ⟨gb223, 2, none⟩ = some (.int .i64 a0_2) := (blk_cell BK223.out 2).trans rfl
              have hfz26_0 := blk_frozen BK223.out 0
              have hfz26_1 := blk_frozen BK223.out 1
              have hfz26_2 := blk_frozen BK223.out 2
              have p225 : 0 ≤ (x6_4 : Int) := of_decide_eq_true (by first | (with_reducible assumption) | assumption)
              have q225 : x6_4 < (l0_1.length : Int) := of_decide_eq_true (by first | (with_reducible assumption) | assumption)
              obtain ⟨ad225, A225_3, c225_3, A225_4, c225_4, e225, hx225_0, hx225_1, hx225_2, hx225_3, hx225_4, hl225_3, hi225_3, hl225_4, hi225_4⟩ := at_T36 HR0_1.out x6_4 p225 q225
              cases e225
              replace hx225_0 := (HB.out.cell (World.block_lt_of_cell? w _ hx225_0)).trans hx225_0
              replace hx225_1 := (HB.out.cell (World.block_lt_of_cell? w _ hx225_1)).trans hx225_1
              replace hx225_2 := (HB.out.cell (World.block_lt_of_cell? w _ hx225_2)).trans hx225_2
              replace hx225_3 := (HB.out.cell (World.block_lt_of_cell? w _ hx225_3)).trans hx225_3
              replace hx225_4 := (HB.out.cell (World.block_lt_of_cell? w _ hx225_4)).trans hx225_4
              have HR225_3 := Aside0.mk hi225_3
              have HC225_3 := Aside0.mk hl225_3
              clear hi225_3 hl225_3
              have HR225_4 := Aside0.mk hi225_4
              have HC225_4 := Aside0.mk hl225_4
              clear hi225_4 hl225_4
              replace p225 := eq_true p225
              replace q225 := eq_true q225
              go_upto_region 14 with (first | ((with_reducible refine gate_dst (N := 7) rfl ?_); (try (refine gate_guard (by rfl) ?_; dsimp only)); refine box_event ?hg (N := 7) ?hd (cs := #[.string (⟨#[]⟩ : ByteArray), .int .i64 0, .int .i64 0, .slice none 0 0, .slice none 0 0]) (t := 36) ?hr ?_; (case hd => rfl); (case hg => rfl); (case hr => first | (go_simp; done) | (go_simp; rfl)); intro gb226 hg w27 hbox hb; have n0_ := Aside0.mk (blk_below (g := gb223) (o := .cells #[.slice A0_0 l0_0.length c0_0, .slice (some ad225) l0_1.length c0_1, .int .i64 a0_2] 25 (0, 0)) (by (with_reducible repeat (first | refine blk_drewN ?_ _ | refine blk_drew ?_ | refine blk_alloc ?_ _)); exact BK223.out) hb); have n1_ := Aside0.mk (below_step (by repeat (first | (with_reducible first | exact HB.out | apply below_alloc | apply pw_below_drewN | apply below_drew1 | refine below_set ?_ GE223.out) | exact HB.out)) hb); have n2_ := Aside0.mk (hbox); have n3_ := Aside0.mk ((by rw [hg]; exact (below_size (by repeat (first | (with_reducible first | exact HB.out | apply below_alloc | apply pw_below_drewN | apply below_drew1 | refine below_set ?_ GE223.out) | exact HB.out))) : w.heap.size ≤ gb226)); have n4_ := Aside0.mk ((by rw [hg]; exact (below_size (by repeat (first | (with_reducible first | exact HB.out | apply below_alloc | apply pw_below_drewN | apply below_drew1 | refine below_set ?_ GE223.out) | exact HB.out))) : w.heap.size ≤ gb226)); have n5_ := Aside0.mk ((by rw [hg]; exact Nat.ne_of_lt (blk_lt (g := gb223) (o := .cells #[.slice A0_0 l0_0.length c0_0, .slice (some ad225) l0_1.length c0_1, .int .i64 a0_2] 25 (0, 0)) (by (with_reducible repeat (first | refine blk_drewN ?_ _ | refine blk_drew ?_ | refine blk_alloc ?_ _)); exact BK223.out)) : gb223 ≠ gb226)); have n6_ := Aside0.mk ((by rw [hg]; exact Nat.ne_of_gt (blk_lt (g := gb223) (o := .cells #[.slice A0_0 l0_0.length c0_0, .slice (some ad225) l0_1.length c0_1, .int .i64 a0_2] 25 (0, 0)) (by (with_reducible repeat (first | refine blk_drewN ?_ _ | refine blk_drew ?_ | refine blk_alloc ?_ _)); exact BK223.out)) : gb226 ≠ gb223)); clear BK223; clear HB; have BK223 := n0_; have HB := n1_; have BK226 := n2_; have GW226 := n3_; have GE226 := n4_; have NB223_226 := n5_; have NB226_223 := n6_; clear n0_ n1_ n2_ n3_ n4_ n5_ n6_; clear hb hbox hg; have hnb28 := NB226_223.out; have hnc28 := NB223_226.out; have hcz29_0 : w27.cell? ⟨gb226, 0, none⟩ = some (.string (⟨#[]⟩ : ByteArray)) := (blk_cell BK226.out 0).trans rfl; have hcz29_1 : w27.cell? ⟨gb226, 1, none⟩ = some (.int .i64 0) := (blk_cell BK226.out 1).trans rfl; have hcz29_2 : w27.cell? ⟨gb226, 2, none⟩ = some (.int .i64 0) := (blk_cell BK226.out 2).trans rfl; have hcz29_3 : w27.cell? ⟨gb226, 3, none⟩ = some (.slice none 0 0) := (blk_cell BK226.out 3).trans rfl; have hcz29_4 : w27.cell? ⟨gb226, 4, none⟩ = some (.slice none 0 0) := (blk_cell BK226.out 4).trans rfl; have hfz29_0 := blk_frozen BK226.out 0; have hfz29_1 := blk_frozen BK226.out 1; have hfz29_2 := blk_frozen BK226.out 2; have hfz29_3 := blk_frozen BK226.out 3; have hfz29_4 := blk_frozen BK226.out 4))
              (try simp only [Act.put, List.setIfInBounds_toArray, List.set_cons_zero, List.set_cons_succ])
              go_cut [99] (fun v99 wc => ∃ (kq : Nat) (x99_24 : Bool), v99 = .bool x99_24 ∧ Aside0 (crosstreeref08_Check.j4 kq x6_4 x99_24 l0_0 l0_1 a0_2 ((rd_T36 l0_1 x6_4).f0) ((rd_T36 l0_1 x6_4).f1) ((rd_T36 l0_1 x6_4).f2) ((rd_T36 l0_1 x6_4).f3) ((rd_T36 l0_1 x6_4).f4) = some (r1, r2, r3)) ∧ Aside0 (kq ≤ k4) ∧ Aside0 (wc.heap[gb223]? = some (.cells #[(.slice A0_0 l0_0.length c0_0), (.slice (some ad225) l0_1.length c0_1), .int .i64 a0_2] 25 (0, 0))) ∧ Aside0 (wc.heap[gb226]? = some (.cells #[.string ((rd_T36 l0_1 x6_4).f0), .int .i64 ((rd_T36 l0_1 x6_4).f1), .int .i64 ((rd_T36 l0_1 x6_4).f2), (.slice A225_3 ((rd_T36 l0_1 x6_4).f3).length c225_3), (.slice A225_4 ((rd_T36 l0_1 x6_4).f4).length c225_4)] 36 (0, 0))) ∧ Aside0 (Below w.heap.size w wc))
              case first =>
               have H := HC25.out
               clear HC25
               by_cases c30 : (((rd_T36 l0_1 x6_4).f4).length : Int) > 4000
               ·rw [if_pos c30] at H
                have c30b0 : decide (4000 < (((rd_T36 l0_1 x6_4).f4).length : Int)) = true := decide_eq_true c30
                have c30b1 : decide (4000 < ((rd_T36 l0_1 x6_4).f4).length) = true := decide_eq_true (by omega)
                clear c30
                (first | rw [c30b0] | (simp only [i64_w, i32_w]; rw [c30b0]) | skip)
                have H' := Aside0.mk H
                clear H
                have hnb31 := NB226_223.out
                have hnc31 := NB223_226.out
                have hcz32_0 : w27.cell? ⟨gb226, 0, none⟩ = some (.string (⟨#[]⟩ : ByteArray)) := (blk_cell BK226.out 0).trans rfl
                have hcz32_1 : w27.cell? ⟨gb226, 1, none⟩ = some (.int .i64 0) := (blk_cell BK226.out 1).trans rfl
                have hcz32_2 : w27.cell? ⟨gb226, 2, none⟩ = some (.int .i64 0) := (blk_cell BK226.out 2).trans rfl
                have hcz32_3 : w27.cell? ⟨gb226, 3, none⟩ = some (.slice none 0 0) := (blk_cell BK226.out 3).trans rfl
                have hcz32_4 : w27.cell? ⟨gb226, 4, none⟩ = some (.slice none 0 0) := (blk_cell BK226.out 4).trans rfl
                have hfz32_0 := blk_frozen BK226.out 0
                have hfz32_1 := blk_frozen BK226.out 1
                have hfz32_2 := blk_frozen BK226.out 2
                have hfz32_3 := blk_frozen BK226.out 3
                have hfz32_4 := blk_frozen BK226.out 4
                go_wp2
                go_meet
                case rel => exact ⟨_, (true), (by first | rfl | (simp; done) | (simp [*]; done)), H', ⟨by have := HJ1.out; have := HJ7.out; have := HK3.out; have := HK4.out; first | omega | exact Nat.le_refl _⟩, ⟨by (with_reducible repeat (first | refine blk_drewN ?_ _ | refine blk_drew ?_ | refine blk_alloc ?_ _)); refine blk_far ?_ NB223_226.out _; (with_reducible repeat (first | refine blk_drewN ?_ _ | refine blk_drew ?_ | refine blk_alloc ?_ _)); refine blk_far ?_ NB223_226.out _; (with_reducible repeat (first | refine blk_drewN ?_ _ | refine blk_drew ?_ | refine blk_alloc ?_ _)); refine blk_far ?_ NB223_226.out _; (with_reducible repeat (first | refine blk_drewN ?_ _ | refine blk_drew ?_ | refine blk_alloc ?_ _)); refine blk_far ?_ NB223_226.out _; (with_reducible repeat (first | refine blk_drewN ?_ _ | refine blk_drew ?_ | refine blk_alloc ?_ _)); refine blk_far ?_ NB223_226.out _; (with_reducible repeat (first | refine blk_drewN ?_ _ | refine blk_drew ?_ | refine blk_alloc ?_ _)); exact BK223.out⟩, ⟨by (with_reducible repeat (first | refine blk_drewN ?_ _ | refine blk_drew ?_ | refine blk_alloc ?_ _)); refine blk_put (cs := #[.string ((rd_T36 l0_1 x6_4).f0), .int .i64 ((rd_T36 l0_1 x6_4).f1), .int .i64 ((rd_T36 l0_1 x6_4).f2), .slice A225_3 ((rd_T36 l0_1 x6_4).f3).length c225_3, .slice none 0 0]) ?_ 4 _ rfl; (with_reducible repeat (first | refine blk_drewN ?_ _ | refine blk_drew ?_ | refine blk_alloc ?_ _)); refine blk_put (cs := #[.string ((rd_T36 l0_1 x6_4).f0), .int .i64 ((rd_T36 l0_1 x6_4).f1), .int .i64 ((rd_T36 l0_1 x6_4).f2), .slice none 0 0, .slice none 0 0]) ?_ 3 _ rfl; (with_reducible repeat (first | refine blk_drewN ?_ _ | refine blk_drew ?_ | refine blk_alloc ?_ _)); refine blk_put (cs := #[.string ((rd_T36 l0_1 x6_4).f0), .int .i64 ((rd_T36 l0_1 x6_4).f1), .int .i64 0, .slice none 0 0, .slice none 0 0]) ?_ 2 _ rfl; (with_reducible repeat (first | refine blk_drewN ?_ _ | refine blk_drew ?_ | refine blk_alloc ?_ _)); refine blk_put (cs := #[.string ((rd_T36 l0_1 x6_4).f0), .int .i64 0, .int .i64 0, .slice none 0 0, .slice none 0 0]) ?_ 1 _ rfl; (with_reducible repeat (first | refine blk_drewN ?_ _ | refine blk_drew ?_ | refine blk_alloc ?_ _)); refine blk_put (cs := #[.string (⟨#[]⟩ : ByteArray), .int .i64 0, .int .i64 0, .slice none 0 0, .slice none 0 0]) ?_ 0 _ rfl; (with_reducible repeat (first | refine blk_drewN ?_ _ | refine blk_drew ?_ | refine blk_alloc ?_ _)); exact BK226.out⟩, ⟨by repeat (first | (with_reducible first | exact HB.out | apply below_alloc | apply pw_below_drewN | apply below_drew1 | refine below_set ?_ GE223.out | refine below_set ?_ GE226.out) | exact HB.out)⟩⟩
               ·rw [if_neg c30] at H
                have c30b0 : decide (4000 < (((rd_T36 l0_1 x6_4).f4).length : Int)) = false := decide_eq_false c30
                have c30b1 : decide (4000 < ((rd_T36 l0_1 x6_4).f4).length) = false := decide_eq_false (by omega)
                clear c30
                (first | rw [c30b0] | (simp only [i64_w, i32_w]; rw [c30b0]) | skip)
                by_cases c33 : (((rd_T36 l0_1 x6_4).f4).length : Int) = 0
                ·rw [if_pos c33] at H
                 have c33b0 : ((((rd_T36 l0_1 x6_4).f4).length : Int) == 0) = true := beq_iff_eq.mpr c33
                 have c33b1 : ((((rd_T36 l0_1 x6_4).f4).length : Int) != 0) = false := bne_eq_false_iff_eq.mpr c33
                 clear c33
                 have H' := Aside0.mk H
                 clear H
                 have hnb34 := NB226_223.out
                 have hnc34 := NB223_226.out
                 have hcz35_0 : w27.cell? ⟨gb226, 0, none⟩ = some (.string (⟨#[]⟩ : ByteArray)) := (blk_cell BK226.out 0).trans rfl
                 have hcz35_1 : w27.cell? ⟨gb226, 1, none⟩ = some (.int .i64 0) := (blk_cell BK226.out 1).trans rfl
                 have hcz35_2 : w27.cell? ⟨gb226, 2, none⟩ = some (.int .i64 0) := (blk_cell BK226.out 2).trans rfl
                 have hcz35_3 : w27.cell? ⟨gb226, 3, none⟩ = some (.slice none 0 0) := (blk_cell BK226.out 3).trans rfl
                 have hcz35_4 : w27.cell? ⟨gb226, 4, none⟩ = some (.slice none 0 0) := (blk_cell BK226.out 4).trans rfl
                 have hfz35_0 := blk_frozen BK226.out 0
                 have hfz35_1 := blk_frozen BK226.out 1
                 have hfz35_2 := blk_frozen BK226.out 2
                 have hfz35_3 := blk_frozen BK226.out 3
                 have hfz35_4 := blk_frozen BK226.out 4
                 go_wp2
                 go_meet
                 case rel => exact ⟨_, (true), (by first | rfl | (simp; done) | (simp [*]; done)), H', ⟨by have := HJ1.out; have := HJ7.out; have := HK3.out; have := HK4.out; first | omega | exact Nat.le_refl _⟩, ⟨by (with_reducible repeat (first | refine blk_drewN ?_ _ | refine blk_drew ?_ | refine blk_alloc ?_ _)); refine blk_far ?_ NB223_226.out _; (with_reducible repeat (first | refine blk_drewN ?_ _ | refine blk_drew ?_ | refine blk_alloc ?_ _)); refine blk_far ?_ NB223_226.out _; (with_reducible repeat (first | refine blk_drewN ?_ _ | refine blk_drew ?_ | refine blk_alloc ?_ _)); refine blk_far ?_ NB223_226.out _; (with_reducible repeat (first | refine blk_drewN ?_ _ | refine blk_drew ?_ | refine blk_alloc ?_ _)); refine blk_far ?_ NB223_226.out _; (with_reducible repeat (first | refine blk_drewN ?_ _ | refine blk_drew ?_ | refine blk_alloc ?_ _)); refine blk_far ?_ NB223_226.out _; (with_reducible repeat (first | refine blk_drewN ?_ _ | refine blk_drew ?_ | refine blk_alloc ?_ _)); exact BK223.out⟩, ⟨by (with_reducible repeat (first | refine blk_drewN ?_ _ | refine blk_drew ?_ | refine blk_alloc ?_ _)); refine blk_put (cs := #[.string ((rd_T36 l0_1 x6_4).f0), .int .i64 ((rd_T36 l0_1 x6_4).f1), .int .i64 ((rd_T36 l0_1 x6_4).f2), .slice A225_3 ((rd_T36 l0_1 x6_4).f3).length c225_3, .slice none 0 0]) ?_ 4 _ rfl; (with_reducible repeat (first | refine blk_drewN ?_ _ | refine blk_drew ?_ | refine blk_alloc ?_ _)); refine blk_put (cs := #[.string ((rd_T36 l0_1 x6_4).f0), .int .i64 ((rd_T36 l0_1 x6_4).f1), .int .i64 ((rd_T36 l0_1 x6_4).f2), .slice none 0 0, .slice none 0 0]) ?_ 3 _ rfl; (with_reducible repeat (first | refine blk_drewN ?_ _ | refine blk_drew ?_ | refine blk_alloc ?_ _)); refine blk_put (cs := #[.string ((rd_T36 l0_1 x6_4).f0), .int .i64 ((rd_T36 l0_1 x6_4).f1), .int .i64 0, .slice none 0 0, .slice none 0 0]) ?_ 2 _ rfl; (with_reducible repeat (first | refine blk_drewN ?_ _ | refine blk_drew ?_ | refine blk_alloc ?_ _)); refine blk_put (cs := #[.string ((rd_T36 l0_1 x6_4).f0), .int .i64 0, .int .i64 0, .slice none 0 0, .slice none 0 0]) ?_ 1 _ rfl; (with_reducible repeat (first | refine blk_drewN ?_ _ | refine blk_drew ?_ | refine blk_alloc ?_ _)); refine blk_put (cs := #[.string (⟨#[]⟩ : ByteArray), .int .i64 0, .int .i64 0, .slice none 0 0, .slice none 0 0]) ?_ 0 _ rfl; (with_reducible repeat (first | refine blk_drewN ?_ _ | refine blk_drew ?_ | refine blk_alloc ?_ _)); exact BK226.out⟩, ⟨by repeat (first | (with_reducible first | exact HB.out | apply below_alloc | apply pw_below_drewN | apply below_drew1 | refine below_set ?_ GE223.out | refine below_set ?_ GE226.out) | exact HB.out)⟩⟩
                ·rw [if_neg c33] at H
                 have c33b0 : ((((rd_T36 l0_1 x6_4).f4).length : Int) == 0) = false := beq_eq_false_iff_ne.mpr c33
                 have c33b1 : ((((rd_T36 l0_1 x6_4).f4).length : Int) != 0) = true := bne_iff_ne.mpr c33
                 have c33b2 : ¬ (((rd_T36 l0_1 x6_4).f4) = []) := fun h_ => c33 (by rw [h_]; rfl)
                 by_cases c36 : ((rd_T36 l0_1 x6_4).f1) > 4000
                 ·rw [if_pos c36] at H
                  have c36b0 : decide (4000 < ((rd_T36 l0_1 x6_4).f1)) = true := decide_eq_true c36
                  clear c36
                  have H' := Aside0.mk H
                  clear H
                  have hnb37 := NB226_223.out
                  have hnc37 := NB223_226.out
                  have hcz38_0 : w27.cell? ⟨gb226, 0, none⟩ = some (.string (⟨#[]⟩ : ByteArray)) := (blk_cell BK226.out 0).trans rfl
                  have hcz38_1 : w27.cell? ⟨gb226, 1, none⟩ = some (.int .i64 0) := (blk_cell BK226.out 1).trans rfl
                  have hcz38_2 : w27.cell? ⟨gb226, 2, none⟩ = some (.int .i64 0) := (blk_cell BK226.out 2).trans rfl
                  have hcz38_3 : w27.cell? ⟨gb226, 3, none⟩ = some (.slice none 0 0) := (blk_cell BK226.out 3).trans rfl
                  have hcz38_4 : w27.cell? ⟨gb226, 4, none⟩ = some (.slice none 0 0) := (blk_cell BK226.out 4).trans rfl
                  have hfz38_0 := blk_frozen BK226.out 0
                  have hfz38_1 := blk_frozen BK226.out 1
                  have hfz38_2 := blk_frozen BK226.out 2
                  have hfz38_3 := blk_frozen BK226.out 3
                  have hfz38_4 := blk_frozen BK226.out 4
                  go_wp2
                  go_meet
                  case rel => exact ⟨_, (true), (by first | rfl | (simp; done) | (simp [*]; done)), H', ⟨by have := HJ1.out; have := HJ7.out; have := HK3.out; have := HK4.out; first | omega | exact Nat.le_refl _⟩, ⟨by (with_reducible repeat (first | refine blk_drewN ?_ _ | refine blk_drew ?_ | refine blk_alloc ?_ _)); refine blk_far ?_ NB223_226.out _; (with_reducible repeat (first | refine blk_drewN ?_ _ | refine blk_drew ?_ | refine blk_alloc ?_ _)); refine blk_far ?_ NB223_226.out _; (with_reducible repeat (first | refine blk_drewN ?_ _ | refine blk_drew ?_ | refine blk_alloc ?_ _)); refine blk_far ?_ NB223_226.out _; (with_reducible repeat (first | refine blk_drewN ?_ _ | refine blk_drew ?_ | refine blk_alloc ?_ _)); refine blk_far ?_ NB223_226.out _; (with_reducible repeat (first | refine blk_drewN ?_ _ | refine blk_drew ?_ | refine blk_alloc ?_ _)); refine blk_far ?_ NB223_226.out _; (with_reducible repeat (first | refine blk_drewN ?_ _ | refine blk_drew ?_ | refine blk_alloc ?_ _)); exact BK223.out⟩, ⟨by (with_reducible repeat (first | refine blk_drewN ?_ _ | refine blk_drew ?_ | refine blk_alloc ?_ _)); refine blk_put (cs := #[.string ((rd_T36 l0_1 x6_4).f0), .int .i64 ((rd_T36 l0_1 x6_4).f1), .int .i64 ((rd_T36 l0_1 x6_4).f2), .slice A225_3 ((rd_T36 l0_1 x6_4).f3).length c225_3, .slice none 0 0]) ?_ 4 _ rfl; (with_reducible repeat (first | refine blk_drewN ?_ _ | refine blk_drew ?_ | refine blk_alloc ?_ _)); refine blk_put (cs := #[.string ((rd_T36 l0_1 x6_4).f0), .int .i64 ((rd_T36 l0_1 x6_4).f1), .int .i64 ((rd_T36 l0_1 x6_4).f2), .slice none 0 0, .slice none 0 0]) ?_ 3 _ rfl; (with_reducible repeat (first | refine blk_drewN ?_ _ | refine blk_drew ?_ | refine blk_alloc ?_ _)); refine blk_put (cs := #[.string ((rd_T36 l0_1 x6_4).f0), .int .i64 ((rd_T36 l0_1 x6_4).f1), .int .i64 0, .slice none 0 0, .slice none 0 0]) ?_ 2 _ rfl; (with_reducible repeat (first | refine blk_drewN ?_ _ | refine blk_drew ?_ | refine blk_alloc ?_ _)); refine blk_put (cs := #[.string ((rd_T36 l0_1 x6_4).f0), .int .i64 0, .int .i64 0, .slice none 0 0, .slice none 0 0]) ?_ 1 _ rfl; (with_reducible repeat (first | refine blk_drewN ?_ _ | refine blk_drew ?_ | refine blk_alloc ?_ _)); refine blk_put (cs := #[.string (⟨#[]⟩ : ByteArray), .int .i64 0, .int .i64 0, .slice none 0 0, .slice none 0 0]) ?_ 0 _ rfl; (with_reducible repeat (first | refine blk_drewN ?_ _ | refine blk_drew ?_ | refine blk_alloc ?_ _)); exact BK226.out⟩, ⟨by repeat (first | (with_reducible first | exact HB.out | apply below_alloc | apply pw_below_drewN | apply below_drew1 | refine below_set ?_ GE223.out | refine below_set ?_ GE226.out) | exact HB.out)⟩⟩
                 ·rw [if_neg c36] at H
                  have c36b0 : decide (4000 < ((rd_T36 l0_1 x6_4).f1)) = false := decide_eq_false c36
                  clear c36
                  by_cases c39 : ((rd_T36 l0_1 x6_4).f1) < ((rd_T36 l0_1 x6_4).f2)
                  ·rw [if_pos c39] at H
                   have c39b0 : decide (((rd_T36 l0_1 x6_4).f1) < ((rd_T36 l0_1 x6_4).f2)) = true := decide_eq_true c39
                   clear c39
                   have H' := Aside0.mk H
                   clear H
                   have hnb40 := NB226_223.out
                   have hnc40 := NB223_226.out
                   have hcz41_0 : w27.cell? ⟨gb226, 0, none⟩ = some (.string (⟨#[]⟩ : ByteArray)) := (blk_cell BK226.out 0).trans rfl
                   have hcz41_1 : w27.cell? ⟨gb226, 1, none⟩ = some (.int .i64 0) := (blk_cell BK226.out 1).trans rfl
                   have hcz41_2 : w27.cell? ⟨gb226, 2, none⟩ = some (.int .i64 0) := (blk_cell BK226.out 2).trans rfl
                   have hcz41_3 : w27.cell? ⟨gb226, 3, none⟩ = some (.slice none 0 0) := (blk_cell BK226.out 3).trans rfl
                   have hcz41_4 : w27.cell? ⟨gb226, 4, none⟩ = some (.slice none 0 0) := (blk_cell BK226.out 4).trans rfl
                   have hfz41_0 := blk_frozen BK226.out 0
                   have hfz41_1 := blk_frozen BK226.out 1
                   have hfz41_2 := blk_frozen BK226.out 2
                   have hfz41_3 := blk_frozen BK226.out 3
                   have hfz41_4 := blk_frozen BK226.out 4
                   go_wp2
                   go_meet
                   case rel => exact ⟨_, (true), (by first | rfl | (simp; done) | (simp [*]; done)), H', ⟨by have := HJ1.out; have := HJ7.out; have := HK3.out; have := HK4.out; first | omega | exact Nat.le_refl _⟩, ⟨by (with_reducible repeat (first | refine blk_drewN ?_ _ | refine blk_drew ?_ | refine blk_alloc ?_ _)); refine blk_far ?_ NB223_226.out _; (with_reducible repeat (first | refine blk_drewN ?_ _ | refine blk_drew ?_ | refine blk_alloc ?_ _)); refine blk_far ?_ NB223_226.out _; (with_reducible repeat (first | refine blk_drewN ?_ _ | refine blk_drew ?_ | refine blk_alloc ?_ _)); refine blk_far ?_ NB223_226.out _; (with_reducible repeat (first | refine blk_drewN ?_ _ | refine blk_drew ?_ | refine blk_alloc ?_ _)); refine blk_far ?_ NB223_226.out _; (with_reducible repeat (first | refine blk_drewN ?_ _ | refine blk_drew ?_ | refine blk_alloc ?_ _)); refine blk_far ?_ NB223_226.out _; (with_reducible repeat (first | refine blk_drewN ?_ _ | refine blk_drew ?_ | refine blk_alloc ?_ _)); exact BK223.out⟩, ⟨by (with_reducible repeat (first | refine blk_drewN ?_ _ | refine blk_drew ?_ | refine blk_alloc ?_ _)); refine blk_put (cs := #[.string ((rd_T36 l0_1 x6_4).f0), .int .i64 ((rd_T36 l0_1 x6_4).f1), .int .i64 ((rd_T36 l0_1 x6_4).f2), .slice A225_3 ((rd_T36 l0_1 x6_4).f3).length c225_3, .slice none 0 0]) ?_ 4 _ rfl; (with_reducible repeat (first | refine blk_drewN ?_ _ | refine blk_drew ?_ | refine blk_alloc ?_ _)); refine blk_put (cs := #[.string ((rd_T36 l0_1 x6_4).f0), .int .i64 ((rd_T36 l0_1 x6_4).f1), .int .i64 ((rd_T36 l0_1 x6_4).f2), .slice none 0 0, .slice none 0 0]) ?_ 3 _ rfl; (with_reducible repeat (first | refine blk_drewN ?_ _ | refine blk_drew ?_ | refine blk_alloc ?_ _)); refine blk_put (cs := #[.string ((rd_T36 l0_1 x6_4).f0), .int .i64 ((rd_T36 l0_1 x6_4).f1), .int .i64 0, .slice none 0 0, .slice none 0 0]) ?_ 2 _ rfl; (with_reducible repeat (first | refine blk_drewN ?_ _ | refine blk_drew ?_ | refine blk_alloc ?_ _)); refine blk_put (cs := #[.string ((rd_T36 l0_1 x6_4).f0), .int .i64 0, .int .i64 0, .slice none 0 0, .slice none 0 0]) ?_ 1 _ rfl; (with_reducible repeat (first | refine blk_drewN ?_ _ | refine blk_drew ?_ | refine blk_alloc ?_ _)); refine blk_put (cs := #[.string (⟨#[]⟩ : ByteArray), .int .i64 0, .int .i64 0, .slice none 0 0, .slice none 0 0]) ?_ 0 _ rfl; (with_reducible repeat (first | refine blk_drewN ?_ _ | refine blk_drew ?_ | refine blk_alloc ?_ _)); exact BK226.out⟩, ⟨by repeat (first | (with_reducible first | exact HB.out | apply below_alloc | apply pw_below_drewN | apply below_drew1 | refine below_set ?_ GE223.out | refine below_set ?_ GE226.out) | exact HB.out)⟩⟩
                  ·rw [if_neg c39] at H
                   have c39b0 : decide (((rd_T36 l0_1 x6_4).f1) < ((rd_T36 l0_1 x6_4).f2)) = false := decide_eq_false c39
                   clear c39
                   have H' := Aside0.mk H
                   clear H
                   have hnb42 := NB226_223.out
                   have hnc42 := NB223_226.out
                   have hcz43_0 : w27.cell? ⟨gb226, 0, none⟩ = some (.string (⟨#[]⟩ : ByteArray)) := (blk_cell BK226.out 0).trans rfl
                   have hcz43_1 : w27.cell? ⟨gb226, 1, none⟩ = some (.int .i64 0) := (blk_cell BK226.out 1).trans rfl
                   have hcz43_2 : w27.cell? ⟨gb226, 2, none⟩ = some (.int .i64 0) := (blk_cell BK226.out 2).trans rfl
                   have hcz43_3 : w27.cell? ⟨gb226, 3, none⟩ = some (.slice none 0 0) := (blk_cell BK226.out 3).trans rfl
                   have hcz43_4 : w27.cell? ⟨gb226, 4, none⟩ = some (.slice none 0 0) := (blk_cell BK226.out 4).trans rfl
                   have hfz43_0 := blk_frozen BK226.out 0
                   have hfz43_1 := blk_frozen BK226.out 1
                   have hfz43_2 := blk_frozen BK226.out 2
                   have hfz43_3 := blk_frozen BK226.out 3
                   have hfz43_4 := blk_frozen BK226.out 4
                   go_wp2
                   go_meet
                   case rel => exact ⟨_, (decide (((rd_T36 l0_1 x6_4).f2) < 0)), (by first | rfl | (simp; done) | (simp [*]; done)), H', ⟨by have := HJ1.out; have := HJ7.out; have := HK3.out; have := HK4.out; first | omega | exact Nat.le_refl _⟩, ⟨by (with_reducible repeat (first | refine blk_drewN ?_ _ | refine blk_drew ?_ | refine blk_alloc ?_ _)); refine blk_far ?_ NB223_226.out _; (with_reducible repeat (first | refine blk_drewN ?_ _ | refine blk_drew ?_ | refine blk_alloc ?_ _)); refine blk_far ?_ NB223_226.out _; (with_reducible repeat (first | refine blk_drewN ?_ _ | refine blk_drew ?_ | refine blk_alloc ?_ _)); refine blk_far ?_ NB223_226.out _; (with_reducible repeat (first | refine blk_drewN ?_ _ | refine blk_drew ?_ | refine blk_alloc ?_ _)); refine blk_far ?_ NB223_226.out _; (with_reducible repeat (first | refine blk_drewN ?_ _ | refine blk_drew ?_ | refine blk_alloc ?_ _)); refine blk_far ?_ NB223_226.out _; (with_reducible repeat (first | refine blk_drewN ?_ _ | refine blk_drew ?_ | refine blk_alloc ?_ _)); exact BK223.out⟩, ⟨by (with_reducible repeat (first | refine blk_drewN ?_ _ | refine blk_drew ?_ | refine blk_alloc ?_ _)); refine blk_put (cs := #[.string ((rd_T36 l0_1 x6_4).f0), .int .i64 ((rd_T36 l0_1 x6_4).f1), .int .i64 ((rd_T36 l0_1 x6_4).f2), .slice A225_3 ((rd_T36 l0_1 x6_4).f3).length c225_3, .slice none 0 0]) ?_ 4 _ rfl; (with_reducible repeat (first | refine blk_drewN ?_ _ | refine blk_drew ?_ | refine blk_alloc ?_ _)); refine blk_put (cs := #[.string ((rd_T36 l0_1 x6_4).f0), .int .i64 ((rd_T36 l0_1 x6_4).f1), .int .i64 ((rd_T36 l0_1 x6_4).f2), .slice none 0 0, .slice none 0 0]) ?_ 3 _ rfl; (with_reducible repeat (first | refine blk_drewN ?_ _ | refine blk_drew ?_ | refine blk_alloc ?_ _)); refine blk_put (cs := #[.string ((rd_T36 l0_1 x6_4).f0), .int .i64 ((rd_T36 l0_1 x6_4).f1), .int .i64 0, .slice none 0 0, .slice none 0 0]) ?_ 2 _ rfl; (with_reducible repeat (first | refine blk_drewN ?_ _ | refine blk_drew ?_ | refine blk_alloc ?_ _)); refine blk_put (cs := #[.string ((rd_T36 l0_1 x6_4).f0), .int .i64 0, .int .i64 0, .slice none 0 0, .slice none 0 0]) ?_ 1 _ rfl; (with_reducible repeat (first | refine blk_drewN ?_ _ | refine blk_drew ?_ | refine blk_alloc ?_ _)); refine blk_put (cs := #[.string (⟨#[]⟩ : ByteArray), .int .i64 0, .int .i64 0, .slice none 0 0, .slice none 0 0]) ?_ 0 _ rfl; (with_reducible repeat (first | refine blk_drewN ?_ _ | refine blk_drew ?_ | refine blk_alloc ?_ _)); exact BK226.out⟩, ⟨by repeat (first | (with_reducible first | exact HB.out | apply below_alloc | apply pw_below_drewN | apply below_drew1 | refine below_set ?_ GE223.out | refine below_set ?_ GE226.out) | exact HB.out)⟩⟩
              case rest =>
               clear HC25
               try clear c1
               try clear c2
               try clear p2
               try clear q2
               try clear hx2
               try clear c3
               try clear c4
               try clear c4b0
               try clear c4b1
               try clear p6
               try clear c7
               try clear c8
               try clear c9
               try clear c9b0
               try clear c11
               try clear c11b0
               try clear c14
               try clear c15
               try clear c15b0
               try clear c16
               try clear c16b0
               try clear c17
               try clear c17b0
               try clear c17b1
               try clear c17b2
               try clear c22
               try clear p22
               try clear q22
               try clear hx22
               try clear c23
               try clear c23b0
               try clear c24
               try clear c24b0
               try clear c28
               try clear c30
               try clear c30b0
               try clear c30b1
               try clear c31
               try clear c33
               try clear c33b0
               try clear c33b1
               try clear c33b2
               try clear c34
               try clear c36
               try clear c36b0
               try clear c37
               try clear c39
               try clear c39b0
               try clear c40
               try clear c42
               try clear hcz10_0
               try clear hcz10_1
               try clear hcz10_2
               try clear hcz12_0
               try clear hcz12_1
               try clear hcz12_2
               try clear hcz13_0
               try clear hcz13_1
               try clear hcz13_2
               try clear hcz18_0
               try clear hcz18_1
               try clear hcz18_2
               try clear hcz20_0
               try clear hcz20_1
               try clear hcz20_2
               try clear hcz22_0
               try clear hcz22_1
               try clear hcz22_2
               try clear hcz26_0
               try clear hcz26_1
               try clear hcz26_2
               try clear hcz29_0
               try clear hcz29_1
               try clear hcz29_2
               try clear hcz29_3
               try clear hcz29_4
               try clear hcz32_0
               try clear hcz32_1
               try clear hcz32_2
               try clear hcz32_3
               try clear hcz32_4
               try clear hcz35_0
               try clear hcz35_1
               try clear hcz35_2
               try clear hcz35_3
               try clear hcz35_4
               try clear hcz38_0
               try clear hcz38_1
               try clear hcz38_2
               try clear hcz38_3
               try clear hcz38_4
               try clear hcz41_0
               try clear hcz41_1
               try clear hcz41_2
               try clear hcz41_3
               try clear hcz41_4
               try clear hcz43_0
               try clear hcz43_1
               try clear hcz43_2
               try clear hcz43_3
               try clear hcz43_4
               try clear hcz5_0
               try clear hcz5_1
               try clear hcz5_2
               try clear hcz6_0
               try clear hcz6_1
               try clear hcz6_2
               try clear hfz10_0
               try clear hfz10_1
               try clear hfz10_2
               try clear hfz12_0
               try clear hfz12_1
               try clear hfz12_2
               try clear hfz13_0
               try clear hfz13_1
               try clear hfz13_2
               try clear hfz18_0
               try clear hfz18_1
               try clear hfz18_2
               try clear hfz20_0
               try clear hfz20_1
               try clear hfz20_2
               try clear hfz22_0
               try clear hfz22_1
               try clear hfz22_2
               try clear hfz26_0
               try clear hfz26_1
               try clear hfz26_2
               try clear hfz29_0
               try clear hfz29_1
               try clear hfz29_2
               try clear hfz29_3
               try clear hfz29_4
               try clear hfz32_0
               try clear hfz32_1
               try clear hfz32_2
               try clear hfz32_3
               try clear hfz32_4
               try clear hfz35_0
               try clear hfz35_1
               try clear hfz35_2
               try clear hfz35_3
               try clear hfz35_4
               try clear hfz38_0
               try clear hfz38_1
               try clear hfz38_2
               try clear hfz38_3
               try clear hfz38_4
               try clear hfz41_0
               try clear hfz41_1
               try clear hfz41_2
               try clear hfz41_3
               try clear hfz41_4
               try clear hfz43_0
               try clear hfz43_1
               try clear hfz43_2
               try clear hfz43_3
               try clear hfz43_4
               try clear hfz5_0
               try clear hfz5_1
               try clear hfz5_2
               try clear hfz6_0
               try clear hfz6_1
               try clear hfz6_2
               try clear hx224_0
               try clear hx224_1
               try clear hx224_2
               try clear hx224_3
               try clear hx224_4
               try clear hx224_5
               try clear hx224_6
               try clear hx224_7
               try clear hx225_0
               try clear hx225_1
               try clear hx225_2
               try clear hx225_3
               try clear hx225_4
               try clear p2
               try clear p22
               try clear p224
               try clear p225
               try clear p6
               try clear q2
               try clear q22
               try clear q224
               try clear q225
               obtain ⟨kq, x99_24, rfl, HA, HJ24, BK223, BK226, HB⟩ := hcut
               cases kq with
               | zero => exact absurd HA.out (by simp [crosstreeref08_Check.j4])
               | succ kj24 =>
                have H := HA.out
                clear HA
                simp only [crosstreeref08_Check.j4] at H
                by_cases c44 : x99_24 = true
                ·subst c44
                 have H1 : (some (x6_4, 0, 5)) = some (r1, r2, r3) := by rw [if_pos rfl] at H; exact H
                 clear H
                 have H := H1
                 clear H1
                 simp only [Option.some.injEq, Prod.mk.injEq] at H
                 obtain ⟨rfl, rfl, rfl⟩ := H
                 go_wp2
                 go_ret3
                 exact ⟨by first | rfl | (simp [errW_none, errW_some] <;> rfl) | (simp [*, errW_none, errW_some] <;> rfl), by repeat (first | (with_reducible first | exact HB.out | apply below_alloc | apply pw_below_drewN | apply below_drew1 | refine below_set ?_ GE223.out | refine below_set ?_ GE226.out) | exact HB.out)⟩
                ·replace c44 := Bool.eq_false_iff.mpr c44
                 subst c44
                 have H1 : (crosstreeref08_Check.l2 kj24 x6_4 0 l0_0 l0_1 a0_2 ((rd_T36 l0_1 x6_4).f0) ((rd_T36 l0_1 x6_4).f1) ((rd_T36 l0_1 x6_4).f2) ((rd_T36 l0_1 x6_4).f3) ((rd_T36 l0_1 x6_4).f4)) = some (r1, r2, r3) := by rw [if_neg (show ¬ (false = true) by decide)] at H; exact H
                 clear H
                 have H := H1
                 clear H1
                 have H' := Aside0.mk H
                 clear H
                 go_wp2
                 go_loopg [8] kj24 (fun kq v8 w' => ∃ (x8_6 : Int), v8 = .int .i64 x8_6 ∧ Aside0 (crosstreeref08_Check.l2 kq x6_4 x8_6 l0_0 l0_1 a0_2 ((rd_T36 l0_1 x6_4).f0) ((rd_T36 l0_1 x6_4).f1) ((rd_T36 l0_1 x6_4).f2) ((rd_T36 l0_1 x6_4).f3) ((rd_T36 l0_1 x6_4).f4) = some (r1, r2, r3)) ∧ Aside0 (kq ≤ kj24) ∧ Aside0 (w'.heap[gb223]? = some (.cells #[(.slice A0_0 l0_0.length c0_0), (.slice (some ad225) l0_1.length c0_1), .int .i64 a0_2] 25 (0, 0))) ∧ Aside0 (w'.heap[gb226]? = some (.cells #[.string ((rd_T36 l0_1 x6_4).f0), .int .i64 ((rd_T36 l0_1 x6_4).f1), .int .i64 ((rd_T36 l0_1 x6_4).f2), (.slice A225_3 ((rd_T36 l0_1 x6_4).f3).length c225_3), (.slice A225_4 ((rd_T36 l0_1 x6_4).f4).length c225_4)] 36 (0, 0))) ∧ Aside0 (Below w.heap.size w w'))
                 case atStart => exact ⟨(0), (by first | rfl | (simp; done) | (simp [*]; done)), H', ⟨Nat.le_refl _⟩, ⟨by (with_reducible repeat (first | refine blk_drewN ?_ _ | refine blk_drew ?_ | refine blk_alloc ?_ _)); exact BK223.out⟩, ⟨by (with_reducible repeat (first | refine blk_drewN ?_ _ | refine blk_drew ?_ | refine blk_alloc ?_ _)); exact BK226.out⟩, ⟨by repeat (first | (with_reducible first | exact HB.out | apply below_alloc | apply pw_below_drewN | apply below_drew1 | refine below_set ?_ GE223.out | refine below_set ?_ GE226.out) | exact HB.out)⟩⟩
                 case round =>
                  clear H'
                  try clear c1
                  try clear c2
                  try clear p2
                  try clear q2
                  try clear hx2
                  try clear c3
                  try clear c4
                  try clear c4b0
                  try clear c4b1
                  try clear p6
                  try clear c7
                  try clear c8
                  try clear c9
                  try clear c9b0
                  try clear c11
                  try clear c11b0
                  try clear c14
                  try clear c15
                  try clear c15b0
                  try clear c16
                  try clear c16b0
                  try clear c17
                  try clear c17b0
                  try clear c17b1
                  try clear c17b2
                  try clear c22
                  try clear p22
                  try clear q22
                  try clear hx22
                  try clear c23
                  try clear c23b0
                  try clear c24
                  try clear c24b0
                  try clear c28
                  try clear c30
                  try clear c30b0
                  try clear c30b1
                  try clear c31
                  try clear c33
                  try clear c33b0
                  try clear c33b1
                  try clear c33b2
                  try clear c34
                  try clear c36
                  try clear c36b0
                  try clear c37
                  try clear c39
                  try clear c39b0
                  try clear c40
                  try clear c42
                  try clear c44
                  try clear hcz10_0
                  try clear hcz10_1
                  try clear hcz10_2
                  try clear hcz12_0
                  try clear hcz12_1
                  try clear hcz12_2
                  try clear hcz13_0
                  try clear hcz13_1
                  try clear hcz13_2
                  try clear hcz18_0
                  try clear hcz18_1
                  try clear hcz18_2
                  try clear hcz20_0
                  try clear hcz20_1
                  try clear hcz20_2
                  try clear hcz22_0
                  try clear hcz22_1
                  try clear hcz22_2
                  try clear hcz26_0
                  try clear hcz26_1
                  try clear hcz26_2
                  try clear hcz29_0
                  try clear hcz29_1
                  try clear hcz29_2
                  try clear hcz29_3
                  try clear hcz29_4
                  try clear hcz32_0
                  try clear hcz32_1
                  try clear hcz32_2
                  try clear hcz32_3
                  try clear hcz32_4
                  try clear hcz35_0
                  try clear hcz35_1
                  try clear hcz35_2
                  try clear hcz35_3
                  try clear hcz35_4
                  try clear hcz38_0
                  try clear hcz38_1
                  try clear hcz38_2
                  try clear hcz38_3
                  try clear hcz38_4
                  try clear hcz41_0
                  try clear hcz41_1
                  try clear hcz41_2
                  try clear hcz41_3
                  try clear hcz41_4
                  try clear hcz43_0
                  try clear hcz43_1
                  try clear hcz43_2
                  try clear hcz43_3
                  try clear hcz43_4
                  try clear hcz5_0
                  try clear hcz5_1
                  try clear hcz5_2
                  try clear hcz6_0
                  try clear hcz6_1
                  try clear hcz6_2
                  try clear hfz10_0
                  try clear hfz10_1
                  try clear hfz10_2
                  try clear hfz12_0
                  try clear hfz12_1
                  try clear hfz12_2
                  try clear hfz13_0
                  try clear hfz13_1
                  try clear hfz13_2
                  try clear hfz18_0
                  try clear hfz18_1
                  try clear hfz18_2
                  try clear hfz20_0
                  try clear hfz20_1
                  try clear hfz20_2
                  try clear hfz22_0
                  try clear hfz22_1
                  try clear hfz22_2
                  try clear hfz26_0
                  try clear hfz26_1
                  try clear hfz26_2
                  try clear hfz29_0
                  try clear hfz29_1
                  try clear hfz29_2
                  try clear hfz29_3
                  try clear hfz29_4
                  try clear hfz32_0
                  try clear hfz32_1
                  try clear hfz32_2
                  try clear hfz32_3
                  try clear hfz32_4
                  try clear hfz35_0
                  try clear hfz35_1
                  try clear hfz35_2
                  try clear hfz35_3
                  try clear hfz35_4
                  try clear hfz38_0
                  try clear hfz38_1
                  try clear hfz38_2
                  try clear hfz38_3
                  try clear hfz38_4
                  try clear hfz41_0
                  try clear hfz41_1
                  try clear hfz41_2
                  try clear hfz41_3
                  try clear hfz41_4
                  try clear hfz43_0
                  try clear hfz43_1
                  try clear hfz43_2
                  try clear hfz43_3
                  try clear hfz43_4
                  try clear hfz5_0
                  try clear hfz5_1
                  try clear hfz5_2
                  try clear hfz6_0
                  try clear hfz6_1
                  try clear hfz6_2
                  try clear hx224_0
                  try clear hx224_1
                  try clear hx224_2
                  try clear hx224_3
                  try clear hx224_4
                  try clear hx224_5
                  try clear hx224_6
                  try clear hx224_7
                  try clear hx225_0
                  try clear hx225_1
                  try clear hx225_2
                  try clear hx225_3
                  try clear hx225_4
                  try clear p2
                  try clear p22
                  try clear p224
                  try clear p225
                  try clear p6
                  try clear q2
                  try clear q22
                  try clear q224
                  try clear q225
                  obtain ⟨x8_6, rfl, HA, HK6, BK223, BK226, HB⟩ := hrel
                  cases gk with
                  | zero => exact absurd HA.out (by simp [crosstreeref08_Check.l2])
                  | succ k6 =>
                   have H := HA.out
                   clear HA
                   simp only [crosstreeref08_Check.l2] at H
                   by_cases c45 : x8_6 < (((rd_T36 l0_1 x6_4).f3).length : Int)
                   ·rw [if_pos c45] at H
                    have c45b0 : decide (x8_6 < (((rd_T36 l0_1 x6_4).f3).length : Int)) = true := decide_eq_true c45
                    clear c45
                    by_cases c46 : 0 ≤ x8_6
                    ·rw [if_pos c46] at H
                     have c46b0 : decide (0 ≤ x8_6) = true := decide_eq_true c46
                     clear c46
                     replace H := Option.bind_eq_some_iff.mp H
                     obtain ⟨t228, A470, H⟩ := H
                     replace H : (if t228 = 2 then (if 0 ≤ (rd ((rd_T36 l0_1 x6_4).f3) x8_6) then (if (rd ((rd_T36 l0_1 x6_4).f3) x8_6) < (l0_0.length : Int) then (if ((rd_T48 l0_0 (rd ((rd_T36 l0_1 x6_4).f3) x8_6)).f2) = x6_4 then (crosstreeref08_Check.l2 k6 x6_4 (wrap64 (x8_6 + 1)) l0_0 l0_1 a0_2 ((rd_T36 l0_1 x6_4).f0) ((rd_T36 l0_1 x6_4).f1) ((rd_T36 l0_1 x6_4).f2) ((rd_T36 l0_1 x6_4).f3) ((rd_T36 l0_1 x6_4).f4)) else (some (x6_4, 0, 8))) else (none)) else (none)) else (some (x6_4, 0, 8))) = some (r1, r2, r3) := H
                     have A47 := Aside0.mk A470
                     clear A470
                     by_cases c48 : t228 = 2
                     ·rw [if_pos c48] at H
                      have c48b0 : (t228 == 2) = true := beq_iff_eq.mpr c48
                      have c48b1 : (t228 != 2) = false := bne_eq_false_iff_eq.mpr c48
                      clear c48
                      by_cases c49 : 0 ≤ (rd ((rd_T36 l0_1 x6_4).f3) x8_6)
                      ·rw [if_pos c49] at H
                       have c49b0 : decide (0 ≤ (rd ((rd_T36 l0_1 x6_4).f3) x8_6)) = true := decide_eq_true c49
                       clear c49
                       by_cases c50 : (rd ((rd_T36 l0_1 x6_4).f3) x8_6) < (l0_0.length : Int)
                       ·rw [if_pos c50] at H
                        have c50b0 : decide ((rd ((rd_T36 l0_1 x6_4).f3) x8_6) < (l0_0.length : Int)) = true := decide_eq_true c50
                        clear c50
                        by_cases c51 : ((rd_T48 l0_0 (rd ((rd_T36 l0_1 x6_4).f3) x8_6)).f2) = x6_4
                        ·rw [if_pos c51] at H
                         have c51b0 : (((rd_T48 l0_0 (rd ((rd_T36 l0_1 x6_4).f3) x8_6)).f2) == x6_4) = true := beq_iff_eq.mpr c51
                         have c51b1 : (((rd_T48 l0_0 (rd ((rd_T36 l0_1 x6_4).f3) x8_6)).f2) != x6_4) = false := bne_eq_false_iff_eq.mpr c51
                         clear c51
                         have H' := Aside0.mk H
                         clear H
                         have hnb52 := NB226_223.out
                         have hnc52 := NB223_226.out
                         have hcz53_0 : wr.cell? ⟨gb226, 0, none⟩ = some (.string ((rd_T36 l0_1 x6_4).f0)) := (blk_cell BK226.out 0).trans rfl
                         have hcz53_1 : wr.cell? ⟨gb226, 1, none⟩ = some (.int .i64 ((rd_T36 l0_1 x6_4).f1)) := (blk_cell BK226.out 1).trans rfl
                         have hcz53_2 : wr.cell? ⟨gb226, 2, none⟩ = some (.int .i64 ((rd_T36 l0_1 x6_4).f2)) := (blk_cell BK226.out 2).trans rfl
                         have hcz53_3 : wr.cell? ⟨gb226, 3, none⟩ = some (.slice A225_3 ((rd_T36 l0_1 x6_4).f3).length c225_3) := (blk_cell BK226.out 3).trans rfl
                         have hcz53_4 : wr.cell? ⟨gb226, 4, none⟩ = some (.slice A225_4 ((rd_T36 l0_1 x6_4).f4).length c225_4) := (blk_cell BK226.out 4).trans rfl
                         have hfz53_0 := blk_frozen BK226.out 0
                         have hfz53_1 := blk_frozen BK226.out 1
                         have hfz53_2 := blk_frozen BK226.out 2
                         have hfz53_3 := blk_frozen BK226.out 3
                         have hfz53_4 := blk_frozen BK226.out 4
                         try go_wp2
                         have n0_ := Aside0.mk (blk_drew BK223.out)
                         have n1_ := Aside0.mk (blk_drew BK226.out)
                         have n2_ := Aside0.mk (below_drew1 HB.out)
                         clear BK223
                         clear BK226
                         clear HB
                         have BK223 := n0_
                         have BK226 := n1_
                         have HB := n2_
                         clear n0_ n1_ n2_
                         have p227 : 0 ≤ (x8_6 : Int) := of_decide_eq_true (by first | (with_reducible assumption) | assumption)
                         have q227 : x8_6 < (((rd_T36 l0_1 x6_4).f3).length : Int) := of_decide_eq_true (by first | (with_reducible assumption) | assumption)
                         obtain ⟨ad227, e227, hx227_0⟩ := Kd.at_int HR225_3.out x8_6 p227 q227
                         have hw227_0 := hx227_0
                         cases e227
                         replace hx227_0 := (HB.out.cell (World.block_lt_of_cell? w _ hx227_0)).trans hx227_0
                         replace p227 := eq_true p227
                         replace q227 := eq_true q227
                         have p229 : 0 ≤ (x8_6 : Int) := of_decide_eq_true (by first | (with_reducible assumption) | assumption)
                         have q229 : x8_6 < (((rd_T36 l0_1 x6_4).f3).length : Int) := of_decide_eq_true (by first | (with_reducible assumption) | assumption)
                         obtain ⟨ad229, e229, hx229_0⟩ := Kd.at_int HR225_3.out x8_6 p229 q229
                         have hw229_0 := hx229_0
                         obtain rfl : ad227 = ad229 := (by injection e229)
                         replace hx229_0 := (HB.out.cell (World.block_lt_of_cell? w _ hx229_0)).trans hx229_0
                         replace p229 := eq_true p229
                         replace q229 := eq_true q229
                         have p230 : 0 ≤ ((rd ((rd_T36 l0_1 x6_4).f3) x8_6) : Int) := of_decide_eq_true (by first | (with_reducible assumption) | assumption)
                         have q230 : (rd ((rd_T36 l0_1 x6_4).f3) x8_6) < (l0_0.length : Int) := of_decide_eq_true (by first | (with_reducible assumption) | assumption)
                         obtain ⟨ad230, A230_7, c230_7, e230, hx230_0, hx230_1, hx230_2, hx230_3, hx230_4, hx230_5, hx230_6, hx230_7, hl230_7, hi230_7⟩ := at_T48 HR0_0.out (rd ((rd_T36 l0_1 x6_4).f3) x8_6) p230 q230
                         have hw230_7 := hx230_7
                         have hw230_6 := hx230_6
                         have hw230_5 := hx230_5
                         have hw230_4 := hx230_4
                         have hw230_3 := hx230_3
                         have hw230_2 := hx230_2
                         have hw230_1 := hx230_1
                         have hw230_0 := hx230_0
                         cases e230
                         replace hx230_0 := (HB.out.cell (World.block_lt_of_cell? w _ hx230_0)).trans hx230_0
                         replace hx230_1 := (HB.out.cell (World.block_lt_of_cell? w _ hx230_1)).trans hx230_1
                         replace hx230_2 := (HB.out.cell (World.block_lt_of_cell? w _ hx230_2)).trans hx230_2
                         replace hx230_3 := (HB.out.cell (World.block_lt_of_cell? w _ hx230_3)).trans hx230_3
                         replace hx230_4 := (HB.out.cell (World.block_lt_of_cell? w _ hx230_4)).trans hx230_4
                         replace hx230_5 := (HB.out.cell (World.block_lt_of_cell? w _ hx230_5)).trans hx230_5
                         replace hx230_6 := (HB.out.cell (World.block_lt_of_cell? w _ hx230_6)).trans hx230_6
                         replace hx230_7 := (HB.out.cell (World.block_lt_of_cell? w _ hx230_7)).trans hx230_7
                         have HR230_7 := Aside0.mk hi230_7
                         have HC230_7 := Aside0.mk hl230_7
                         clear hi230_7 hl230_7
                         replace p230 := eq_true p230
                         replace q230 := eq_true q230
                         refine start_ (n := 22) (S := fun w' => w'.cell? ⟨gb223, 0, none⟩ = some (.slice (some ad230) l0_0.length c0_0) ∧ w'.cell? ⟨gb223, 1, none⟩ = some (.slice (some ad225) l0_1.length c0_1) ∧ w'.cell? ⟨gb223, 2, none⟩ = some (.int .i64 a0_2) ∧ w'.cell? ⟨gb226, 0, none⟩ = some (.string ((rd_T36 l0_1 x6_4).f0)) ∧ w'.cell? ⟨gb226, 1, none⟩ = some (.int .i64 ((rd_T36 l0_1 x6_4).f1)) ∧ w'.cell? ⟨gb226, 2, none⟩ = some (.int .i64 ((rd_T36 l0_1 x6_4).f2)) ∧ w'.cell? ⟨gb226, 3, none⟩ = some (.slice (some ad227) ((rd_T36 l0_1 x6_4).f3).length c225_3) ∧ w'.cell? ⟨gb226, 4, none⟩ = some (.slice A225_4 ((rd_T36 l0_1 x6_4).f4).length c225_4) ∧ w'.cell? (ad227.add (x8_6).toNat) = some (.int .i64 (rd ((rd_T36 l0_1 x6_4).f3) x8_6)) ∧ w'.cell? (ad227.add (x8_6).toNat) = some (.int .i64 (rd ((rd_T36 l0_1 x6_4).f3) x8_6)) ∧ w'.cell? (ad230.add (((rd ((rd_T36 l0_1 x6_4).f3) x8_6)).toNat * 8)) = some (.int .i64 ((rd_T48 l0_0 (rd ((rd_T36 l0_1 x6_4).f3) x8_6)).f0)) ∧ w'.cell? ⟨(ad230.add (((rd ((rd_T36 l0_1 x6_4).f3) x8_6)).toNat * 8)).block, (ad230.add (((rd ((rd_T36 l0_1 x6_4).f3) x8_6)).toNat * 8)).off + 1, none⟩ = some (.int .i64 ((rd_T48 l0_0 (rd ((rd_T36 l0_1 x6_4).f3) x8_6)).f1)) ∧ w'.cell? ⟨(ad230.add (((rd ((rd_T36 l0_1 x6_4).f3) x8_6)).toNat * 8)).block, (ad230.add (((rd ((rd_T36 l0_1 x6_4).f3) x8_6)).toNat * 8)).off + 2, none⟩ = some (.int .i64 ((rd_T48 l0_0 (rd ((rd_T36 l0_1 x6_4).f3) x8_6)).f2)) ∧ w'.cell? ⟨(ad230.add (((rd ((rd_T36 l0_1 x6_4).f3) x8_6)).toNat * 8)).block, (ad230.add (((rd ((rd_T36 l0_1 x6_4).f3) x8_6)).toNat * 8)).off + 3, none⟩ = some (.string ((rd_T48 l0_0 (rd ((rd_T36 l0_1 x6_4).f3) x8_6)).f3)) ∧ w'.cell? ⟨(ad230.add (((rd ((rd_T36 l0_1 x6_4).f3) x8_6)).toNat * 8)).block, (ad230.add (((rd ((rd_T36 l0_1 x6_4).f3) x8_6)).toNat * 8)).off + 4, none⟩ = some (.int .i64 ((rd_T48 l0_0 (rd ((rd_T36 l0_1 x6_4).f3) x8_6)).f4.f0)) ∧ w'.cell? ⟨(ad230.add (((rd ((rd_T36 l0_1 x6_4).f3) x8_6)).toNat * 8)).block, (ad230.add (((rd ((rd_T36 l0_1 x6_4).f3) x8_6)).toNat * 8)).off + 5, none⟩ = some (.int .i64 ((rd_T48 l0_0 (rd ((rd_T36 l0_1 x6_4).f3) x8_6)).f4.f1)) ∧ w'.cell? ⟨(ad230.add (((rd ((rd_T36 l0_1 x6_4).f3) x8_6)).toNat * 8)).block, (ad230.add (((rd ((rd_T36 l0_1 x6_4).f3) x8_6)).toNat * 8)).off + 6, none⟩ = some (.string ((rd_T48 l0_0 (rd ((rd_T36 l0_1 x6_4).f3) x8_6)).f4.f2)) ∧ w'.cell? ⟨(ad230.add (((rd ((rd_T36 l0_1 x6_4).f3) x8_6)).toNat * 8)).block, (ad230.add (((rd ((rd_T36 l0_1 x6_4).f3) x8_6)).toNat * 8)).off + 7, none⟩ = some (.slice A230_7 ((rd_T48 l0_0 (rd ((rd_T36 l0_1 x6_4).f3) x8_6)).f4.f3).length c230_7)) (ds := []) #[false, false, false, false, false, false, false, false, false, false, false, false, false, false, false, false, false, false, false, false, false, false] (by kernel_rfl) rfl rfl ⟨(blk_cell BK223.out 0).trans rfl, (blk_cell BK223.out 1).trans rfl, (blk_cell BK223.out 2).trans rfl, (blk_cell BK226.out 0).trans rfl, (blk_cell BK226.out 1).trans rfl, (blk_cell BK226.out 2).trans rfl, (blk_cell BK226.out 3).trans rfl, (blk_cell BK226.out 4).trans rfl, ((HB.out.cell (World.block_lt_of_cell? w _ hw227_0)).trans hw227_0), ((HB.out.cell (World.block_lt_of_cell? w _ hw229_0)).trans hw229_0), ((HB.out.cell (World.block_lt_of_cell? w _ hw230_0)).trans hw230_0), ((HB.out.cell (World.block_lt_of_cell? w _ hw230_1)).trans hw230_1), ((HB.out.cell (World.block_lt_of_cell? w _ hw230_2)).trans hw230_2), ((HB.out.cell (World.block_lt_of_cell? w _ hw230_3)).trans hw230_3), ((HB.out.cell (World.block_lt_of_cell? w _ hw230_4)).trans hw230_4), ((HB.out.cell (World.block_lt_of_cell? w _ hw230_5)).trans hw230_5), ((HB.out.cell (World.block_lt_of_cell? w _ hw230_6)).trans hw230_6), ((HB.out.cell (World.block_lt_of_cell? w _ hw230_7)).trans hw230_7)⟩ (fun hHeld => ?_); refine with_tabW crosstreeref08_Check.tab19 crosstreeref08_Check.bits19 (fun HT_ HW_ => ?_)
                         generalize wr.drew = w54 at BK223 BK226 HB HR230_7 hx227_0 hx229_0 hx230_0 hx230_1 hx230_2 hx230_3 hx230_4 hx230_5 hx230_6 hx230_7 hHeld ⊢
                         refine pure_ (i := 1) (N := some 109) (v := ?_) (a' := ?_) #[false, true, false, false, false, false, false, false, false, false, false, false, false, false, false, false, false, false, false, false, false, false] rfl rfl (any_of HT_.out (by kernel_rfl)) (fun _ _ _ h => h) (Or.inl ⟨by rfl, ?_⟩) ?_ ?_
                         rotate_left
                         ·intro w'
                          go_simp
                          with_reducible rfl
                         rotate_left
                         ·simp only [Act.put, List.setIfInBounds_toArray, List.set_cons_zero, List.set_cons_succ, i64_w, i32_w]
                          rfl
                         refine pure_ (i := 3) (N := some 111) (v := ?_) (a' := ?_) #[false, true, false, true, false, false, false, false, false, false, false, false, false, false, false, false, false, false, false, false, false, false] rfl rfl (any_of HT_.out (by kernel_rfl)) (fun _ _ _ h => h) (Or.inl ⟨by rfl, ?_⟩) ?_ ?_
                         rotate_left
                         ·intro w'
                          go_simp
                          with_reducible rfl
                         rotate_left
                         ·simp only [Act.put, List.setIfInBounds_toArray, List.set_cons_zero, List.set_cons_succ, i64_w, i32_w]
                          rfl
                         refine take_ (i := 0) (N := some 108) (v := ?_) (a' := ?_) #[true, true, false, true, false, false, false, false, false, false, false, false, false, false, false, false, false, false, false, false, false, false] rfl rfl (take_ofW HT_.out HW_.out (by kernel_rfl)) (fun _ _ _ h => h) (Or.inl ⟨by rfl, ?_⟩) hHeld ?_ ?_
                         rotate_left
                         ·rintro w' ⟨s0, s1, s2, s3, s4, s5, s6, s7, s8, s9, s10, s11, s12, s13, s14, s15, s16, s17⟩
                          go_simp
                          with_reducible rfl
                         rotate_left
                         ·simp only [Act.put, List.setIfInBounds_toArray, List.set_cons_zero, List.set_cons_succ, i64_w, i32_w]
                          rfl
                         refine take_ (i := 2) (N := some 110) (v := ?_) (a' := ?_) #[true, true, true, true, false, false, false, false, false, false, false, false, false, false, false, false, false, false, false, false, false, false] rfl rfl (take_ofW HT_.out HW_.out (by kernel_rfl)) (fun _ _ _ h => h) (Or.inl ⟨by rfl, ?_⟩) hHeld ?_ ?_
                         rotate_left
                         ·rintro w' ⟨s0, s1, s2, s3, s4, s5, s6, s7, s8, s9, s10, s11, s12, s13, s14, s15, s16, s17⟩
                          go_simp
                          with_reducible rfl
                         rotate_left
                         ·simp only [Act.put, List.setIfInBounds_toArray, List.set_cons_zero, List.set_cons_succ, i64_w, i32_w]
                          rfl
                         refine pure_ (i := 4) (N := some 112) (v := ?_) (a' := ?_) #[true, true, true, true, true, false, false, false, false, false, false, false, false, false, false, false, false, false, false, false, false, false] rfl rfl (any_of HT_.out (by kernel_rfl)) (fun _ _ _ h => h) (Or.inl ⟨by rfl, ?_⟩) ?_ ?_
                         rotate_left
                         ·intro w'
                          go_simp
                          with_reducible rfl
                         rotate_left
                         ·simp only [Act.put, List.setIfInBounds_toArray, List.set_cons_zero, List.set_cons_succ, i64_w, i32_w]
                          rfl
                         refine take_ (i := 5) (N := some 113) (v := ?_) (a' := ?_) #[true, true, true, true, true, true, false, false, false, false, false, false, false, false, false, false, false, false, false, false, false, false] rfl rfl (take_ofW HT_.out HW_.out (by kernel_rfl)) (fun _ _ _ h => h) (Or.inl ⟨by rfl, ?_⟩) hHeld ?_ ?_
                         rotate_left
                         ·rintro w' ⟨s0, s1, s2, s3, s4, s5, s6, s7, s8, s9, s10, s11, s12, s13, s14, s15, s16, s17⟩
                          go_simp
                          with_reducible rfl
                         rotate_left
                         ·simp only [Act.put, List.setIfInBounds_toArray, List.set_cons_zero, List.set_cons_succ, i64_w, i32_w]
                          rfl
                         refine one_ (i := 6) (N := some 114) #[true, true, true, true, true, true, true, false, false, false, false, false, false, false, false, false, false, false, false, false, false, false] rfl rfl (one_of HT_.out (by kernel_rfl)) (by decide) (fun K hK => ?_)
                         refine goes_ Tryd.func14 (by kernel_rfl) rfl #[.agg #[.slice (some ad230) l0_0.length c0_0, .slice (some ad225) l0_1.length c0_1, .int .i64 a0_2], .int .i64 (rd ((rd_T36 l0_1 x6_4).f3) x8_6)] (by rfl) rfl rfl (by (try simp only [List.map_toArray, List.map_cons, List.map_nil]); first | done | rfl | (simp only [List.length_drop, List.length_take]; rfl)) ?_
                         with_reducible refine (crosstreeref08_Kind.calls _ _ l0_0 _ _ l0_1 a0_2 (rd ((rd_T36 l0_1 x6_4).f3) x8_6) t228 _ ?side1 ?side2 ?side3 ?side4 A47.out).mono ?_
                         (case side1 => repeat (first | exact (Kd.C_below HR0_0.out HB.out) | (with_reducible refine Kd.C_alloc ?_ _) | (with_reducible refine Kd.C_drewN ?_ _) | (with_reducible refine Kd.C_drew ?_)))
                         (case side2 => exact HC0_0.out)
                         (case side3 => repeat (first | exact (Kd.C_below HR0_1.out HB.out) | (with_reducible refine Kd.C_alloc ?_ _) | (with_reducible refine Kd.C_drewN ?_ _) | (with_reducible refine Kd.C_drew ?_)))
                         (case side4 => exact HC0_1.out)
                         rintro e w55 ⟨rfl, hb⟩
                         refine ⟨_, rfl, ?_⟩
                         have n0_ := Aside0.mk (blk_below (g := gb223) (o := .cells #[.slice (some ad230) l0_0.length c0_0, .slice (some ad225) l0_1.length c0_1, .int .i64 a0_2] 25 (0, 0)) (by (with_reducible repeat (first | refine blk_drewN ?_ _ | refine blk_drew ?_ | refine blk_alloc ?_ _)); exact BK223.out) hb)
                         have n1_ := Aside0.mk (blk_below (g := gb226) (o := .cells #[.string ((rd_T36 l0_1 x6_4).f0), .int .i64 ((rd_T36 l0_1 x6_4).f1), .int .i64 ((rd_T36 l0_1 x6_4).f2), .slice (some ad227) ((rd_T36 l0_1 x6_4).f3).length c225_3, .slice A225_4 ((rd_T36 l0_1 x6_4).f4).length c225_4] 36 (0, 0)) (by (with_reducible repeat (first | refine blk_drewN ?_ _ | refine blk_drew ?_ | refine blk_alloc ?_ _)); exact BK226.out) hb)
                         have n2_ := Aside0.mk (below_step (by repeat (first | (with_reducible first | exact HB.out | apply below_alloc | apply pw_below_drewN | apply below_drew1 | refine below_set ?_ GE223.out | refine below_set ?_ GE226.out) | exact HB.out)) hb)
                         clear BK223
                         clear BK226
                         clear HB
                         have BK223 := n0_
                         have BK226 := n1_
                         have HB := n2_
                         clear n0_ n1_ n2_
                         (try clear hb)
                         (try clear hb2)
                         (try clear hk)
                         (try clear hi)
                         refine hK.out _ _ ⟨(blk_cell BK223.out 0).trans rfl, (blk_cell BK223.out 1).trans rfl, (blk_cell BK223.out 2).trans rfl, (blk_cell BK226.out 0).trans rfl, (blk_cell BK226.out 1).trans rfl, (blk_cell BK226.out 2).trans rfl, (blk_cell BK226.out 3).trans rfl, (blk_cell BK226.out 4).trans rfl, ((HB.out.cell (World.block_lt_of_cell? w _ hw227_0)).trans hw227_0), ((HB.out.cell (World.block_lt_of_cell? w _ hw229_0)).trans hw229_0), ((HB.out.cell (World.block_lt_of_cell? w _ hw230_0)).trans hw230_0), ((HB.out.cell (World.block_lt_of_cell? w _ hw230_1)).trans hw230_1), ((HB.out.cell (World.block_lt_of_cell? w _ hw230_2)).trans hw230_2), ((HB.out.cell (World.block_lt_of_cell? w _ hw230_3)).trans hw230_3), ((HB.out.cell (World.block_lt_of_cell? w _ hw230_4)).trans hw230_4), ((HB.out.cell (World.block_lt_of_cell? w _ hw230_5)).trans hw230_5), ((HB.out.cell (World.block_lt_of_cell? w _ hw230_6)).trans hw230_6), ((HB.out.cell (World.block_lt_of_cell? w _ hw230_7)).trans hw230_7)⟩ (fun hHeld => ?_)
                         clear hK K
                         refine norm_ (a' := ?_) ?_ ?_
                         rotate_left
                         ·show Act.put _ (some 114) _ = _
                          simp only [Act.put, List.setIfInBounds_toArray, List.set_cons_zero, List.set_cons_succ, i64_w, i32_w]
                          rfl
                         refine pure_ (i := 7) (N := some 115) (v := ?_) (a' := ?_) #[true, true, true, true, true, true, true, true, false, false, false, false, false, false, false, false, false, false, false, false, false, false] rfl rfl (any_of HT_.out (by kernel_rfl)) (fun _ _ _ h => h) (Or.inl ⟨by rfl, ?_⟩) ?_ ?_
                         rotate_left
                         ·intro w'
                          go_simp
                          with_reducible rfl
                         rotate_left
                         ·simp only [Act.put, List.setIfInBounds_toArray, List.set_cons_zero, List.set_cons_succ, i64_w, i32_w]
                          rfl
                         refine pure_ (i := 8) (N := some 116) (v := ?_) (a' := ?_) #[true, true, true, true, true, true, true, true, true, false, false, false, false, false, false, false, false, false, false, false, false, false] rfl rfl (any_of HT_.out (by kernel_rfl)) (fun _ _ _ h => h) (Or.inl ⟨by rfl, ?_⟩) ?_ ?_
                         rotate_left
                         ·intro w'
                          go_simp
                          with_reducible rfl
                         rotate_left
                         ·simp only [Act.put, List.setIfInBounds_toArray, List.set_cons_zero, List.set_cons_succ, i64_w, i32_w]
                          rfl
                         refine pure_ (i := 9) (N := some 117) (v := ?_) (a' := ?_) #[true, true, true, true, true, true, true, true, true, true, false, false, false, false, false, false, false, false, false, false, false, false] rfl rfl (any_of HT_.out (by kernel_rfl)) (fun _ _ _ h => h) (Or.inl ⟨by rfl, ?_⟩) ?_ ?_
                         rotate_left
                         ·intro w'
                          go_simp
                          with_reducible rfl
                         rotate_left
                         ·simp only [Act.put, List.setIfInBounds_toArray, List.set_cons_zero, List.set_cons_succ, i64_w, i32_w]
                          rfl
                         refine pure_ (i := 11) (N := some 119) (v := ?_) (a' := ?_) #[true, true, true, true, true, true, true, true, true, true, false, true, false, false, false, false, false, false, false, false, false, false] rfl rfl (any_of HT_.out (by kernel_rfl)) (fun _ _ _ h => h) (Or.inl ⟨by rfl, ?_⟩) ?_ ?_
                         rotate_left
                         ·intro w'
                          go_simp
                          with_reducible rfl
                         rotate_left
                         ·simp only [Act.put, List.setIfInBounds_toArray, List.set_cons_zero, List.set_cons_succ, i64_w, i32_w]
                          rfl
                         refine pure_ (i := 13) (N := some 121) (v := ?_) (a' := ?_) #[true, true, true, true, true, true, true, true, true, true, false, true, false, true, false, false, false, false, false, false, false, false] rfl rfl (any_of HT_.out (by kernel_rfl)) (fun _ _ _ h => h) (Or.inl ⟨by rfl, ?_⟩) ?_ ?_
                         rotate_left
                         ·intro w'
                          go_simp
                          with_reducible rfl
                         rotate_left
                         ·simp only [Act.put, List.setIfInBounds_toArray, List.set_cons_zero, List.set_cons_succ, i64_w, i32_w]
                          rfl
                         refine pure_ (i := 19) (N := some 127) (v := ?_) (a' := ?_) #[true, true, true, true, true, true, true, true, true, true, false, true, false, true, false, false, false, false, false, true, false, false] rfl rfl (any_of HT_.out (by kernel_rfl)) (fun _ _ _ h => h) (Or.inl ⟨by rfl, ?_⟩) ?_ ?_
                         rotate_left
                         ·intro w'
                          go_simp
                          with_reducible rfl
                         rotate_left
                         ·simp only [Act.put, List.setIfInBounds_toArray, List.set_cons_zero, List.set_cons_succ, i64_w, i32_w]
                          rfl
                         refine take_ (i := 10) (N := some 118) (v := ?_) (a' := ?_) #[true, true, true, true, true, true, true, true, true, true, true, true, false, true, false, false, false, false, false, true, false, false] rfl rfl (take_ofW HT_.out HW_.out (by kernel_rfl)) (fun _ _ _ h => h) (Or.inl ⟨by rfl, ?_⟩) hHeld ?_ ?_
                         rotate_left
                         ·rintro w' ⟨s0, s1, s2, s3, s4, s5, s6, s7, s8, s9, s10, s11, s12, s13, s14, s15, s16, s17⟩
                          go_simp
                          with_reducible rfl
                         rotate_left
                         ·simp only [Act.put, List.setIfInBounds_toArray, List.set_cons_zero, List.set_cons_succ, i64_w, i32_w]
                          rfl
                         refine take_ (i := 12) (N := some 120) (v := ?_) (a' := ?_) #[true, true, true, true, true, true, true, true, true, true, true, true, true, true, false, false, false, false, false, true, false, false] rfl rfl (take_ofW HT_.out HW_.out (by kernel_rfl)) (fun _ _ _ h => h) (Or.inl ⟨by rfl, ?_⟩) hHeld ?_ ?_
                         rotate_left
                         ·rintro w' ⟨s0, s1, s2, s3, s4, s5, s6, s7, s8, s9, s10, s11, s12, s13, s14, s15, s16, s17⟩
                          go_simp
                          with_reducible rfl
                         rotate_left
                         ·simp only [Act.put, List.setIfInBounds_toArray, List.set_cons_zero, List.set_cons_succ, i64_w, i32_w]
                          rfl
                         refine pure_ (i := 14) (N := some 122) (v := ?_) (a' := ?_) #[true, true, true, true, true, true, true, true, true, true, true, true, true, true, true, false, false, false, false, true, false, false] rfl rfl (any_of HT_.out (by kernel_rfl)) (fun _ _ _ h => h) (Or.inl ⟨by rfl, ?_⟩) ?_ ?_
                         rotate_left
                         ·intro w'
                          go_simp
                          with_reducible rfl
                         rotate_left
                         ·simp only [Act.put, List.setIfInBounds_toArray, List.set_cons_zero, List.set_cons_succ, i64_w, i32_w]
                          rfl
                         refine take_ (i := 15) (N := some 123) (v := ?_) (a' := ?_) #[true, true, true, true, true, true, true, true, true, true, true, true, true, true, true, true, false, false, false, true, false, false] rfl rfl (take_ofW HT_.out HW_.out (by kernel_rfl)) (fun _ _ _ h => h) (Or.inl ⟨by rfl, ?_⟩) hHeld ?_ ?_
                         rotate_left
                         ·rintro w' ⟨s0, s1, s2, s3, s4, s5, s6, s7, s8, s9, s10, s11, s12, s13, s14, s15, s16, s17⟩
                          go_simp
                          with_reducible rfl
                         rotate_left
                         ·simp only [Act.put, List.setIfInBounds_toArray, List.set_cons_zero, List.set_cons_succ, i64_w, i32_w]
                          rfl
                         refine pure_ (i := 16) (N := some 124) (v := ?_) (a' := ?_) #[true, true, true, true, true, true, true, true, true, true, true, true, true, true, true, true, true, false, false, true, false, false] rfl rfl (any_of HT_.out (by kernel_rfl)) (fun _ _ _ h => h) (Or.inl ⟨by rfl, ?_⟩) ?_ ?_
                         rotate_left
                         ·intro w'
                          go_simp
                          with_reducible rfl
                         rotate_left
                         ·simp only [Act.put, List.setIfInBounds_toArray, List.set_cons_zero, List.set_cons_succ, i64_w, i32_w]
                          rfl
                         refine pure_ (i := 17) (N := some 125) (v := ?_) (a' := ?_) #[true, true, true, true, true, true, true, true, true, true, true, true, true, true, true, true, true, true, false, true, false, false] rfl rfl (any_of HT_.out (by kernel_rfl)) (fun _ _ _ h => h) (Or.inl ⟨by rfl, ?_⟩) ?_ ?_
                         rotate_left
                         ·intro w'
                          go_simp
                          with_reducible rfl
                         rotate_left
                         ·simp only [Act.put, List.setIfInBounds_toArray, List.set_cons_zero, List.set_cons_succ, i64_w, i32_w]
                          rfl
                         refine take_ (i := 18) (N := some 126) (v := ?_) (a' := ?_) #[true, true, true, true, true, true, true, true, true, true, true, true, true, true, true, true, true, true, true, true, false, false] rfl rfl (take_ofW HT_.out HW_.out (by kernel_rfl)) (fun _ _ _ h => h) (Or.inl ⟨by rfl, ?_⟩) hHeld ?_ ?_
                         rotate_left
                         ·rintro w' ⟨s0, s1, s2, s3, s4, s5, s6, s7, s8, s9, s10, s11, s12, s13, s14, s15, s16, s17⟩
                          go_simp
                          with_reducible rfl
                         rotate_left
                         ·simp only [Act.put, List.setIfInBounds_toArray, List.set_cons_zero, List.set_cons_succ, i64_w, i32_w]
                          rfl
                         refine pure_ (i := 20) (N := some 128) (v := ?_) (a' := ?_) #[true, true, true, true, true, true, true, true, true, true, true, true, true, true, true, true, true, true, true, true, true, false] rfl rfl (any_of HT_.out (by kernel_rfl)) (fun _ _ _ h => h) (Or.inl ⟨by rfl, ?_⟩) ?_ ?_
                         rotate_left
                         ·intro w'
                          go_simp
                          with_reducible rfl
                         rotate_left
                         ·simp only [Act.put, List.setIfInBounds_toArray, List.set_cons_zero, List.set_cons_succ, i64_w, i32_w]
                          rfl
                         refine pure_ (i := 21) (N := some 129) (v := ?_) (a' := ?_) #[true, true, true, true, true, true, true, true, true, true, true, true, true, true, true, true, true, true, true, true, true, true] rfl rfl (any_of HT_.out (by kernel_rfl)) (fun _ _ _ h => h) (Or.inl ⟨by rfl, ?_⟩) ?_ ?_
                         rotate_left
                         ·intro w'
                          go_simp
                          with_reducible rfl
                         rotate_left
                         ·simp only [Act.put, List.setIfInBounds_toArray, List.set_cons_zero, List.set_cons_succ, i64_w, i32_w]
                          rfl
                         refine done_ (done_of HT_.out (by kernel_rfl)) ?_
                         try go_wp2
                         go_roundg k6
                         case measure => have := HJ1.out; have := HJ7.out; have := HK3.out; have := HK4.out; have := HJ24.out; have := HK6.out; omega
                         case rel => exact ⟨(wrap64 (x8_6 + 1)), (by first | rfl | (simp; done) | (simp [*]; done)), H', ⟨by have := HJ1.out; have := HJ7.out; have := HK3.out; have := HK4.out; have := HJ24.out; have := HK6.out; omega⟩, ⟨by (with_reducible repeat (first | refine blk_drewN ?_ _ | refine blk_drew ?_ | refine blk_alloc ?_ _)); exact BK223.out⟩, ⟨by (with_reducible repeat (first | refine blk_drewN ?_ _ | refine blk_drew ?_ | refine blk_alloc ?_ _)); exact BK226.out⟩, ⟨by repeat (first | (with_reducible first | exact HB.out | apply below_alloc | apply pw_below_drewN | apply below_drew1 | refine below_set ?_ GE223.out | refine below_set ?_ GE226.out) | exact HB.out)⟩⟩
                        ·rw [if_neg c51] at H
                         have c51b0 : (((rd_T48 l0_0 (rd ((rd_T36 l0_1 x6_4).f3) x8_6)).f2) == x6_4) = false := beq_eq_false_iff_ne.mpr c51
                         have c51b1 : (((rd_T48 l0_0 (rd ((rd_T36 l0_1 x6_4).f3) x8_6)).f2) != x6_4) = true := bne_iff_ne.mpr c51
                         simp only [Option.some.injEq, Prod.mk.injEq] at H
                         obtain ⟨rfl, rfl, rfl⟩ := H
                         have hnb56 := NB226_223.out
                         have hnc56 := NB223_226.out
                         have hcz57_0 : wr.cell? ⟨gb226, 0, none⟩ = some (.string ((rd_T36 l0_1 x6_4).f0)) := (blk_cell BK226.out 0).trans rfl
                         have hcz57_1 : wr.cell? ⟨gb226, 1, none⟩ = some (.int .i64 ((rd_T36 l0_1 x6_4).f1)) := (blk_cell BK226.out 1).trans rfl
                         have hcz57_2 : wr.cell? ⟨gb226, 2, none⟩ = some (.int .i64 ((rd_T36 l0_1 x6_4).f2)) := (blk_cell BK226.out 2).trans rfl
                         have hcz57_3 : wr.cell? ⟨gb226, 3, none⟩ = some (.slice A225_3 ((rd_T36 l0_1 x6_4).f3).length c225_3) := (blk_cell BK226.out 3).trans rfl
                         have hcz57_4 : wr.cell? ⟨gb226, 4, none⟩ = some (.slice A225_4 ((rd_T36 l0_1 x6_4).f4).length c225_4) := (blk_cell BK226.out 4).trans rfl
                         have hfz57_0 := blk_frozen BK226.out 0
                         have hfz57_1 := blk_frozen BK226.out 1
                         have hfz57_2 := blk_frozen BK226.out 2
                         have hfz57_3 := blk_frozen BK226.out 3
                         have hfz57_4 := blk_frozen BK226.out 4
                         try go_wp2
                         have n0_ := Aside0.mk (blk_drew BK223.out)
                         have n1_ := Aside0.mk (blk_drew BK226.out)
                         have n2_ := Aside0.mk (below_drew1 HB.out)
                         clear BK223
                         clear BK226
                         clear HB
                         have BK223 := n0_
                         have BK226 := n1_
                         have HB := n2_
                         clear n0_ n1_ n2_
                         have p227 : 0 ≤ (x8_6 : Int) := of_decide_eq_true (by first | (with_reducible assumption) | assumption)
                         have q227 : x8_6 < (((rd_T36 l0_1 x6_4).f3).length : Int) := of_decide_eq_true (by first | (with_reducible assumption) | assumption)
                         obtain ⟨ad227, e227, hx227_0⟩ := Kd.at_int HR225_3.out x8_6 p227 q227
                         have hw227_0 := hx227_0
                         cases e227
                         replace hx227_0 := (HB.out.cell (World.block_lt_of_cell? w _ hx227_0)).trans hx227_0
                         replace p227 := eq_true p227
                         replace q227 := eq_true q227
                         have p229 : 0 ≤ (x8_6 : Int) := of_decide_eq_true (by first | (with_reducible assumption) | assumption)
                         have q229 : x8_6 < (((rd_T36 l0_1 x6_4).f3).length : Int) := of_decide_eq_true (by first | (with_reducible assumption) | assumption)
                         obtain ⟨ad229, e229, hx229_0⟩ := Kd.at_int HR225_3.out x8_6 p229 q229
                         have hw229_0 := hx229_0
                         obtain rfl : ad227 = ad229 := (by injection e229)
                         replace hx229_0 := (HB.out.cell (World.block_lt_of_cell? w _ hx229_0)).trans hx229_0
                         replace p229 := eq_true p229
                         replace q229 := eq_true q229
                         have p230 : 0 ≤ ((rd ((rd_T36 l0_1 x6_4).f3) x8_6) : Int) := of_decide_eq_true (by first | (with_reducible assumption) | assumption)
                         have q230 : (rd ((rd_T36 l0_1 x6_4).f3) x8_6) < (l0_0.length : Int) := of_decide_eq_true (by first | (with_reducible assumption) | assumption)
                         obtain ⟨ad230, A230_7, c230_7, e230, hx230_0, hx230_1, hx230_2, hx230_3, hx230_4, hx230_5, hx230_6, hx230_7, hl230_7, hi230_7⟩ := at_T48 HR0_0.out (rd ((rd_T36 l0_1 x6_4).f3) x8_6) p230 q230
                         have hw230_7 := hx230_7
                         have hw230_6 := hx230_6
                         have hw230_5 := hx230_5
                         have hw230_4 := hx230_4
                         have hw230_3 := hx230_3
                         have hw230_2 := hx230_2
                         have hw230_1 := hx230_1
                         have hw230_0 := hx230_0
                         cases e230
                         replace hx230_0 := (HB.out.cell (World.block_lt_of_cell? w _ hx230_0)).trans hx230_0
                         replace hx230_1 := (HB.out.cell (World.block_lt_of_cell? w _ hx230_1)).trans hx230_1
                         replace hx230_2 := (HB.out.cell (World.block_lt_of_cell? w _ hx230_2)).trans hx230_2
                         replace hx230_3 := (HB.out.cell (World.block_lt_of_cell? w _ hx230_3)).trans hx230_3
                         replace hx230_4 := (HB.out.cell (World.block_lt_of_cell? w _ hx230_4)).trans hx230_4
                         replace hx230_5 := (HB.out.cell (World.block_lt_of_cell? w _ hx230_5)).trans hx230_5
                         replace hx230_6 := (HB.out.cell (World.block_lt_of_cell? w _ hx230_6)).trans hx230_6
                         replace hx230_7 := (HB.out.cell (World.block_lt_of_cell? w _ hx230_7)).trans hx230_7
                         have HR230_7 := Aside0.mk hi230_7
                         have HC230_7 := Aside0.mk hl230_7
                         clear hi230_7 hl230_7
                         replace p230 := eq_true p230
                         replace q230 := eq_true q230
                         refine start_ (n := 22) (S := fun w' => w'.cell? ⟨gb223, 0, none⟩ = some (.slice (some ad230) l0_0.length c0_0) ∧ w'.cell? ⟨gb223, 1, none⟩ = some (.slice (some ad225) l0_1.length c0_1) ∧ w'.cell? ⟨gb223, 2, none⟩ = some (.int .i64 a0_2) ∧ w'.cell? ⟨gb226, 0, none⟩ = some (.string ((rd_T36 l0_1 x6_4).f0)) ∧ w'.cell? ⟨gb226, 1, none⟩ = some (.int .i64 ((rd_T36 l0_1 x6_4).f1)) ∧ w'.cell? ⟨gb226, 2, none⟩ = some (.int .i64 ((rd_T36 l0_1 x6_4).f2)) ∧ w'.cell? ⟨gb226, 3, none⟩ = some (.slice (some ad227) ((rd_T36 l0_1 x6_4).f3).length c225_3) ∧ w'.cell? ⟨gb226, 4, none⟩ = some (.slice A225_4 ((rd_T36 l0_1 x6_4).f4).length c225_4) ∧ w'.cell? (ad227.add (x8_6).toNat) = some (.int .i64 (rd ((rd_T36 l0_1 x6_4).f3) x8_6)) ∧ w'.cell? (ad227.add (x8_6).toNat) = some (.int .i64 (rd ((rd_T36 l0_1 x6_4).f3) x8_6)) ∧ w'.cell? (ad230.add (((rd ((rd_T36 l0_1 x6_4).f3) x8_6)).toNat * 8)) = some (.int .i64 ((rd_T48 l0_0 (rd ((rd_T36 l0_1 x6_4).f3) x8_6)).f0)) ∧ w'.cell? ⟨(ad230.add (((rd ((rd_T36 l0_1 x6_4).f3) x8_6)).toNat * 8)).block, (ad230.add (((rd ((rd_T36 l0_1 x6_4).f3) x8_6)).toNat * 8)).off + 1, none⟩ = some (.int .i64 ((rd_T48 l0_0 (rd ((rd_T36 l0_1 x6_4).f3) x8_6)).f1)) ∧ w'.cell? ⟨(ad230.add (((rd ((rd_T36 l0_1 x6_4).f3) x8_6)).toNat * 8)).block, (ad230.add (((rd ((rd_T36 l0_1 x6_4).f3) x8_6)).toNat * 8)).off + 2, none⟩ = some (.int .i64 ((rd_T48 l0_0 (rd ((rd_T36 l0_1 x6_4).f3) x8_6)).f2)) ∧ w'.cell? ⟨(ad230.add (((rd ((rd_T36 l0_1 x6_4).f3) x8_6)).toNat * 8)).block, (ad230.add (((rd ((rd_T36 l0_1 x6_4).f3) x8_6)).toNat * 8)).off + 3, none⟩ = some (.string ((rd_T48 l0_0 (rd ((rd_T36 l0_1 x6_4).f3) x8_6)).f3)) ∧ w'.cell? ⟨(ad230.add (((rd ((rd_T36 l0_1 x6_4).f3) x8_6)).toNat * 8)).block, (ad230.add (((rd ((rd_T36 l0_1 x6_4).f3) x8_6)).toNat * 8)).off + 4, none⟩ = some (.int .i64 ((rd_T48 l0_0 (rd ((rd_T36 l0_1 x6_4).f3) x8_6)).f4.f0)) ∧ w'.cell? ⟨(ad230.add (((rd ((rd_T36 l0_1 x6_4).f3) x8_6)).toNat * 8)).block, (ad230.add (((rd ((rd_T36 l0_1 x6_4).f3) x8_6)).toNat * 8)).off + 5, none⟩ = some (.int .i64 ((rd_T48 l0_0 (rd ((rd_T36 l0_1 x6_4).f3) x8_6)).f4.f1)) ∧ w'.cell? ⟨(ad230.add (((rd ((rd_T36 l0_1 x6_4).f3) x8_6)).toNat * 8)).block, (ad230.add (((rd ((rd_T36 l0_1 x6_4).f3) x8_6)).toNat * 8)).off + 6, none⟩ = some (.string ((rd_T48 l0_0 (rd ((rd_T36 l0_1 x6_4).f3) x8_6)).f4.f2)) ∧ w'.cell? ⟨(ad230.add (((rd ((rd_T36 l0_1 x6_4).f3) x8_6)).toNat * 8)).block, (ad230.add (((rd ((rd_T36 l0_1 x6_4).f3) x8_6)).toNat * 8)).off + 7, none⟩ = some (.slice A230_7 ((rd_T48 l0_0 (rd ((rd_T36 l0_1 x6_4).f3) x8_6)).f4.f3).length c230_7)) (ds := []) #[false, false, false, false, false, false, false, false, false, false, false, false, false, false, false, false, false, false, false, false, false, false] (by kernel_rfl) rfl rfl ⟨(blk_cell BK223.out 0).trans rfl, (blk_cell BK223.out 1).trans rfl, (blk_cell BK223.out 2).trans rfl, (blk_cell BK226.out 0).trans rfl, (blk_cell BK226.out 1).trans rfl, (blk_cell BK226.out 2).trans rfl, (blk_cell BK226.out 3).trans rfl, (blk_cell BK226.out 4).trans rfl, ((HB.out.cell (World.block_lt_of_cell? w _ hw227_0)).trans hw227_0), ((HB.out.cell (World.block_lt_of_cell? w _ hw229_0)).trans hw229_0), ((HB.out.cell (World.block_lt_of_cell? w _ hw230_0)).trans hw230_0), ((HB.out.cell (World.block_lt_of_cell? w _ hw230_1)).trans hw230_1), ((HB.out.cell (World.block_lt_of_cell? w _ hw230_2)).trans hw230_2), ((HB.out.cell (World.block_lt_of_cell? w _ hw230_3)).trans hw230_3), ((HB.out.cell (World.block_lt_of_cell? w _ hw230_4)).trans hw230_4), ((HB.out.cell (World.block_lt_of_cell? w _ hw230_5)).trans hw230_5), ((HB.out.cell (World.block_lt_of_cell? w _ hw230_6)).trans hw230_6), ((HB.out.cell (World.block_lt_of_cell? w _ hw230_7)).trans hw230_7)⟩ (fun hHeld => ?_); refine with_tabW crosstreeref08_Check.tab19 crosstreeref08_Check.bits19 (fun HT_ HW_ => ?_)
                         generalize wr.drew = w58 at BK223 BK226 HB HR230_7 hx227_0 hx229_0 hx230_0 hx230_1 hx230_2 hx230_3 hx230_4 hx230_5 hx230_6 hx230_7 hHeld ⊢
                         refine pure_ (i := 1) (N := some 109) (v := ?_) (a' := ?_) #[false, true, false, false, false, false, false, false, false, false, false, false, false, false, false, false, false, false, false, false, false, false] rfl rfl (any_of HT_.out (by kernel_rfl)) (fun _ _ _ h => h) (Or.inl ⟨by rfl, ?_⟩) ?_ ?_
                         rotate_left
                         ·intro w'
                          go_simp
                          with_reducible rfl
                         rotate_left
                         ·simp only [Act.put, List.setIfInBounds_toArray, List.set_cons_zero, List.set_cons_succ, i64_w, i32_w]
                          rfl
                         refine pure_ (i := 3) (N := some 111) (v := ?_) (a' := ?_) #[false, true, false, true, false, false, false, false, false, false, false, false, false, false, false, false, false, false, false, false, false, false] rfl rfl (any_of HT_.out (by kernel_rfl)) (fun _ _ _ h => h) (Or.inl ⟨by rfl, ?_⟩) ?_ ?_
                         rotate_left
                         ·intro w'
                          go_simp
                          with_reducible rfl
                         rotate_left
                         ·simp only [Act.put, List.setIfInBounds_toArray, List.set_cons_zero, List.set_cons_succ, i64_w, i32_w]
                          rfl
                         refine take_ (i := 0) (N := some 108) (v := ?_) (a' := ?_) #[true, true, false, true, false, false, false, false, false, false, false, false, false, false, false, false, false, false, false, false, false, false] rfl rfl (take_ofW HT_.out HW_.out (by kernel_rfl)) (fun _ _ _ h => h) (Or.inl ⟨by rfl, ?_⟩) hHeld ?_ ?_
                         rotate_left
                         ·rintro w' ⟨s0, s1, s2, s3, s4, s5, s6, s7, s8, s9, s10, s11, s12, s13, s14, s15, s16, s17⟩
                          go_simp
                          with_reducible rfl
                         rotate_left
                         ·simp only [Act.put, List.setIfInBounds_toArray, List.set_cons_zero, List.set_cons_succ, i64_w, i32_w]
                          rfl
                         refine take_ (i := 2) (N := some 110) (v := ?_) (a' := ?_) #[true, true, true, true, false, false, false, false, false, false, false, false, false, false, false, false, false, false, false, false, false, false] rfl rfl (take_ofW HT_.out HW_.out (by kernel_rfl)) (fun _ _ _ h => h) (Or.inl ⟨by rfl, ?_⟩) hHeld ?_ ?_
                         rotate_left
                         ·rintro w' ⟨s0, s1, s2, s3, s4, s5, s6, s7, s8, s9, s10, s11, s12, s13, s14, s15, s16, s17⟩
                          go_simp
                          with_reducible rfl
                         rotate_left
                         ·simp only [Act.put, List.setIfInBounds_toArray, List.set_cons_zero, List.set_cons_succ, i64_w, i32_w]
                          rfl
                         refine pure_ (i := 4) (N := some 112) (v := ?_) (a' := ?_) #[true, true, true, true, true, false, false, false, false, false, false, false, false, false, false, false, false, false, false, false, false, false] rfl rfl (any_of HT_.out (by kernel_rfl)) (fun _ _ _ h => h) (Or.inl ⟨by rfl, ?_⟩) ?_ ?_
                         rotate_left
                         ·intro w'
                          go_simp
                          with_reducible rfl
                         rotate_left
                         ·simp only [Act.put, List.setIfInBounds_toArray, List.set_cons_zero, List.set_cons_succ, i64_w, i32_w]
                          rfl
                         refine take_ (i := 5) (N := some 113) (v := ?_) (a' := ?_) #[true, true, true, true, true, true, false, false, false, false, false, false, false, false, false, false, false, false, false, false, false, false] rfl rfl (take_ofW HT_.out HW_.out (by kernel_rfl)) (fun _ _ _ h => h) (Or.inl ⟨by rfl, ?_⟩) hHeld ?_ ?_
                         rotate_left
                         ·rintro w' ⟨s0, s1, s2, s3, s4, s5, s6, s7, s8, s9, s10, s11, s12, s13, s14, s15, s16, s17⟩
                          go_simp
                          with_reducible rfl
                         rotate_left
                         ·simp only [Act.put, List.setIfInBounds_toArray, List.set_cons_zero, List.set_cons_succ, i64_w, i32_w]
                          rfl
                         refine one_ (i := 6) (N := some 114) #[true, true, true, true, true, true, true, false, false, false, false, false, false, false, false, false, false, false, false, false, false, false] rfl rfl (one_of HT_.out (by kernel_rfl)) (by decide) (fun K hK => ?_)
                         refine goes_ Tryd.func14 (by kernel_rfl) rfl #[.agg #[.slice (some ad230) l0_0.length c0_0, .slice (some ad225) l0_1.length c0_1, .int .i64 a0_2], .int .i64 (rd ((rd_T36 l0_1 x6_4).f3) x8_6)] (by rfl) rfl rfl (by (try simp only [List.map_toArray, List.map_cons, List.map_nil]); first | done | rfl | (simp only [List.length_drop, List.length_take]; rfl)) ?_
                         with_reducible refine (crosstreeref08_Kind.calls _ _ l0_0 _ _ l0_1 a0_2 (rd ((rd_T36 l0_1 x6_4).f3) x8_6) t228 _ ?side1 ?side2 ?side3 ?side4 A47.out).mono ?_
                         (case side1 => repeat (first | exact (Kd.C_below HR0_0.out HB.out) | (with_reducible refine Kd.C_alloc ?_ _) | (with_reducible refine Kd.C_drewN ?_ _) | (with_reducible refine Kd.C_drew ?_)))
                         (case side2 => exact HC0_0.out)
                         (case side3 => repeat (first | exact (Kd.C_below HR0_1.out HB.out) | (with_reducible refine Kd.C_alloc ?_ _) | (with_reducible refine Kd.C_drewN ?_ _) | (with_reducible refine Kd.C_drew ?_)))
                         (case side4 => exact HC0_1.out)
                         rintro e w59 ⟨rfl, hb⟩
                         refine ⟨_, rfl, ?_⟩
                         have n0_ := Aside0.mk (blk_below (g := gb223) (o := .cells #[.slice (some ad230) l0_0.length c0_0, .slice (some ad225) l0_1.length c0_1, .int .i64 a0_2] 25 (0, 0)) (by (with_reducible repeat (first | refine blk_drewN ?_ _ | refine blk_drew ?_ | refine blk_alloc ?_ _)); exact BK223.out) hb)
                         have n1_ := Aside0.mk (blk_below (g := gb226) (o := .cells #[.string ((rd_T36 l0_1 x6_4).f0), .int .i64 ((rd_T36 l0_1 x6_4).f1), .int .i64 ((rd_T36 l0_1 x6_4).f2), .slice (some ad227) ((rd_T36 l0_1 x6_4).f3).length c225_3, .slice A225_4 ((rd_T36 l0_1 x6_4).f4).length c225_4] 36 (0, 0)) (by (with_reducible repeat (first | refine blk_drewN ?_ _ | refine blk_drew ?_ | refine blk_alloc ?_ _)); exact BK226.out) hb)
                         have n2_ := Aside0.mk (below_step (by repeat (first | (with_reducible first | exact HB.out | apply below_alloc | apply pw_below_drewN | apply below_drew1 | refine below_set ?_ GE223.out | refine below_set ?_ GE226.out) | exact HB.out)) hb)
                         clear BK223
                         clear BK226
                         clear HB
                         have BK223 := n0_
                         have BK226 := n1_
                         have HB := n2_
                         clear n0_ n1_ n2_
                         (try clear hb)
                         (try clear hb2)
                         (try clear hk)
                         (try clear hi)
                         refine hK.out _ _ ⟨(blk_cell BK223.out 0).trans rfl, (blk_cell BK223.out 1).trans rfl, (blk_cell BK223.out 2).trans rfl, (blk_cell BK226.out 0).trans rfl, (blk_cell BK226.out 1).trans rfl, (blk_cell BK226.out 2).trans rfl, (blk_cell BK226.out 3).trans rfl, (blk_cell BK226.out 4).trans rfl, ((HB.out.cell (World.block_lt_of_cell? w _ hw227_0)).trans hw227_0), ((HB.out.cell (World.block_lt_of_cell? w _ hw229_0)).trans hw229_0), ((HB.out.cell (World.block_lt_of_cell? w _ hw230_0)).trans hw230_0), ((HB.out.cell (World.block_lt_of_cell? w _ hw230_1)).trans hw230_1), ((HB.out.cell (World.block_lt_of_cell? w _ hw230_2)).trans hw230_2), ((HB.out.cell (World.block_lt_of_cell? w _ hw230_3)).trans hw230_3), ((HB.out.cell (World.block_lt_of_cell? w _ hw230_4)).trans hw230_4), ((HB.out.cell (World.block_lt_of_cell? w _ hw230_5)).trans hw230_5), ((HB.out.cell (World.block_lt_of_cell? w _ hw230_6)).trans hw230_6), ((HB.out.cell (World.block_lt_of_cell? w _ hw230_7)).trans hw230_7)⟩ (fun hHeld => ?_)
                         clear hK K
                         refine norm_ (a' := ?_) ?_ ?_
                         rotate_left
                         ·show Act.put _ (some 114) _ = _
                          simp only [Act.put, List.setIfInBounds_toArray, List.set_cons_zero, List.set_cons_succ, i64_w, i32_w]
                          rfl
                         refine pure_ (i := 7) (N := some 115) (v := ?_) (a' := ?_) #[true, true, true, true, true, true, true, true, false, false, false, false, false, false, false, false, false, false, false, false, false, false] rfl rfl (any_of HT_.out (by kernel_rfl)) (fun _ _ _ h => h) (Or.inl ⟨by rfl, ?_⟩) ?_ ?_
                         rotate_left
                         ·intro w'
                          go_simp
                          with_reducible rfl
                         rotate_left
                         ·simp only [Act.put, List.setIfInBounds_toArray, List.set_cons_zero, List.set_cons_succ, i64_w, i32_w]
                          rfl
                         refine pure_ (i := 8) (N := some 116) (v := ?_) (a' := ?_) #[true, true, true, true, true, true, true, true, true, false, false, false, false, false, false, false, false, false, false, false, false, false] rfl rfl (any_of HT_.out (by kernel_rfl)) (fun _ _ _ h => h) (Or.inl ⟨by rfl, ?_⟩) ?_ ?_
                         rotate_left
                         ·intro w'
                          go_simp
                          with_reducible rfl
                         rotate_left
                         ·simp only [Act.put, List.setIfInBounds_toArray, List.set_cons_zero, List.set_cons_succ, i64_w, i32_w]
                          rfl
                         refine pure_ (i := 9) (N := some 117) (v := ?_) (a' := ?_) #[true, true, true, true, true, true, true, true, true, true, false, false, false, false, false, false, false, false, false, false, false, false] rfl rfl (any_of HT_.out (by kernel_rfl)) (fun _ _ _ h => h) (Or.inl ⟨by rfl, ?_⟩) ?_ ?_
                         rotate_left
                         ·intro w'
                          go_simp
                          with_reducible rfl
                         rotate_left
                         ·simp only [Act.put, List.setIfInBounds_toArray, List.set_cons_zero, List.set_cons_succ, i64_w, i32_w]
                          rfl
                         refine pure_ (i := 11) (N := some 119) (v := ?_) (a' := ?_) #[true, true, true, true, true, true, true, true, true, true, false, true, false, false, false, false, false, false, false, false, false, false] rfl rfl (any_of HT_.out (by kernel_rfl)) (fun _ _ _ h => h) (Or.inl ⟨by rfl, ?_⟩) ?_ ?_
                         rotate_left
                         ·intro w'
                          go_simp
                          with_reducible rfl
                         rotate_left
                         ·simp only [Act.put, List.setIfInBounds_toArray, List.set_cons_zero, List.set_cons_succ, i64_w, i32_w]
                          rfl
                         refine pure_ (i := 13) (N := some 121) (v := ?_) (a' := ?_) #[true, true, true, true, true, true, true, true, true, true, false, true, false, true, false, false, false, false, false, false, false, false] rfl rfl (any_of HT_.out (by kernel_rfl)) (fun _ _ _ h => h) (Or.inl ⟨by rfl, ?_⟩) ?_ ?_
                         rotate_left
                         ·intro w'
                          go_simp
                          with_reducible rfl
                         rotate_left
                         ·simp only [Act.put, List.setIfInBounds_toArray, List.set_cons_zero, List.set_cons_succ, i64_w, i32_w]
                          rfl
                         refine pure_ (i := 19) (N := some 127) (v := ?_) (a' := ?_) #[true, true, true, true, true, true, true, true, true, true, false, true, false, true, false, false, false, false, false, true, false, false] rfl rfl (any_of HT_.out (by kernel_rfl)) (fun _ _ _ h => h) (Or.inl ⟨by rfl, ?_⟩) ?_ ?_
                         rotate_left
                         ·intro w'
                          go_simp
                          with_reducible rfl
                         rotate_left
                         ·simp only [Act.put, List.setIfInBounds_toArray, List.set_cons_zero, List.set_cons_succ, i64_w, i32_w]
                          rfl
                         refine take_ (i := 10) (N := some 118) (v := ?_) (a' := ?_) #[true, true, true, true, true, true, true, true, true, true, true, true, false, true, false, false, false, false, false, true, false, false] rfl rfl (take_ofW HT_.out HW_.out (by kernel_rfl)) (fun _ _ _ h => h) (Or.inl ⟨by rfl, ?_⟩) hHeld ?_ ?_
                         rotate_left
                         ·rintro w' ⟨s0, s1, s2, s3, s4, s5, s6, s7, s8, s9, s10, s11, s12, s13, s14, s15, s16, s17⟩
                          go_simp
                          with_reducible rfl
                         rotate_left
                         ·simp only [Act.put, List.setIfInBounds_toArray, List.set_cons_zero, List.set_cons_succ, i64_w, i32_w]
                          rfl
                         refine take_ (i := 12) (N := some 120) (v := ?_) (a' := ?_) #[true, true, true, true, true, true, true, true, true, true, true, true, true, true, false, false, false, false, false, true, false, false] rfl rfl (take_ofW HT_.out HW_.out (by kernel_rfl)) (fun _ _ _ h => h) (Or.inl ⟨by rfl, ?_⟩) hHeld ?_ ?_
                         rotate_left
                         ·rintro w' ⟨s0, s1, s2, s3, s4, s5, s6, s7, s8, s9, s10, s11, s12, s13, s14, s15, s16, s17⟩
                          go_simp
                          with_reducible rfl
                         rotate_left
                         ·simp only [Act.put, List.setIfInBounds_toArray, List.set_cons_zero, List.set_cons_succ, i64_w, i32_w]
                          rfl
                         refine pure_ (i := 14) (N := some 122) (v := ?_) (a' := ?_) #[true, true, true, true, true, true, true, true, true, true, true, true, true, true, true, false, false, false, false, true, false, false] rfl rfl (any_of HT_.out (by kernel_rfl)) (fun _ _ _ h => h) (Or.inl ⟨by rfl, ?_⟩) ?_ ?_
                         rotate_left
                         ·intro w'
                          go_simp
                          with_reducible rfl
                         rotate_left
                         ·simp only [Act.put, List.setIfInBounds_toArray, List.set_cons_zero, List.set_cons_succ, i64_w, i32_w]
                          rfl
                         refine take_ (i := 15) (N := some 123) (v := ?_) (a' := ?_) #[true, true, true, true, true, true, true, true, true, true, true, true, true, true, true, true, false, false, false, true, false, false] rfl rfl (take_ofW HT_.out HW_.out (by kernel_rfl)) (fun _ _ _ h => h) (Or.inl ⟨by rfl, ?_⟩) hHeld ?_ ?_
                         rotate_left
                         ·rintro w' ⟨s0, s1, s2, s3, s4, s5, s6, s7, s8, s9, s10, s11, s12, s13, s14, s15, s16, s17⟩
                          go_simp
                          with_reducible rfl
                         rotate_left
                         ·simp only [Act.put, List.setIfInBounds_toArray, List.set_cons_zero, List.set_cons_succ, i64_w, i32_w]
                          rfl
                         refine pure_ (i := 16) (N := some 124) (v := ?_) (a' := ?_) #[true, true, true, true, true, true, true, true, true, true, true, true, true, true, true, true, true, false, false, true, false, false] rfl rfl (any_of HT_.out (by kernel_rfl)) (fun _ _ _ h => h) (Or.inl ⟨by rfl, ?_⟩) ?_ ?_
                         rotate_left
                         ·intro w'
                          go_simp
                          with_reducible rfl
                         rotate_left
                         ·simp only [Act.put, List.setIfInBounds_toArray, List.set_cons_zero, List.set_cons_succ, i64_w, i32_w]
                          rfl
                         refine pure_ (i := 17) (N := some 125) (v := ?_) (a' := ?_) #[true, true, true, true, true, true, true, true, true, true, true, true, true, true, true, true, true, true, false, true, false, false] rfl rfl (any_of HT_.out (by kernel_rfl)) (fun _ _ _ h => h) (Or.inl ⟨by rfl, ?_⟩) ?_ ?_
                         rotate_left
                         ·intro w'
                          go_simp
                          with_reducible rfl
                         rotate_left
                         ·simp only [Act.put, List.setIfInBounds_toArray, List.set_cons_zero, List.set_cons_succ, i64_w, i32_w]
                          rfl
                         refine take_ (i := 18) (N := some 126) (v := ?_) (a' := ?_) #[true, true, true, true, true, true, true, true, true, true, true, true, true, true, true, true, true, true, true, true, false, false] rfl rfl (take_ofW HT_.out HW_.out (by kernel_rfl)) (fun _ _ _ h => h) (Or.inl ⟨by rfl, ?_⟩) hHeld ?_ ?_
                         rotate_left
                         ·rintro w' ⟨s0, s1, s2, s3, s4, s5, s6, s7, s8, s9, s10, s11, s12, s13, s14, s15, s16, s17⟩
                          go_simp
                          with_reducible rfl
                         rotate_left
                         ·simp only [Act.put, List.setIfInBounds_toArray, List.set_cons_zero, List.set_cons_succ, i64_w, i32_w]
                          rfl
                         refine pure_ (i := 20) (N := some 128) (v := ?_) (a' := ?_) #[true, true, true, true, true, true, true, true, true, true, true, true, true, true, true, true, true, true, true, true, true, false] rfl rfl (any_of HT_.out (by kernel_rfl)) (fun _ _ _ h => h) (Or.inl ⟨by rfl, ?_⟩) ?_ ?_
                         rotate_left
                         ·intro w'
                          go_simp
                          with_reducible rfl
                         rotate_left
                         ·simp only [Act.put, List.setIfInBounds_toArray, List.set_cons_zero, List.set_cons_succ, i64_w, i32_w]
                          rfl
                         refine pure_ (i := 21) (N := some 129) (v := ?_) (a' := ?_) #[true, true, true, true, true, true, true, true, true, true, true, true, true, true, true, true, true, true, true, true, true, true] rfl rfl (any_of HT_.out (by kernel_rfl)) (fun _ _ _ h => h) (Or.inl ⟨by rfl, ?_⟩) ?_ ?_
                         rotate_left
                         ·intro w'
                          go_simp
                          with_reducible rfl
                         rotate_left
                         ·simp only [Act.put, List.setIfInBounds_toArray, List.set_cons_zero, List.set_cons_succ, i64_w, i32_w]
                          rfl
                         refine done_ (done_of HT_.out (by kernel_rfl)) ?_
                         try go_wp2
                         go_ret3
                         exact ⟨by first | rfl | (simp [errW_none, errW_some] <;> rfl) | (simp [*, errW_none, errW_some] <;> rfl), by repeat (first | (with_reducible first | exact HB.out | apply below_alloc | apply pw_below_drewN | apply below_drew1 | refine below_set ?_ GE223.out | refine below_set ?_ GE226.out) | exact HB.out)⟩
                       ·rw [if_neg c50] at H
                        exact absurd H (by simp)
                      ·rw [if_neg c49] at H
                       exact absurd H (by simp)
                     ·rw [if_neg c48] at H
                      have c48b0 : (t228 == 2) = false := beq_eq_false_iff_ne.mpr c48
                      have c48b1 : (t228 != 2) = true := bne_iff_ne.mpr c48
                      simp only [Option.some.injEq, Prod.mk.injEq] at H
                      obtain ⟨rfl, rfl, rfl⟩ := H
                      have hnb60 := NB226_223.out
                      have hnc60 := NB223_226.out
                      have hcz61_0 : wr.cell? ⟨gb226, 0, none⟩ = some (.string ((rd_T36 l0_1 x6_4).f0)) := (blk_cell BK226.out 0).trans rfl
                      have hcz61_1 : wr.cell? ⟨gb226, 1, none⟩ = some (.int .i64 ((rd_T36 l0_1 x6_4).f1)) := (blk_cell BK226.out 1).trans rfl
                      have hcz61_2 : wr.cell? ⟨gb226, 2, none⟩ = some (.int .i64 ((rd_T36 l0_1 x6_4).f2)) := (blk_cell BK226.out 2).trans rfl
                      have hcz61_3 : wr.cell? ⟨gb226, 3, none⟩ = some (.slice A225_3 ((rd_T36 l0_1 x6_4).f3).length c225_3) := (blk_cell BK226.out 3).trans rfl
                      have hcz61_4 : wr.cell? ⟨gb226, 4, none⟩ = some (.slice A225_4 ((rd_T36 l0_1 x6_4).f4).length c225_4) := (blk_cell BK226.out 4).trans rfl
                      have hfz61_0 := blk_frozen BK226.out 0
                      have hfz61_1 := blk_frozen BK226.out 1
                      have hfz61_2 := blk_frozen BK226.out 2
                      have hfz61_3 := blk_frozen BK226.out 3
                      have hfz61_4 := blk_frozen BK226.out 4
                      try go_wp2
                      have n0_ := Aside0.mk (blk_drew BK223.out)
                      have n1_ := Aside0.mk (blk_drew BK226.out)
                      have n2_ := Aside0.mk (below_drew1 HB.out)
                      clear BK223
                      clear BK226
                      clear HB
                      have BK223 := n0_
                      have BK226 := n1_
                      have HB := n2_
                      clear n0_ n1_ n2_
                      have p227 : 0 ≤ (x8_6 : Int) := of_decide_eq_true (by first | (with_reducible assumption) | assumption)
                      have q227 : x8_6 < (((rd_T36 l0_1 x6_4).f3).length : Int) := of_decide_eq_true (by first | (with_reducible assumption) | assumption)
                      obtain ⟨ad227, e227, hx227_0⟩ := Kd.at_int HR225_3.out x8_6 p227 q227
                      have hw227_0 := hx227_0
                      cases e227
                      replace hx227_0 := (HB.out.cell (World.block_lt_of_cell? w _ hx227_0)).trans hx227_0
                      replace p227 := eq_true p227
                      replace q227 := eq_true q227
                      refine start_ (n := 22) (S := fun w' => w'.cell? ⟨gb223, 0, none⟩ = some (.slice A0_0 l0_0.length c0_0) ∧ w'.cell? ⟨gb223, 1, none⟩ = some (.slice (some ad225) l0_1.length c0_1) ∧ w'.cell? ⟨gb223, 2, none⟩ = some (.int .i64 a0_2) ∧ w'.cell? ⟨gb226, 0, none⟩ = some (.string ((rd_T36 l0_1 x6_4).f0)) ∧ w'.cell? ⟨gb226, 1, none⟩ = some (.int .i64 ((rd_T36 l0_1 x6_4).f1)) ∧ w'.cell? ⟨gb226, 2, none⟩ = some (.int .i64 ((rd_T36 l0_1 x6_4).f2)) ∧ w'.cell? ⟨gb226, 3, none⟩ = some (.slice (some ad227) ((rd_T36 l0_1 x6_4).f3).length c225_3) ∧ w'.cell? ⟨gb226, 4, none⟩ = some (.slice A225_4 ((rd_T36 l0_1 x6_4).f4).length c225_4) ∧ w'.cell? (ad227.add (x8_6).toNat) = some (.int .i64 (rd ((rd_T36 l0_1 x6_4).f3) x8_6))) (ds := []) #[false, false, false, false, false, false, false, false, false, false, false, false, false, false, false, false, false, false, false, false, false, false] (by kernel_rfl) rfl rfl ⟨(blk_cell BK223.out 0).trans rfl, (blk_cell BK223.out 1).trans rfl, (blk_cell BK223.out 2).trans rfl, (blk_cell BK226.out 0).trans rfl, (blk_cell BK226.out 1).trans rfl, (blk_cell BK226.out 2).trans rfl, (blk_cell BK226.out 3).trans rfl, (blk_cell BK226.out 4).trans rfl, ((HB.out.cell (World.block_lt_of_cell? w _ hw227_0)).trans hw227_0)⟩ (fun hHeld => ?_); refine with_tabW crosstreeref08_Check.tab19 crosstreeref08_Check.bits19 (fun HT_ HW_ => ?_)
                      generalize wr.drew = w62 at BK223 BK226 HB hx227_0 hHeld ⊢
                      refine pure_ (i := 1) (N := some 109) (v := ?_) (a' := ?_) #[false, true, false, false, false, false, false, false, false, false, false, false, false, false, false, false, false, false, false, false, false, false] rfl rfl (any_of HT_.out (by kernel_rfl)) (fun _ _ _ h => h) (Or.inl ⟨by rfl, ?_⟩) ?_ ?_
                      rotate_left
                      ·intro w'
                       go_simp
                       with_reducible rfl
                      rotate_left
                      ·simp only [Act.put, List.setIfInBounds_toArray, List.set_cons_zero, List.set_cons_succ, i64_w, i32_w]
                       rfl
                      refine pure_ (i := 3) (N := some 111) (v := ?_) (a' := ?_) #[false, true, false, true, false, false, false, false, false, false, false, false, false, false, false, false, false, false, false, false, false, false] rfl rfl (any_of HT_.out (by kernel_rfl)) (fun _ _ _ h => h) (Or.inl ⟨by rfl, ?_⟩) ?_ ?_
                      rotate_left
                      ·intro w'
                       go_simp
                       with_reducible rfl
                      rotate_left
                      ·simp only [Act.put, List.setIfInBounds_toArray, List.set_cons_zero, List.set_cons_succ, i64_w, i32_w]
                       rfl
                      refine take_ (i := 0) (N := some 108) (v := ?_) (a' := ?_) #[true, true, false, true, false, false, false, false, false, false, false, false, false, false, false, false, false, false, false, false, false, false] rfl rfl (take_ofW HT_.out HW_.out (by kernel_rfl)) (fun _ _ _ h => h) (Or.inl ⟨by rfl, ?_⟩) hHeld ?_ ?_
                      rotate_left
                      ·rintro w' ⟨s0, s1, s2, s3, s4, s5, s6, s7, s8⟩
                       go_simp
                       with_reducible rfl
                      rotate_left
                      ·simp only [Act.put, List.setIfInBounds_toArray, List.set_cons_zero, List.set_cons_succ, i64_w, i32_w]
                       rfl
                      refine take_ (i := 2) (N := some 110) (v := ?_) (a' := ?_) #[true, true, true, true, false, false, false, false, false, false, false, false, false, false, false, false, false, false, false, false, false, false] rfl rfl (take_ofW HT_.out HW_.out (by kernel_rfl)) (fun _ _ _ h => h) (Or.inl ⟨by rfl, ?_⟩) hHeld ?_ ?_
                      rotate_left
                      ·rintro w' ⟨s0, s1, s2, s3, s4, s5, s6, s7, s8⟩
                       go_simp
                       with_reducible rfl
                      rotate_left
                      ·simp only [Act.put, List.setIfInBounds_toArray, List.set_cons_zero, List.set_cons_succ, i64_w, i32_w]
                       rfl
                      refine pure_ (i := 4) (N := some 112) (v := ?_) (a' := ?_) #[true, true, true, true, true, false, false, false, false, false, false, false, false, false, false, false, false, false, false, false, false, false] rfl rfl (any_of HT_.out (by kernel_rfl)) (fun _ _ _ h => h) (Or.inl ⟨by rfl, ?_⟩) ?_ ?_
                      rotate_left
                      ·intro w'
                       go_simp
                       with_reducible rfl
                      rotate_left
                      ·simp only [Act.put, List.setIfInBounds_toArray, List.set_cons_zero, List.set_cons_succ, i64_w, i32_w]
                       rfl
                      refine take_ (i := 5) (N := some 113) (v := ?_) (a' := ?_) #[true, true, true, true, true, true, false, false, false, false, false, false, false, false, false, false, false, false, false, false, false, false] rfl rfl (take_ofW HT_.out HW_.out (by kernel_rfl)) (fun _ _ _ h => h) (Or.inl ⟨by rfl, ?_⟩) hHeld ?_ ?_
                      rotate_left
                      ·rintro w' ⟨s0, s1, s2, s3, s4, s5, s6, s7, s8⟩
                       go_simp
                       with_reducible rfl
                      rotate_left
                      ·simp only [Act.put, List.setIfInBounds_toArray, List.set_cons_zero, List.set_cons_succ, i64_w, i32_w]
                       rfl
                      refine one_ (i := 6) (N := some 114) #[true, true, true, true, true, true, true, false, false, false, false, false, false, false, false, false, false, false, false, false, false, false] rfl rfl (one_of HT_.out (by kernel_rfl)) (by decide) (fun K hK => ?_)
                      refine goes_ Tryd.func14 (by kernel_rfl) rfl #[.agg #[.slice A0_0 l0_0.length c0_0, .slice (some ad225) l0_1.length c0_1, .int .i64 a0_2], .int .i64 (rd ((rd_T36 l0_1 x6_4).f3) x8_6)] (by rfl) rfl rfl (by (try simp only [List.map_toArray, List.map_cons, List.map_nil]); first | done | rfl | (simp only [List.length_drop, List.length_take]; rfl)) ?_
                      with_reducible refine (crosstreeref08_Kind.calls _ _ l0_0 _ _ l0_1 a0_2 (rd ((rd_T36 l0_1 x6_4).f3) x8_6) t228 _ ?side1 ?side2 ?side3 ?side4 A47.out).mono ?_
                      (case side1 => repeat (first | exact (Kd.C_below HR0_0.out HB.out) | (with_reducible refine Kd.C_alloc ?_ _) | (with_reducible refine Kd.C_drewN ?_ _) | (with_reducible refine Kd.C_drew ?_)))
                      (case side2 => exact HC0_0.out)
                      (case side3 => repeat (first | exact (Kd.C_below HR0_1.out HB.out) | (with_reducible refine Kd.C_alloc ?_ _) | (with_reducible refine Kd.C_drewN ?_ _) | (with_reducible refine Kd.C_drew ?_)))
                      (case side4 => exact HC0_1.out)
                      rintro e w63 ⟨rfl, hb⟩
                      refine ⟨_, rfl, ?_⟩
                      have n0_ := Aside0.mk (blk_below (g := gb223) (o := .cells #[.slice A0_0 l0_0.length c0_0, .slice (some ad225) l0_1.length c0_1, .int .i64 a0_2] 25 (0, 0)) (by (with_reducible repeat (first | refine blk_drewN ?_ _ | refine blk_drew ?_ | refine blk_alloc ?_ _)); exact BK223.out) hb)
                      have n1_ := Aside0.mk (blk_below (g := gb226) (o := .cells #[.string ((rd_T36 l0_1 x6_4).f0), .int .i64 ((rd_T36 l0_1 x6_4).f1), .int .i64 ((rd_T36 l0_1 x6_4).f2), .slice (some ad227) ((rd_T36 l0_1 x6_4).f3).length c225_3, .slice A225_4 ((rd_T36 l0_1 x6_4).f4).length c225_4] 36 (0, 0)) (by (with_reducible repeat (first | refine blk_drewN ?_ _ | refine blk_drew ?_ | refine blk_alloc ?_ _)); exact BK226.out) hb)
                      have n2_ := Aside0.mk (below_step (by repeat (first | (with_reducible first | exact HB.out | apply below_alloc | apply pw_below_drewN | apply below_drew1 | refine below_set ?_ GE223.out | refine below_set ?_ GE226.out) | exact HB.out)) hb)
                      clear BK223
                      clear BK226
                      clear HB
                      have BK223 := n0_
                      have BK226 := n1_
                      have HB := n2_
                      clear n0_ n1_ n2_
                      (try clear hb)
                      (try clear hb2)
                      (try clear hk)
                      (try clear hi)
                      refine hK.out _ _ ⟨(blk_cell BK223.out 0).trans rfl, (blk_cell BK223.out 1).trans rfl, (blk_cell BK223.out 2).trans rfl, (blk_cell BK226.out 0).trans rfl, (blk_cell BK226.out 1).trans rfl, (blk_cell BK226.out 2).trans rfl, (blk_cell BK226.out 3).trans rfl, (blk_cell BK226.out 4).trans rfl, ((HB.out.cell (World.block_lt_of_cell? w _ hw227_0)).trans hw227_0)⟩ (fun hHeld => ?_)
                      clear hK K
                      refine norm_ (a' := ?_) ?_ ?_
                      rotate_left
                      ·show Act.put _ (some 114) _ = _
                       simp only [Act.put, List.setIfInBounds_toArray, List.set_cons_zero, List.set_cons_succ, i64_w, i32_w]
                       rfl
                      refine pure_ (i := 7) (N := some 115) (v := ?_) (a' := ?_) #[true, true, true, true, true, true, true, true, false, false, false, false, false, false, false, false, false, false, false, false, false, false] rfl rfl (any_of HT_.out (by kernel_rfl)) (fun _ _ _ h => h) (Or.inl ⟨by rfl, ?_⟩) ?_ ?_
                      rotate_left
                      ·intro w'
                       go_simp
                       with_reducible rfl
                      rotate_left
                      ·simp only [Act.put, List.setIfInBounds_toArray, List.set_cons_zero, List.set_cons_succ, i64_w, i32_w]
                       rfl
                      refine pure_ (i := 8) (N := some 116) (v := ?_) (a' := ?_) #[true, true, true, true, true, true, true, true, true, false, false, false, false, false, false, false, false, false, false, false, false, false] rfl rfl (any_of HT_.out (by kernel_rfl)) (fun _ _ _ h => h) (Or.inl ⟨by rfl, ?_⟩) ?_ ?_
                      rotate_left
                      ·intro w'
                       go_simp
                       with_reducible rfl
                      rotate_left
                      ·simp only [Act.put, List.setIfInBounds_toArray, List.set_cons_zero, List.set_cons_succ, i64_w, i32_w]
                       rfl
                      refine pure_ (i := 9) (N := some 117) (v := undef) (a' := ?_) #[true, true, true, true, true, true, true, true, true, true, false, false, false, false, false, false, false, false, false, false, false, false] rfl rfl (any_of HT_.out (by kernel_rfl)) (fun _ _ _ h => h) (Or.inr ⟨by rfl, rfl⟩) ?_ ?_
                      rotate_left
                      ·simp only [Act.put, List.setIfInBounds_toArray, List.set_cons_zero, List.set_cons_succ, i64_w, i32_w]
                       rfl
                      refine pure_ (i := 10) (N := some 118) (v := undef) (a' := ?_) #[true, true, true, true, true, true, true, true, true, true, true, false, false, false, false, false, false, false, false, false, false, false] rfl rfl (any_of HT_.out (by kernel_rfl)) (fun _ _ _ h => h) (Or.inr ⟨by rfl, rfl⟩) ?_ ?_
                      rotate_left
                      ·simp only [Act.put, List.setIfInBounds_toArray, List.set_cons_zero, List.set_cons_succ, i64_w, i32_w]
                       rfl
                      refine pure_ (i := 11) (N := some 119) (v := undef) (a' := ?_) #[true, true, true, true, true, true, true, true, true, true, true, true, false, false, false, false, false, false, false, false, false, false] rfl rfl (any_of HT_.out (by kernel_rfl)) (fun _ _ _ h => h) (Or.inr ⟨by rfl, rfl⟩) ?_ ?_
                      rotate_left
                      ·simp only [Act.put, List.setIfInBounds_toArray, List.set_cons_zero, List.set_cons_succ, i64_w, i32_w]
                       rfl
                      refine pure_ (i := 12) (N := some 120) (v := undef) (a' := ?_) #[true, true, true, true, true, true, true, true, true, true, true, true, true, false, false, false, false, false, false, false, false, false] rfl rfl (any_of HT_.out (by kernel_rfl)) (fun _ _ _ h => h) (Or.inr ⟨by rfl, rfl⟩) ?_ ?_
                      rotate_left
                      ·simp only [Act.put, List.setIfInBounds_toArray, List.set_cons_zero, List.set_cons_succ, i64_w, i32_w]
                       rfl
                      refine pure_ (i := 13) (N := some 121) (v := undef) (a' := ?_) #[true, true, true, true, true, true, true, true, true, true, true, true, true, true, false, false, false, false, false, false, false, false] rfl rfl (any_of HT_.out (by kernel_rfl)) (fun _ _ _ h => h) (Or.inr ⟨by rfl, rfl⟩) ?_ ?_
                      rotate_left
                      ·simp only [Act.put, List.setIfInBounds_toArray, List.set_cons_zero, List.set_cons_succ, i64_w, i32_w]
                       rfl
                      refine pure_ (i := 14) (N := some 122) (v := undef) (a' := ?_) #[true, true, true, true, true, true, true, true, true, true, true, true, true, true, true, false, false, false, false, false, false, false] rfl rfl (any_of HT_.out (by kernel_rfl)) (fun _ _ _ h => h) (Or.inr ⟨by rfl, rfl⟩) ?_ ?_
                      rotate_left
                      ·simp only [Act.put, List.setIfInBounds_toArray, List.set_cons_zero, List.set_cons_succ, i64_w, i32_w]
                       rfl
                      refine pure_ (i := 15) (N := some 123) (v := undef) (a' := ?_) #[true, true, true, true, true, true, true, true, true, true, true, true, true, true, true, true, false, false, false, false, false, false] rfl rfl (any_of HT_.out (by kernel_rfl)) (fun _ _ _ h => h) (Or.inr ⟨by rfl, rfl⟩) ?_ ?_
                      rotate_left
                      ·simp only [Act.put, List.setIfInBounds_toArray, List.set_cons_zero, List.set_cons_succ, i64_w, i32_w]
                       rfl
                      refine pure_ (i := 16) (N := some 124) (v := undef) (a' := ?_) #[true, true, true, true, true, true, true, true, true, true, true, true, true, true, true, true, true, false, false, false, false, false] rfl rfl (any_of HT_.out (by kernel_rfl)) (fun _ _ _ h => h) (Or.inr ⟨by rfl, rfl⟩) ?_ ?_
                      rotate_left
                      ·simp only [Act.put, List.setIfInBounds_toArray, List.set_cons_zero, List.set_cons_succ, i64_w, i32_w]
                       rfl
                      refine pure_ (i := 17) (N := some 125) (v := undef) (a' := ?_) #[true, true, true, true, true, true, true, true, true, true, true, true, true, true, true, true, true, true, false, false, false, false] rfl rfl (any_of HT_.out (by kernel_rfl)) (fun _ _ _ h => h) (Or.inr ⟨by rfl, rfl⟩) ?_ ?_
                      rotate_left
                      ·simp only [Act.put, List.setIfInBounds_toArray, List.set_cons_zero, List.set_cons_succ, i64_w, i32_w]
                       rfl
                      refine pure_ (i := 18) (N := some 126) (v := undef) (a' := ?_) #[true, true, true, true, true, true, true, true, true, true, true, true, true, true, true, true, true, true, true, false, false, false] rfl rfl (any_of HT_.out (by kernel_rfl)) (fun _ _ _ h => h) (Or.inr ⟨by rfl, rfl⟩) ?_ ?_
                      rotate_left
                      ·simp only [Act.put, List.setIfInBounds_toArray, List.set_cons_zero, List.set_cons_succ, i64_w, i32_w]
                       rfl
                      refine pure_ (i := 19) (N := some 127) (v := undef) (a' := ?_) #[true, true, true, true, true, true, true, true, true, true, true, true, true, true, true, true, true, true, true, true, false, false] rfl rfl (any_of HT_.out (by kernel_rfl)) (fun _ _ _ h => h) (Or.inr ⟨by rfl, rfl⟩) ?_ ?_
                      rotate_left
                      ·simp only [Act.put, List.setIfInBounds_toArray, List.set_cons_zero, List.set_cons_succ, i64_w, i32_w]
                       rfl
                      refine pure_ (i := 20) (N := some 128) (v := undef) (a' := ?_) #[true, true, true, true, true, true, true, true, true, true, true, true, true, true, true, true, true, true, true, true, true, false] rfl rfl (any_of HT_.out (by kernel_rfl)) (fun _ _ _ h => h) (Or.inr ⟨by rfl, rfl⟩) ?_ ?_
                      rotate_left
                      ·simp only [Act.put, List.setIfInBounds_toArray, List.set_cons_zero, List.set_cons_succ, i64_w, i32_w]
                       rfl
                      refine pure_ (i := 21) (N := some 129) (v := ?_) (a' := ?_) #[true, true, true, true, true, true, true, true, true, true, true, true, true, true, true, true, true, true, true, true, true, true] rfl rfl (any_of HT_.out (by kernel_rfl)) (fun _ _ _ h => h) (Or.inl ⟨by rfl, ?_⟩) ?_ ?_
                      rotate_left
                      ·intro w'
                       go_simp
                       with_reducible rfl
                      rotate_left
                      ·simp only [Act.put, List.setIfInBounds_toArray, List.set_cons_zero, List.set_cons_succ, i64_w, i32_w]
                       rfl
                      refine done_ (done_of HT_.out (by kernel_rfl)) ?_
                      try go_wp2
                      go_ret3
                      exact ⟨by first | rfl | (simp [errW_none, errW_some] <;> rfl) | (simp [*, errW_none, errW_some] <;> rfl), by repeat (first | (with_reducible first | exact HB.out | apply below_alloc | apply pw_below_drewN | apply below_drew1 | refine below_set ?_ GE223.out | refine below_set ?_ GE226.out) | exact HB.out)⟩
                    ·rw [if_neg c46] at H
                     exact absurd H (by simp)
                   ·rw [if_neg c45] at H
                    have c45b0 : decide (x8_6 < (((rd_T36 l0_1 x6_4).f3).length : Int)) = false := decide_eq_false c45
                    clear c45
                    have H' := Aside0.mk H
                    clear H
                    have hnb64 := NB226_223.out
                    have hnc64 := NB223_226.out
                    have hcz65_0 : wr.cell? ⟨gb226, 0, none⟩ = some (.string ((rd_T36 l0_1 x6_4).f0)) := (blk_cell BK226.out 0).trans rfl
                    have hcz65_1 : wr.cell? ⟨gb226, 1, none⟩ = some (.int .i64 ((rd_T36 l0_1 x6_4).f1)) := (blk_cell BK226.out 1).trans rfl
                    have hcz65_2 : wr.cell? ⟨gb226, 2, none⟩ = some (.int .i64 ((rd_T36 l0_1 x6_4).f2)) := (blk_cell BK226.out 2).trans rfl
                    have hcz65_3 : wr.cell? ⟨gb226, 3, none⟩ = some (.slice A225_3 ((rd_T36 l0_1 x6_4).f3).length c225_3) := (blk_cell BK226.out 3).trans rfl
                    have hcz65_4 : wr.cell? ⟨gb226, 4, none⟩ = some (.slice A225_4 ((rd_T36 l0_1 x6_4).f4).length c225_4) := (blk_cell BK226.out 4).trans rfl
                    have hfz65_0 := blk_frozen BK226.out 0
                    have hfz65_1 := blk_frozen BK226.out 1
                    have hfz65_2 := blk_frozen BK226.out 2
                    have hfz65_3 := blk_frozen BK226.out 3
                    have hfz65_4 := blk_frozen BK226.out 4
                    go_wp2
                    go_loopg [9] k6 (fun kq v9 w' => ∃ (x9_7 : Int), v9 = .int .i64 x9_7 ∧ Aside0 (crosstreeref08_Check.l3 kq x6_4 x9_7 l0_0 l0_1 a0_2 ((rd_T36 l0_1 x6_4).f0) ((rd_T36 l0_1 x6_4).f1) ((rd_T36 l0_1 x6_4).f2) ((rd_T36 l0_1 x6_4).f3) ((rd_T36 l0_1 x6_4).f4) = some (r1, r2, r3)) ∧ Aside0 (kq ≤ k6) ∧ Aside0 (w'.heap[gb223]? = some (.cells #[(.slice A0_0 l0_0.length c0_0), (.slice (some ad225) l0_1.length c0_1), .int .i64 a0_2] 25 (0, 0))) ∧ Aside0 (w'.heap[gb226]? = some (.cells #[.string ((rd_T36 l0_1 x6_4).f0), .int .i64 ((rd_T36 l0_1 x6_4).f1), .int .i64 ((rd_T36 l0_1 x6_4).f2), (.slice A225_3 ((rd_T36 l0_1 x6_4).f3).length c225_3), (.slice A225_4 ((rd_T36 l0_1 x6_4).f4).length c225_4)] 36 (0, 0))) ∧ Aside0 (Below w.heap.size w w'))
                    case atStart => exact ⟨(0), (by first | rfl | (simp; done) | (simp [*]; done)), H', ⟨Nat.le_refl _⟩, ⟨by (with_reducible repeat (first | refine blk_drewN ?_ _ | refine blk_drew ?_ | refine blk_alloc ?_ _)); exact BK223.out⟩, ⟨by (with_reducible repeat (first | refine blk_drewN ?_ _ | refine blk_drew ?_ | refine blk_alloc ?_ _)); exact BK226.out⟩, ⟨by repeat (first | (with_reducible first | exact HB.out | apply below_alloc | apply pw_below_drewN | apply below_drew1 | refine below_set ?_ GE223.out | refine below_set ?_ GE226.out) | exact HB.out)⟩⟩
                    case round =>
                     clear H'
                     try clear c1
                     try clear c2
                     try clear p2
                     try clear q2
                     try clear hx2
                     try clear c4
                     try clear c5
                     try clear c6
                     try clear p6
                     try clear c14
                     try clear c22
                     try clear p22
                     try clear q22
                     try clear hx22
                     try clear c23
                     try clear p23
                     try clear q23
                     try clear hx23
                     try clear c45
                     try clear c45b0
                     try clear c46
                     try clear c48
                     try clear c48b0
                     try clear c48b1
                     try clear c49
                     try clear c50
                     try clear c51
                     try clear c51b0
                     try clear c51b1
                     try clear c56
                     try clear c60
                     try clear c64
                     try clear p64
                     try clear hcz57_0
                     try clear hcz57_1
                     try clear hcz57_2
                     try clear hcz57_3
                     try clear hcz57_4
                     try clear hcz61_0
                     try clear hcz61_1
                     try clear hcz61_2
                     try clear hcz61_3
                     try clear hcz61_4
                     try clear hcz65_0
                     try clear hcz65_1
                     try clear hcz65_2
                     try clear hcz65_3
                     try clear hcz65_4
                     try clear hfz57_0
                     try clear hfz57_1
                     try clear hfz57_2
                     try clear hfz57_3
                     try clear hfz57_4
                     try clear hfz61_0
                     try clear hfz61_1
                     try clear hfz61_2
                     try clear hfz61_3
                     try clear hfz61_4
                     try clear hfz65_0
                     try clear hfz65_1
                     try clear hfz65_2
                     try clear hfz65_3
                     try clear hfz65_4
                     try clear hx227_0
                     try clear hx229_0
                     try clear hx230_0
                     try clear hx230_1
                     try clear hx230_2
                     try clear hx230_3
                     try clear hx230_4
                     try clear hx230_5
                     try clear hx230_6
                     try clear hx230_7
                     try clear p227
                     try clear p229
                     try clear p230
                     try clear q227
                     try clear q229
                     try clear q230
                     obtain ⟨x9_7, rfl, HA, HK7, BK223, BK226, HB⟩ := hrel
                     cases gk with
                     | zero => exact absurd HA.out (by simp [crosstreeref08_Check.l3])
                     | succ k7 =>
                      have H := HA.out
                      clear HA
                      simp only [crosstreeref08_Check.l3] at H
                      by_cases c66 : x9_7 < (((rd_T36 l0_1 x6_4).f4).length : Int)
                      ·rw [if_pos c66] at H
                       have c66b0 : decide (x9_7 < (((rd_T36 l0_1 x6_4).f4).length : Int)) = true := decide_eq_true c66
                       clear c66
                       replace H := Option.bind_eq_some_iff.mp H
                       obtain ⟨t231, A670, H⟩ := H
                       replace H : (if t231 = 0 then (crosstreeref08_Check.l3 k7 x6_4 (wrap64 (x9_7 + 1)) l0_0 l0_1 a0_2 ((rd_T36 l0_1 x6_4).f0) ((rd_T36 l0_1 x6_4).f1) ((rd_T36 l0_1 x6_4).f2) ((rd_T36 l0_1 x6_4).f3) ((rd_T36 l0_1 x6_4).f4)) else (some (x6_4, x9_7, t231))) = some (r1, r2, r3) := H
                       have A67 := Aside0.mk A670
                       clear A670
                       by_cases c68 : t231 = 0
                       ·rw [if_pos c68] at H
                        have c68b0 : (t231 == 0) = true := beq_iff_eq.mpr c68
                        have c68b1 : (t231 != 0) = false := bne_eq_false_iff_eq.mpr c68
                        clear c68
                        have H' := Aside0.mk H
                        clear H
                        have hnb69 := NB226_223.out
                        have hnc69 := NB223_226.out
                        have hcz70_0 : wr.cell? ⟨gb226, 0, none⟩ = some (.string ((rd_T36 l0_1 x6_4).f0)) := (blk_cell BK226.out 0).trans rfl
                        have hcz70_1 : wr.cell? ⟨gb226, 1, none⟩ = some (.int .i64 ((rd_T36 l0_1 x6_4).f1)) := (blk_cell BK226.out 1).trans rfl
                        have hcz70_2 : wr.cell? ⟨gb226, 2, none⟩ = some (.int .i64 ((rd_T36 l0_1 x6_4).f2)) := (blk_cell BK226.out 2).trans rfl
                        have hcz70_3 : wr.cell? ⟨gb226, 3, none⟩ = some (.slice A225_3 ((rd_T36 l0_1 x6_4).f3).length c225_3) := (blk_cell BK226.out 3).trans rfl
                        have hcz70_4 : wr.cell? ⟨gb226, 4, none⟩ = some (.slice A225_4 ((rd_T36 l0_1 x6_4).f4).length c225_4) := (blk_cell BK226.out 4).trans rfl
                        have hfz70_0 := blk_frozen BK226.out 0
                        have hfz70_1 := blk_frozen BK226.out 1
                        have hfz70_2 := blk_frozen BK226.out 2
                        have hfz70_3 := blk_frozen BK226.out 3
                        have hfz70_4 := blk_frozen BK226.out 4
                        have hcz71_0 : wr.cell? ⟨gb223, 0, none⟩ = some (.slice A0_0 l0_0.length c0_0) := (blk_cell BK223.out 0).trans rfl
                        have hcz71_1 : wr.cell? ⟨gb223, 1, none⟩ = some (.slice (some ad225) l0_1.length c0_1) := (blk_cell BK223.out 1).trans rfl
                        have hcz71_2 : wr.cell? ⟨gb223, 2, none⟩ = some (.int .i64 a0_2) := (blk_cell BK223.out 2).trans rfl
                        have hfz71_0 := blk_frozen BK223.out 0
                        have hfz71_1 := blk_frozen BK223.out 1
                        have hfz71_2 := blk_frozen BK223.out 2
                        go_wp2_with (first | ((with_reducible refine gate_callee (f := 15) rfl ?_); refine goesL_ (some 141) rfl rfl Tryd.func15 (by kernel_rfl) rfl #[.agg #[.slice A0_0 l0_0.length c0_0, .slice (some ad225) l0_1.length c0_1, .int .i64 a0_2], .agg #[.string ((rd_T36 l0_1 x6_4).f0), .int .i64 ((rd_T36 l0_1 x6_4).f1), .int .i64 ((rd_T36 l0_1 x6_4).f2), .slice A225_3 ((rd_T36 l0_1 x6_4).f3).length c225_3, .slice A225_4 ((rd_T36 l0_1 x6_4).f4).length c225_4], .int .i64 x9_7] rfl (by (try simp only [List.map_toArray, List.map_cons, List.map_nil]); first | done | rfl | (simp only [List.length_drop, List.length_take]; rfl)) ?_; (with_reducible refine (crosstreeref08_Insn.calls k7 _ _ l0_0 _ _ l0_1 a0_2 ((rd_T36 l0_1 x6_4).f0) ((rd_T36 l0_1 x6_4).f1) ((rd_T36 l0_1 x6_4).f2) _ _ ((rd_T36 l0_1 x6_4).f3) _ _ ((rd_T36 l0_1 x6_4).f4) x9_7 t231 _ ?side1 ?side2 ?side3 ?side4 ?side5 ?side6 ?side7 ?side8 A67.out).mono ?_); (case side1 => repeat (first | exact (Kd.C_below HR0_0.out HB.out) | (with_reducible refine Kd.C_alloc ?_ _) | (with_reducible refine Kd.C_drewN ?_ _) | (with_reducible refine Kd.C_drew ?_))); (case side2 => exact HC0_0.out); (case side3 => repeat (first | exact (Kd.C_below HR0_1.out HB.out) | (with_reducible refine Kd.C_alloc ?_ _) | (with_reducible refine Kd.C_drewN ?_ _) | (with_reducible refine Kd.C_drew ?_))); (case side4 => exact HC0_1.out); (case side5 => repeat (first | exact (Kd.C_below HR225_3.out HB.out) | (with_reducible refine Kd.C_alloc ?_ _) | (with_reducible refine Kd.C_drewN ?_ _) | (with_reducible refine Kd.C_drew ?_))); (case side6 => exact HC225_3.out); (case side7 => repeat (first | exact (Kd.C_below HR225_4.out HB.out) | (with_reducible refine Kd.C_alloc ?_ _) | (with_reducible refine Kd.C_drewN ?_ _) | (with_reducible refine Kd.C_drew ?_))); (case side8 => exact HC225_4.out); rintro e w72 ⟨rfl, hb⟩; refine ⟨_, rfl, ?_⟩; have n0_ := Aside0.mk (blk_below (g := gb223) (o := .cells #[.slice A0_0 l0_0.length c0_0, .slice (some ad225) l0_1.length c0_1, .int .i64 a0_2] 25 (0, 0)) (by (with_reducible repeat (first | refine blk_drewN ?_ _ | refine blk_drew ?_ | refine blk_alloc ?_ _)); exact BK223.out) hb); have n1_ := Aside0.mk (blk_below (g := gb226) (o := .cells #[.string ((rd_T36 l0_1 x6_4).f0), .int .i64 ((rd_T36 l0_1 x6_4).f1), .int .i64 ((rd_T36 l0_1 x6_4).f2), .slice A225_3 ((rd_T36 l0_1 x6_4).f3).length c225_3, .slice A225_4 ((rd_T36 l0_1 x6_4).f4).length c225_4] 36 (0, 0)) (by (with_reducible repeat (first | refine blk_drewN ?_ _ | refine blk_drew ?_ | refine blk_alloc ?_ _)); exact BK226.out) hb); have n2_ := Aside0.mk (below_step (by repeat (first | (with_reducible first | exact HB.out | apply below_alloc | apply pw_below_drewN | apply below_drew1 | refine below_set ?_ GE223.out | refine below_set ?_ GE226.out) | exact HB.out)) hb); clear BK223; clear BK226; clear HB; have BK223 := n0_; have BK226 := n1_; have HB := n2_; clear n0_ n1_ n2_; (try clear hb); (try clear hb2); (try clear hk); (try clear hi)))
                        go_roundg k7
                        case measure => have := HJ1.out; have := HJ7.out; have := HK3.out; have := HK4.out; have := HJ24.out; have := HK6.out; have := HK7.out; omega
                        case rel => exact ⟨(wrap64 (x9_7 + 1)), (by first | rfl | (simp; done) | (simp [*]; done)), H', ⟨by have := HJ1.out; have := HJ7.out; have := HK3.out; have := HK4.out; have := HJ24.out; have := HK6.out; have := HK7.out; omega⟩, ⟨by (with_reducible repeat (first | refine blk_drewN ?_ _ | refine blk_drew ?_ | refine blk_alloc ?_ _)); exact BK223.out⟩, ⟨by (with_reducible repeat (first | refine blk_drewN ?_ _ | refine blk_drew ?_ | refine blk_alloc ?_ _)); exact BK226.out⟩, ⟨by repeat (first | (with_reducible first | exact HB.out | apply below_alloc | apply pw_below_drewN | apply below_drew1 | refine below_set ?_ GE223.out | refine below_set ?_ GE226.out) | exact HB.out)⟩⟩
                       ·rw [if_neg c68] at H
                        have c68b0 : (t231 == 0) = false := beq_eq_false_iff_ne.mpr c68
                        have c68b1 : (t231 != 0) = true := bne_iff_ne.mpr c68
                        simp only [Option.some.injEq, Prod.mk.injEq] at H
                        obtain ⟨rfl, rfl, rfl⟩ := H
                        have hnb73 := NB226_223.out
                        have hnc73 := NB223_226.out
                        have hcz74_0 : wr.cell? ⟨gb226, 0, none⟩ = some (.string ((rd_T36 l0_1 x6_4).f0)) := (blk_cell BK226.out 0).trans rfl
                        have hcz74_1 : wr.cell? ⟨gb226, 1, none⟩ = some (.int .i64 ((rd_T36 l0_1 x6_4).f1)) := (blk_cell BK226.out 1).trans rfl
                        have hcz74_2 : wr.cell? ⟨gb226, 2, none⟩ = some (.int .i64 ((rd_T36 l0_1 x6_4).f2)) := (blk_cell BK226.out 2).trans rfl
                        have hcz74_3 : wr.cell? ⟨gb226, 3, none⟩ = some (.slice A225_3 ((rd_T36 l0_1 x6_4).f3).length c225_3) := (blk_cell BK226.out 3).trans rfl
                        have hcz74_4 : wr.cell? ⟨gb226, 4, none⟩ = some (.slice A225_4 ((rd_T36 l0_1 x6_4).f4).length c225_4) := (blk_cell BK226.out 4).trans rfl
                        have hfz74_0 := blk_frozen BK226.out 0
                        have hfz74_1 := blk_frozen BK226.out 1
                        have hfz74_2 := blk_frozen BK226.out 2
                        have hfz74_3 := blk_frozen BK226.out 3
                        have hfz74_4 := blk_frozen BK226.out 4
                        have hcz75_0 : wr.cell? ⟨gb223, 0, none⟩ = some (.slice A0_0 l0_0.length c0_0) := (blk_cell BK223.out 0).trans rfl
                        have hcz75_1 : wr.cell? ⟨gb223, 1, none⟩ = some (.slice (some ad225) l0_1.length c0_1) := (blk_cell BK223.out 1).trans rfl
                        have hcz75_2 : wr.cell? ⟨gb223, 2, none⟩ = some (.int .i64 a0_2) := (blk_cell BK223.out 2).trans rfl
                        have hfz75_0 := blk_frozen BK223.out 0
                        have hfz75_1 := blk_frozen BK223.out 1
                        have hfz75_2 := blk_frozen BK223.out 2
                        go_wp2_with (first | ((with_reducible refine gate_callee (f := 15) rfl ?_); refine goesL_ (some 141) rfl rfl Tryd.func15 (by kernel_rfl) rfl #[.agg #[.slice A0_0 l0_0.length c0_0, .slice (some ad225) l0_1.length c0_1, .int .i64 a0_2], .agg #[.string ((rd_T36 l0_1 x6_4).f0), .int .i64 ((rd_T36 l0_1 x6_4).f1), .int .i64 ((rd_T36 l0_1 x6_4).f2), .slice A225_3 ((rd_T36 l0_1 x6_4).f3).length c225_3, .slice A225_4 ((rd_T36 l0_1 x6_4).f4).length c225_4], .int .i64 x9_7] rfl (by (try simp only [List.map_toArray, List.map_cons, List.map_nil]); first | done | rfl | (simp only [List.length_drop, List.length_take]; rfl)) ?_; (with_reducible refine (crosstreeref08_Insn.calls k7 _ _ l0_0 _ _ l0_1 a0_2 ((rd_T36 l0_1 x6_4).f0) ((rd_T36 l0_1 x6_4).f1) ((rd_T36 l0_1 x6_4).f2) _ _ ((rd_T36 l0_1 x6_4).f3) _ _ ((rd_T36 l0_1 x6_4).f4) x9_7 t231 _ ?side1 ?side2 ?side3 ?side4 ?side5 ?side6 ?side7 ?side8 A67.out).mono ?_); (case side1 => repeat (first | exact (Kd.C_below HR0_0.out HB.out) | (with_reducible refine Kd.C_alloc ?_ _) | (with_reducible refine Kd.C_drewN ?_ _) | (with_reducible refine Kd.C_drew ?_))); (case side2 => exact HC0_0.out); (case side3 => repeat (first | exact (Kd.C_below HR0_1.out HB.out) | (with_reducible refine Kd.C_alloc ?_ _) | (with_reducible refine Kd.C_drewN ?_ _) | (with_reducible refine Kd.C_drew ?_))); (case side4 => exact HC0_1.out); (case side5 => repeat (first | exact (Kd.C_below HR225_3.out HB.out) | (with_reducible refine Kd.C_alloc ?_ _) | (with_reducible refine Kd.C_drewN ?_ _) | (with_reducible refine Kd.C_drew ?_))); (case side6 => exact HC225_3.out); (case side7 => repeat (first | exact (Kd.C_below HR225_4.out HB.out) | (with_reducible refine Kd.C_alloc ?_ _) | (with_reducible refine Kd.C_drewN ?_ _) | (with_reducible refine Kd.C_drew ?_))); (case side8 => exact HC225_4.out); rintro e w76 ⟨rfl, hb⟩; refine ⟨_, rfl, ?_⟩; have n0_ := Aside0.mk (blk_below (g := gb223) (o := .cells #[.slice A0_0 l0_0.length c0_0, .slice (some ad225) l0_1.length c0_1, .int .i64 a0_2] 25 (0, 0)) (by (with_reducible repeat (first | refine blk_drewN ?_ _ | refine blk_drew ?_ | refine blk_alloc ?_ _)); exact BK223.out) hb); have n1_ := Aside0.mk (blk_below (g := gb226) (o := .cells #[.string ((rd_T36 l0_1 x6_4).f0), .int .i64 ((rd_T36 l0_1 x6_4).f1), .int .i64 ((rd_T36 l0_1 x6_4).f2), .slice A225_3 ((rd_T36 l0_1 x6_4).f3).length c225_3, .slice A225_4 ((rd_T36 l0_1 x6_4).f4).length c225_4] 36 (0, 0)) (by (with_reducible repeat (first | refine blk_drewN ?_ _ | refine blk_drew ?_ | refine blk_alloc ?_ _)); exact BK226.out) hb); have n2_ := Aside0.mk (below_step (by repeat (first | (with_reducible first | exact HB.out | apply below_alloc | apply pw_below_drewN | apply below_drew1 | refine below_set ?_ GE223.out | refine below_set ?_ GE226.out) | exact HB.out)) hb); clear BK223; clear BK226; clear HB; have BK223 := n0_; have BK226 := n1_; have HB := n2_; clear n0_ n1_ n2_; (try clear hb); (try clear hb2); (try clear hk); (try clear hi)))
                        go_ret3
                        exact ⟨by first | rfl | (simp [errW_none, errW_some] <;> rfl) | (simp [*, errW_none, errW_some] <;> rfl), by repeat (first | (with_reducible first | exact HB.out | apply below_alloc | apply pw_below_drewN | apply below_drew1 | refine below_set ?_ GE223.out | refine below_set ?_ GE226.out) | exact HB.out)⟩
                      ·rw [if_neg c66] at H
                       have c66b0 : decide (x9_7 < (((rd_T36 l0_1 x6_4).f4).length : Int)) = false := decide_eq_false c66
                       clear c66
                       have H' := Aside0.mk H
                       clear H
                       have hnb77 := NB226_223.out
                       have hnc77 := NB223_226.out
                       have hcz78_0 : wr.cell? ⟨gb226, 0, none⟩ = some (.string ((rd_T36 l0_1 x6_4).f0)) := (blk_cell BK226.out 0).trans rfl
                       have hcz78_1 : wr.cell? ⟨gb226, 1, none⟩ = some (.int .i64 ((rd_T36 l0_1 x6_4).f1)) := (blk_cell BK226.out 1).trans rfl
                       have hcz78_2 : wr.cell? ⟨gb226, 2, none⟩ = some (.int .i64 ((rd_T36 l0_1 x6_4).f2)) := (blk_cell BK226.out 2).trans rfl
                       have hcz78_3 : wr.cell? ⟨gb226, 3, none⟩ = some (.slice A225_3 ((rd_T36 l0_1 x6_4).f3).length c225_3) := (blk_cell BK226.out 3).trans rfl
                       have hcz78_4 : wr.cell? ⟨gb226, 4, none⟩ = some (.slice A225_4 ((rd_T36 l0_1 x6_4).f4).length c225_4) := (blk_cell BK226.out 4).trans rfl
                       have hfz78_0 := blk_frozen BK226.out 0
                       have hfz78_1 := blk_frozen BK226.out 1
                       have hfz78_2 := blk_frozen BK226.out 2
                       have hfz78_3 := blk_frozen BK226.out 3
                       have hfz78_4 := blk_frozen BK226.out 4
                       go_wp2
                       go_roundg k7
                       case measure => have := HJ1.out; have := HJ7.out; have := HK3.out; have := HK4.out; have := HJ24.out; have := HK6.out; have := HK7.out; omega
                       case rel => exact ⟨(wrap64 (x6_4 + 1)), (by first | rfl | (simp; done) | (simp [*]; done)), H', ⟨by have := HJ1.out; have := HJ7.out; have := HK3.out; have := HK4.out; have := HJ24.out; have := HK6.out; have := HK7.out; omega⟩, ⟨by (with_reducible repeat (first | refine blk_drewN ?_ _ | refine blk_drew ?_ | refine blk_alloc ?_ _)); exact BK223.out⟩, ⟨by repeat (first | (with_reducible first | exact HB.out | apply below_alloc | apply pw_below_drewN | apply below_drew1 | refine below_set ?_ GE223.out | refine below_set ?_ GE226.out) | exact HB.out)⟩⟩
             ·rw [if_neg c24] at H
              exact absurd H (by simp)
            ·rw [if_neg c23] at H
             have c23b0 : decide (x6_4 < (l0_1.length : Int)) = false := decide_eq_false c23
             clear c23
             simp only [Option.some.injEq, Prod.mk.injEq] at H
             obtain ⟨rfl, rfl, rfl⟩ := H
             have hcz79_0 : wr.cell? ⟨gb223, 0, none⟩ = some (.slice A0_0 l0_0.length c0_0) := (blk_cell BK223.out 0).trans rfl
             have hcz79_1 : wr.cell? ⟨gb223, 1, none⟩ = some (.slice A0_1 l0_1.length c0_1) := (blk_cell BK223.out 1).trans rfl
             have hcz79_2 : wr.cell? ⟨gb223, 2, none⟩ = some (.int .i64 a0_2) := (blk_cell BK223.out 2).trans rfl
             have hfz79_0 := blk_frozen BK223.out 0
             have hfz79_1 := blk_frozen BK223.out 1
             have hfz79_2 := blk_frozen BK223.out 2
             go_wp2
             go_ret3
             exact ⟨by first | rfl | (simp [errW_none, errW_some] <;> rfl) | (simp [*, errW_none, errW_some] <;> rfl), by repeat (first | (with_reducible first | exact HB.out | apply below_alloc | apply pw_below_drewN | apply below_drew1 | refine below_set ?_ GE223.out) | exact HB.out)⟩
end Go.Proofs.YtmiacdacebaagaaDoor.G
set_option linter.unusedVariables false
set_option linter.unusedSimpArgs false
namespace Go.Proofs.YtmiacdacebaagaaDoor.G
open Go.RowKit Go.Proofs.YtmiacdacebaagaaDoor.B Go.Proofs.YtmiacdacebaagaaDoorW.PrintWords Go.Proofs.YtmiacdacebaagaaDoorW.PrintLast Go.Proofs.YtmiacdacebaagaaDoorW.PrintMore
def WfF (f : S36) : Prop := f.f3.length * 8 ≤ 140737488351232 ∧ ∀ i ∈ f.f4, i.f7.length * 8 ≤ 140737488351232
def WfP (p : PV) : Prop := ∀ f ∈ p.fns, WfF f
theorem rd36_mem (l : List S36) (n : Nat) (h : n < l.length) : rd_T36 l (n : Int) = l[n] := by
  unfold rd_T36
  rw [Int.toNat_natCast, List.getD_eq_getElem?_getD, List.getElem?_eq_getElem h]
  rfl
theorem rd39_mem (l : List S39) (n : Nat) (h : n < l.length) : rd_T39 l (n : Int) = l[n] := by
  unfold rd_T39
  rw [Int.toNat_natCast, List.getD_eq_getElem?_getD, List.getElem?_eq_getElem h]
  rfl
theorem badSize_iff (f : S36) : badSize f = true ↔ 4000 < f.f4.length ∨ f.f4.length = 0 ∨ 4000 < f.f1 ∨ f.f1 < f.f2 ∨ f.f2 < 0 := by
  simp only [badSize, Bool.or_eq_true, decide_eq_true_eq, beq_iff_eq]
theorem badSize_not (f : S36) : badSize f = false ↔ f.f4.length ≤ 4000 ∧ f.f4.length ≠ 0 ∧ f.f1 ≤ 4000 ∧ f.f2 ≤ f.f1 ∧ 0 ≤ f.f2 := by
  rw [← Bool.not_eq_true, badSize_iff]
  omega
theorem chk_l3 (p : PV) (f : S36) (n : Nat) (hf : WfF f) (r : Int × Int × Int) (k0 : Nat) (hk0 : 100000000000000 ≤ k0) (hc : f.f4.length ≤ 4000) (hn : n ≤ 1000)
    (hr : crosstreeref08_Check.l1 k0 ((n + 1 : Nat) : Int) p.sites p.fns p.main = some r) : ∀ (d pc : Nat), f.f4.length - pc = d → pc ≤ f.f4.length →
    crosstreeref08_Check.l3 (k0 + d + 1) (n : Int) (pc : Int) p.sites p.fns p.main f.f0 f.f1 f.f2 f.f3 f.f4 = some (if (codeS p f d pc).2 = 0 then r else ((n : Int), (codeS p f d pc).1, (codeS p f d pc).2)) := by
  intro d
  induction d with
  | zero =>
    intro pc h1 h2
    unfold crosstreeref08_Check.l3
    rw [if_neg (by omega), w64 (x := (n : Int) + 1) (by omega) (by omega), show (n : Int) + 1 = ((n + 1 : Nat) : Int) by omega, Nat.add_zero, hr]
    rfl
  | succ d ih =>
    intro pc h1 h2
    have hlt : pc < f.f4.length := by omega
    unfold crosstreeref08_Check.l3
    have hb : (rd_T39 f.f4 (pc : Int)).f7.length * 8 ≤ 140737488351232 := by rw [rd39_mem _ _ hlt]; exact hf.2 _ (List.getElem_mem hlt)
    rw [if_pos (by omega), refInsn_ok p f (pc : Int) (k0 + (d + 1)) (by omega) (by omega) hb (by omega), Option.bind_some]
    unfold codeS
    by_cases h3 : insnS p f (pc : Int) = 0
    · rw [if_pos h3, if_pos h3, w64 (x := (pc : Int) + 1) (by omega) (by omega), show (pc : Int) + 1 = ((pc + 1 : Nat) : Int) by omega]
      exact ih (pc + 1) (by omega) (by omega)
    · rw [if_neg h3, if_neg h3, if_neg h3]
theorem chk_l2 (p : PV) (f : S36) (n : Nat) (hf : WfF f) (r : Int × Int × Int) (k1 : Nat)
    (hr : crosstreeref08_Check.l3 k1 (n : Int) 0 p.sites p.fns p.main f.f0 f.f1 f.f2 f.f3 f.f4 = some r) : ∀ (d j : Nat), f.f3.length - j = d → j ≤ f.f3.length →
    crosstreeref08_Check.l2 (k1 + d + 1) (n : Int) (j : Int) p.sites p.fns p.main f.f0 f.f1 f.f2 f.f3 f.f4 = some (if (f.f3.drop j).all (localOk p n) = true then r else ((n : Int), 0, 8)) := by
  intro d
  induction d with
  | zero =>
    intro j h1 h2
    unfold crosstreeref08_Check.l2
    rw [if_neg (by omega)]
    try rw [Nat.add_zero]
    rw [hr, List.drop_eq_nil_of_le (by omega)]
    rfl
  | succ d ih =>
    intro j h1 h2
    have hlt : j < f.f3.length := by omega
    unfold crosstreeref08_Check.l2
    have h8 := hf.1
    rw [if_pos (by omega), if_pos (by omega), rkind_f, Option.bind_some, rd_at _ _ hlt, List.drop_eq_getElem_cons hlt, List.all_cons]
    by_cases h3 : kindS p.sites f.f3[j] = 2
    · have h4 : 0 ≤ f.f3[j] ∧ f.f3[j] < (p.sites.length : Int) := by
        unfold kindS at h3
        split at h3
        · omega
        · omega
      rw [if_pos h3, if_pos h4.1, if_pos h4.2]
      by_cases h5 : (rd_T48 p.sites f.f3[j]).f2 = n
      · have h6 : localOk p n f.f3[j] = true := by simp [localOk, h3, h5]
        rw [if_pos h5, w64 (x := (j : Int) + 1) (by omega) (by omega), show (j : Int) + 1 = ((j + 1 : Nat) : Int) by omega, h6, Bool.true_and]
        exact ih (j + 1) (by omega) (by omega)
      · have h6 : localOk p n f.f3[j] = false := by simp [localOk, h5]
        rw [if_neg h5, h6, Bool.false_and, if_neg (by simp)]
    · have h6 : localOk p n f.f3[j] = false := by simp [localOk, h3]
      rw [if_neg h3, h6, Bool.false_and, if_neg (by simp)]
theorem chk_j4 (p : PV) (f : S36) (n : Nat) (hf : WfF f) (hn : n ≤ 1000) (hc : badSize f = false) (r : Int × Int × Int) (k0 : Nat) (hk0 : 100000000000000 ≤ k0)
    (hr : crosstreeref08_Check.l1 k0 ((n + 1 : Nat) : Int) p.sites p.fns p.main = some r) :
    crosstreeref08_Check.j4 (k0 + f.f4.length + 1 + f.f3.length + 1 + 1) (n : Int) false p.sites p.fns p.main f.f0 f.f1 f.f2 f.f3 f.f4 =
      some (if f.f3.all (localOk p n) = true then (if (codeS p f f.f4.length 0).2 = 0 then r else ((n : Int), (codeS p f f.f4.length 0).1, (codeS p f f.f4.length 0).2)) else ((n : Int), 0, 8)) := by
  have h1 : f.f4.length ≤ 4000 := by
    exact ((badSize_not f).1 hc).1
  have h2 := chk_l3 p f n hf r k0 hk0 h1 hn hr f.f4.length 0 (by omega) (Nat.zero_le _)
  rw [show ((0 : Nat) : Int) = 0 from rfl] at h2
  have h3 := chk_l2 p f n hf _ _ h2 f.f3.length 0 (by omega) (Nat.zero_le _)
  rw [show ((0 : Nat) : Int) = 0 from rfl, List.drop_zero] at h3
  unfold crosstreeref08_Check.j4
  rw [if_neg (by simp), h3]
theorem chk_j4t (p : PV) (f : S36) (n : Nat) (k : Nat) : crosstreeref08_Check.j4 (k + 1) (n : Int) true p.sites p.fns p.main f.f0 f.f1 f.f2 f.f3 f.f4 = some ((n : Int), 0, 5) := by
  unfold crosstreeref08_Check.j4
  rw [if_pos rfl]
theorem chk_l1 (p : PV) (hp : WfP p) (hfl : p.fns.length ≤ 200) (M B : Nat) (hM : 20000000000000 ≤ M) (hB : 100000000000001 ≤ B) : ∀ (d n k : Nat), p.fns.length - n = d → n ≤ p.fns.length → d * M + B ≤ k →
    crosstreeref08_Check.l1 k (n : Int) p.sites p.fns p.main = some (fnsS p d n) := by
  intro d
  induction d with
  | zero =>
    intro n k h1 h2 h3
    obtain ⟨k, rfl⟩ : ∃ j, k = j + 1 := ⟨k - 1, by omega⟩
    unfold crosstreeref08_Check.l1
    rw [if_neg (by omega)]
    rfl
  | succ d ih =>
    intro n k h1 h2 h3
    rw [Nat.succ_mul] at h3
    have hlt : n < p.fns.length := by omega
    have hf : WfF (rd_T36 p.fns (n : Int)) := by rw [rd36_mem _ _ hlt]; exact hp _ (List.getElem_mem hlt)
    obtain ⟨k, rfl⟩ : ∃ j, k = j + 1 := ⟨k - 1, by omega⟩
    unfold crosstreeref08_Check.l1 fnsS fnS
    rw [if_pos (by omega), if_pos (by omega)]
    generalize rd_T36 p.fns (n : Int) = f at hf ⊢
    have h8 := hf.1
    obtain ⟨k', hk'⟩ : ∃ j, k = j + 1 := ⟨k - 1, by omega⟩
    by_cases b1 : (f.f4.length : Int) > 4000
    · have hb : badSize f = true := (badSize_iff f).2 (by omega)
      rw [if_pos b1, if_pos hb, hk', chk_j4t]
      rfl
    rw [if_neg b1]
    by_cases b2 : (f.f4.length : Int) = 0
    · have hb : badSize f = true := (badSize_iff f).2 (by omega)
      rw [if_pos b2, if_pos hb, hk', chk_j4t]
      rfl
    rw [if_neg b2]
    by_cases b3 : f.f1 > 4000
    · have hb : badSize f = true := (badSize_iff f).2 (by omega)
      rw [if_pos b3, if_pos hb, hk', chk_j4t]
      rfl
    rw [if_neg b3]
    by_cases b4 : f.f1 < f.f2
    · have hb : badSize f = true := (badSize_iff f).2 (by omega)
      rw [if_pos b4, if_pos hb, hk', chk_j4t]
      rfl
    rw [if_neg b4]
    by_cases b5 : f.f2 < 0
    · have hb : badSize f = true := (badSize_iff f).2 (by omega)
      rw [decide_eq_true b5, if_pos hb, hk', chk_j4t]
      rfl
    have hb : badSize f = false := (badSize_not f).2 (by omega)
    have hc : f.f4.length ≤ 4000 := by omega
    have hbn : ¬ badSize f = true := by rw [hb]; simp
    rw [decide_eq_false b5]
    simp only [if_neg hbn]
    obtain ⟨k0, hk0⟩ : ∃ j, k = j + f.f4.length + 1 + f.f3.length + 1 + 1 := ⟨k - (f.f4.length + 1 + f.f3.length + 1 + 1), by omega⟩
    have hl1 := ih (n + 1) k0 (by omega) (by omega) (by generalize d * M = dm at h3; omega)
    rw [hk0, chk_j4 p f n hf (by omega) hb _ k0 (by omega) hl1]
    by_cases hL : f.f3.all (localOk p n) = true
    · simp only [if_pos hL]
    · simp only [if_neg hL]
      rfl
theorem chk_l0 (p : PV) (r : Int × Int × Int) (k0 : Nat) (hs : p.sites.length ≤ 600)
    (hr : crosstreeref08_Check.l1 k0 0 p.sites p.fns p.main = some r) : ∀ (d n : Nat), p.sites.length - n = d → n ≤ p.sites.length →
    crosstreeref08_Check.l0 (k0 + d + 1) (n : Int) p.sites p.fns p.main = some (if sitesS p d n = true then r else (0, 0, 8)) := by
  intro d
  induction d with
  | zero =>
    intro n h1 h2
    unfold crosstreeref08_Check.l0
    rw [if_neg (by omega)]
    try rw [Nat.add_zero]
    rw [hr]
    rfl
  | succ d ih =>
    intro n h1 h2
    unfold crosstreeref08_Check.l0 sitesS
    rw [if_pos (by omega), if_pos (by omega)]
    by_cases h3 : ((rd_T48 p.sites n).f0 == 4) = decide ((n : Int) < p.fns.length)
    · rw [if_pos h3, if_neg (by rw [h3]; simp), w64 (x := (n : Int) + 1) (by omega) (by omega), show (n : Int) + 1 = ((n + 1 : Nat) : Int) by omega]
      exact ih (n + 1) (by omega) (by omega)
    · rw [if_neg h3, if_pos (by rw [bne_iff_ne]; exact h3), if_neg (by simp)]
theorem refChk_ok (p : PV) (hp : WfP p) : ∃ k, crosstreeref08_Check.f k p.sites p.fns p.main = some (chkS p) := by
  by_cases hf : (p.fns.length : Int) > 200
  · refine ⟨1, ?_⟩
    unfold crosstreeref08_Check.f chkS
    rw [if_pos hf, if_pos (by omega)]
    rfl
  by_cases hs : (p.sites.length : Int) > 600
  · refine ⟨1, ?_⟩
    unfold crosstreeref08_Check.f chkS
    rw [if_neg hf, if_pos (by omega), decide_eq_true hs]
    rfl
  obtain ⟨k0, h1⟩ : ∃ k0, crosstreeref08_Check.l1 k0 ((0 : Nat) : Int) p.sites p.fns p.main = some (fnsS p p.fns.length 0) := ⟨_, chk_l1 p hp (by omega) 20000000000000 100000000000001 (Nat.le_refl _) (Nat.le_refl _) p.fns.length 0 _ (by omega) (Nat.zero_le _) (Nat.le_refl _)⟩
  have h2 := chk_l0 p _ k0 (by omega) h1 p.sites.length 0 (by omega) (Nat.zero_le _)
  rw [show ((0 : Nat) : Int) = 0 from rfl] at h2
  refine ⟨k0 + p.sites.length + 1 + 1 + 1, ?_⟩
  unfold crosstreeref08_Check.f chkS
  have hlen : ¬ (200 < p.fns.length ∨ 600 < p.sites.length) := by omega
  rw [if_neg hf, if_neg hlen, decide_eq_false hs]
  rw [crosstreeref08_Check.j0]
  rw [if_neg (by simp)]
  by_cases h3 : p.main < 0
  · rw [if_pos h3, if_pos (.inl h3)]
    rw [crosstreeref08_Check.j1]
    rw [if_pos rfl]
  rw [if_neg h3]
  by_cases h4 : p.main ≥ (p.fns.length : Int)
  · rw [if_pos h4, if_pos (.inr (.inl h4))]
    rw [crosstreeref08_Check.j1]
    rw [if_pos rfl]
  rw [if_neg h4]
  rw [crosstreeref08_Check.j1]
  by_cases h5 : p.sites.length < p.fns.length
  · rw [decide_eq_true (by omega), if_pos rfl, if_pos (.inr (.inr h5))]
  rw [decide_eq_false (by omega), if_neg (by simp), if_neg (by omega), h2]
end Go.Proofs.YtmiacdacebaagaaDoor.G
set_option linter.unusedVariables false
set_option linter.unusedSimpArgs false
namespace Go.Proofs.YtmiacdacebaagaaDoor.G
open Go.RowKit Go.Proofs.YtmiacdacebaagaaDoor.B Go.Proofs.YtmiacdacebaagaaDoorW.PrintWords Go.Proofs.YtmiacdacebaagaaDoorW.PrintLast Go.Proofs.YtmiacdacebaagaaDoorW.PrintMore
theorem codeS_step (p : PV) (f : S36) {d pc : Nat} (h : insnS p f pc = 0) : codeS p f (d + 1) pc = codeS p f d (pc + 1) := by
 rw [codeS, if_pos h]
theorem codeS_stop (p : PV) (f : S36) {d pc : Nat} (h : insnS p f pc ≠ 0) : codeS p f (d + 1) pc = ((pc : Int), insnS p f pc) := by
 rw [codeS, if_neg h]
theorem kindS_in {sites : List S48} {s : Int} (h : kindS sites s = 2) : 0 ≤ s ∧ s < (sites.length : Int) := by
 unfold kindS at h
 split at h
 ·omega
 ·omega
set_option maxRecDepth 100000 in
set_option maxHeartbeats 8000000 in
theorem fn_c (p : PV) (n : Int) (w : World) (h : RdP w p) (hg : Tab w) (h0 : 0 ≤ n) (h1 : n < (p.fns.length : Int)) (hwf : WfF (rd_T36 p.fns n)) :
  Calls Tryd.prog 13 #[.agg #[.slice p.A0 p.sites.length p.c0, .slice p.A1 p.fns.length p.c1, .int .i64 p.main], .int .i64 n] w
   fun e w' => e = .returned (.tuple #[.int .i64 (fnS p n).1, .int .i64 (fnS p n).2]) ∧ Below w.heap.size w w' := by
 have HP := Aside0.mk h
 have HG := Aside0.mk hg
 have HWF := Aside0.mk hwf
 clear hg hwf
 obtain ⟨ad, A3, c3, A4, c4, hA, z0, z1, z2, z3, z4, hl3, hC3, hl4, hC4⟩ := at_T36 h.fns n h0 h1
 clear h
 have HS : Aside0 (fnS p n = (if badSize (rd_T36 p.fns n) = true then (0, 5) else if (rd_T36 p.fns n).f3.all (localOk p n) = true then codeS p (rd_T36 p.fns n) (rd_T36 p.fns n).f4.length 0 else (0, 8))) := Aside0.mk rfl
 generalize rd_T36 p.fns n = f at HWF HS z0 z1 z2 z3 z4 hl3 hC3 hl4 hC4
 have HC3 := Aside0.mk hC3
 have HC4 := Aside0.mk hC4
 clear hC3 hC4 hl3 hl4
 have HKc : Aside0 (∀ (W2 : World) (s : Int), Below w.heap.size w W2 → Calls Tryd.prog 18 #[.agg #[.slice p.A0 p.sites.length p.c0, .slice p.A1 p.fns.length p.c1, .int .i64 p.main], .int .i64 s] W2 fun e w' => e = .returned (.int .i64 (kindS p.sites s)) ∧ Below W2.heap.size W2 w') := Aside0.mk (fun W2 s hb => kind_c (HP.out.below hb) s)
 have HIc : Aside0 (∀ (W2 : World) (pc : Int), Below w.heap.size w W2 → 0 ≤ pc → pc < (f.f4.length : Int) → Calls Tryd.prog 19 #[.agg #[.slice p.A0 p.sites.length p.c0, .slice p.A1 p.fns.length p.c1, .int .i64 p.main], .agg #[.string f.f0, .int .i64 f.f1, .int .i64 f.f2, .slice A3 f.f3.length c3, .slice A4 f.f4.length c4], .int .i64 pc] W2 fun e w' => e = .returned (.int .i64 (insnS p f pc)) ∧ Below W2.heap.size W2 w') :=
  Aside0.mk (fun W2 pc hb hp0 hp1 => insn_c p f A3 A4 c3 c4 pc W2 (HP.out.below hb) (HG.out.below hb) (Kd.C_below HC4.out hb) hp0 hp1 (by
   obtain ⟨k, rfl⟩ : ∃ k : Nat, pc = (k : Int) := ⟨pc.toNat, by omega⟩
   rw [rd39_mem _ _ (by omega)]
   exact HWF.out.2 _ (List.getElem_mem _)))
 rw [hA] at HKc HIc ⊢
 go_enter Tryd.func13, Tryd.ntmps13
 go_upto_region 1 with (fail)
 have HX := Aside0.mk (blk_new w (.cells #[.slice p.A0 p.sites.length p.c0, .slice (some ad) p.fns.length p.c1, .int .i64 p.main] 25))
 have HB := Aside0.mk (below_alloc (Below.refl w.heap.size w) (.cells #[.slice p.A0 p.sites.length p.c0, .slice (some ad) p.fns.length p.c1, .int .i64 p.main] 25))
 have hbb := below_alloc (Below.refl w.heap.size w) (.cells #[.slice p.A0 p.sites.length p.c0, .slice (some ad) p.fns.length p.c1, .int .i64 p.main] 25)
 replace z0 := pw_cell_below hbb z0
 replace z1 := pw_cell_below hbb z1
 replace z2 := pw_cell_below hbb z2
 replace z3 := pw_cell_below hbb z3
 replace z4 := pw_cell_below hbb z4
 clear hbb
 obtain ⟨x0, x1, x2⟩ := cell3 HX.out
 generalize w.alloc (.cells #[.slice p.A0 p.sites.length p.c0, .slice (some ad) p.fns.length p.c1, .int .i64 p.main] 25) = W at HX HB z0 z1 z2 z3 z4 x0 x1 x2 ⊢
 go_upto_region 2 with (fail)
 clear x0 x1 x2 z0 z1 z2 z3 z4
 have HY := Aside0.mk (blk_new W (.cells #[.string f.f0, .int .i64 f.f1, .int .i64 f.f2, .slice A3 f.f3.length c3, .slice A4 f.f4.length c4] 36))
 replace HX := Aside0.mk (blk_alloc HX.out (.cells #[.string f.f0, .int .i64 f.f1, .int .i64 f.f2, .slice A3 f.f3.length c3, .slice A4 f.f4.length c4] 36))
 replace HB := Aside0.mk (below_alloc HB.out (.cells #[.string f.f0, .int .i64 f.f1, .int .i64 f.f2, .slice A3 f.f3.length c3, .slice A4 f.f4.length c4] 36))
 generalize W.alloc (.cells #[.string f.f0, .int .i64 f.f1, .int .i64 f.f2, .slice A3 f.f3.length c3, .slice A4 f.f4.length c4] 36) = V at HX HY HB ⊢
 generalize W.heap.size = gy at HY ⊢
 generalize hgx : w.heap.size = gx at HX ⊢
 obtain ⟨x0, x1, x2⟩ := cell3 HX.out
 obtain ⟨y0, y1, y2, y3, y4⟩ := cell5 HY.out
 by_cases b1 : (4000 : Int) < (f.f4.length : Int)
 ·have d1 := decide_eq_true b1
  replace HS := Aside0.mk (HS.out.trans (if_pos ((badSize_iff f).2 (by omega))))
  go_wp2_with fail
  exact bodyPost_ret (v := .tuple #[.int .i64 0, .int .i64 5]) (by simp [results, Tryd.results13, go_sem]) rfl ⟨by rw [HS.out], hgx ▸ HB.out⟩
 have d1 := decide_eq_false b1
 by_cases b2 : ((f.f4.length : Int) == 0) = true
 ·have b2' := eq_of_beq b2
  replace HS := Aside0.mk (HS.out.trans (if_pos ((badSize_iff f).2 (by omega))))
  go_wp2_with fail
  exact bodyPost_ret (v := .tuple #[.int .i64 0, .int .i64 5]) (by simp [results, Tryd.results13, go_sem]) rfl ⟨by rw [HS.out], hgx ▸ HB.out⟩
 replace b2 : ((f.f4.length : Int) == 0) = false := by simpa using b2
 have b2n : f.f4.length ≠ 0 := by intro h; rw [h] at b2; simp at b2
 by_cases b3 : (4000 : Int) < f.f1
 ·have d3 := decide_eq_true b3
  replace HS := Aside0.mk (HS.out.trans (if_pos ((badSize_iff f).2 (by omega))))
  go_wp2_with fail
  exact bodyPost_ret (v := .tuple #[.int .i64 0, .int .i64 5]) (by simp [results, Tryd.results13, go_sem]) rfl ⟨by rw [HS.out], hgx ▸ HB.out⟩
 have d3 := decide_eq_false b3
 by_cases b4 : f.f1 < f.f2
 ·have d4 := decide_eq_true b4
  replace HS := Aside0.mk (HS.out.trans (if_pos ((badSize_iff f).2 (by omega))))
  go_wp2_with fail
  exact bodyPost_ret (v := .tuple #[.int .i64 0, .int .i64 5]) (by simp [results, Tryd.results13, go_sem]) rfl ⟨by rw [HS.out], hgx ▸ HB.out⟩
 have d4 := decide_eq_false b4
 by_cases b5 : f.f2 < 0
 ·have d5 := decide_eq_true b5
  replace HS := Aside0.mk (HS.out.trans (if_pos ((badSize_iff f).2 (by omega))))
  go_wp2_with fail
  exact bodyPost_ret (v := .tuple #[.int .i64 0, .int .i64 5]) (by simp [results, Tryd.results13, go_sem]) rfl ⟨by rw [HS.out], hgx ▸ HB.out⟩
 have d5 := decide_eq_false b5
 replace HS := Aside0.mk (HS.out.trans (if_neg (by rw [(badSize_not f).2 (by omega)]; simp)))
 go_upto_region 4 with (fail)
 clear d1 d3 d4 d5 b2
 have HLEN : Aside0 (f.f4.length ≤ 4000 ∧ f.f4.length ≠ 0) := Aside0.mk (by omega)
 clear b1 b2n b3 b4 b5
 have HR := Aside0.mk (Below.refl V.heap.size V)
 go_upto_block 0 with (fail)
 clear x0 x1 x2 y0 y1 y2 y3 y4
 go_wp2_with fail
 go_loopw [46] (fun iv wx => ∃ (j : Nat), j ≤ f.f3.length ∧ iv = .int .i64 (j : Int) ∧ Hid (f.f3.all (localOk p n) = (f.f3.drop j).all (localOk p n)) ∧ Hid (Below V.heap.size V wx)) (fun iv _ => f.f3.length - (intOf iv).toNat)
 case atStart => exact ⟨0, Nat.zero_le _, rfl, rfl, Below.refl _ _⟩
 case round =>
  obtain ⟨j, hj, rfl, hpj, hb⟩ := hrel
  have HJ := Aside0.mk (show f.f3.all (localOk p n) = (f.f3.drop j).all (localOk p n) from hpj)
  replace HR : Aside0 (Below V.heap.size V wr) := Aside0.mk hb
  clear hpj hb
  obtain ⟨x0, x1, x2⟩ := cell3 (blk_below HX.out HR.out)
  obtain ⟨y0, y1, y2, y3, y4⟩ := cell5 (blk_below HY.out HR.out)
  by_cases hlt : (j : Int) < (f.f3.length : Int)
  ·have hj1 : j < f.f3.length := by omega
   obtain ⟨a3, hA3, q0⟩ := Kd.at_int (Kd.C_below (Kd.C_below HC3.out HB.out) HR.out) (j : Int) (Int.natCast_nonneg j) hlt
   have HJ2 : Aside0 ((f.f3.drop j).all (localOk p n) = (localOk p n (rd f.f3 (j : Int)) && (f.f3.drop (j + 1)).all (localOk p n))) := Aside0.mk (by rw [List.drop_eq_getElem_cons hj1, List.all_cons, rd_at _ _ hj1])
   generalize rd f.f3 (j : Int) = x at q0 HJ2
   rw [Int.toNat_natCast] at q0
   have hwi : IntKind.i64.wrap ((j : Int) + 1) = (j : Int) + 1 := by have := HWF.out.1; rw [IntKind.wrap_i64]; omega
   subst hA3
   go_wp2_with fail
   refine (HKc.out _ x (below_step HB.out HR.out)).mono ?_
   rintro e w1 ⟨rfl, hk⟩
   replace HR := Aside0.mk (below_step HR.out hk)
   clear q0 hk
   clear x0 x1 x2 y0 y1 y2 y3 y4
   obtain ⟨x0, x1, x2⟩ := cell3 (blk_below HX.out HR.out)
   obtain ⟨y0, y1, y2, y3, y4⟩ := cell5 (blk_below HY.out HR.out)
   cases e2 : (kindS p.sites x != 2) with
   | true =>
    have hno : f.f3.all (localOk p n) = false := by rw [HJ.out, HJ2.out]; simp only [localOk]; rw [show (kindS p.sites x == 2) = false by simpa using e2]; rfl
    clear hwi
    go_wp2_with fail
    exact bodyPost_ret (v := .tuple #[.int .i64 0, .int .i64 8]) (by simp [results, Tryd.results13, go_sem]) rfl ⟨by rw [HS.out, hno]; first | done | rfl, hgx ▸ below_step HB.out HR.out⟩
   | false =>
    have hk2 : kindS p.sites x = 2 := by simpa using e2
    have hin := kindS_in hk2
    obtain ⟨a8, A8, c8, hA0, q0, q1, q2, q3, q4, q5, q6, q7, _, _⟩ := at_T48 (Kd.C_below HP.out.sites (below_step HB.out HR.out)) x hin.1 hin.2
    have hin1 := hin.1
    have hin2 := hin.2
    rw [hA0] at x0
    clear hin q0 q1 q3 q4 q5 q6 q7 hk2 hA0
    cases e3 : ((rd_T48 p.sites x).f2 != n) with
    | true =>
     have hno : f.f3.all (localOk p n) = false := by rw [HJ.out, HJ2.out]; simp only [localOk]; rw [show ((rd_T48 p.sites x).f2 == n) = false by simpa using e3, Bool.and_false]; rfl
     clear hwi
     go_wp2_with fail
     exact bodyPost_ret (v := .tuple #[.int .i64 0, .int .i64 8]) (by simp [results, Tryd.results13, go_sem]) rfl ⟨by rw [HS.out, hno]; first | done | rfl, hgx ▸ below_step HB.out HR.out⟩
    | false =>
     have hyes : localOk p n x = true := by simp only [localOk]; rw [show (kindS p.sites x == 2) = true by simpa using e2, show ((rd_T48 p.sites x).f2 == n) = true by simpa using e3]; rfl
     have HY2 := Aside0.mk (HJ.out.trans (HJ2.out.trans (by rw [hyes, Bool.true_and])))
     clear hyes
     go_wp2_with fail
     go_roundw
     case rel => exact ⟨j + 1, by omega, by go_num, HY2.out, HR.out⟩
     case measure => simp [intOf]; omega
  ·have hall : f.f3.all (localOk p n) = true := by rw [HJ.out, List.drop_eq_nil_of_le (by omega)]; rfl
   rw [hall] at HS
   replace HS := Aside0.mk (HS.out.trans (if_pos rfl))
   clear hall HJ
   go_upto_block 2 with (fail)
   clear x0 x1 x2 y0 y1 y2 y3 y4
   go_wp2_with fail
   go_loopw [68] (fun iv wx => ∃ (j : Nat), j ≤ f.f4.length ∧ iv = .int .i64 (j : Int) ∧ Hid (codeS p f f.f4.length 0 = codeS p f (f.f4.length - j) j) ∧ Hid (Below V.heap.size V wx)) (fun iv _ => f.f4.length - (intOf iv).toNat)
   case atStart => exact ⟨0, Nat.zero_le _, rfl, rfl, HR.out⟩
   case round =>
    clear hlt hj
    obtain ⟨pc, hj, rfl, hpj, hb⟩ := hrel
    have HJ := Aside0.mk (show codeS p f f.f4.length 0 = codeS p f (f.f4.length - pc) pc from hpj)
    replace HR : Aside0 (Below V.heap.size V wr) := Aside0.mk hb
    clear hpj hb
    obtain ⟨x0, x1, x2⟩ := cell3 (blk_below HX.out HR.out)
    obtain ⟨y0, y1, y2, y3, y4⟩ := cell5 (blk_below HY.out HR.out)
    by_cases hlt : (pc : Int) < (f.f4.length : Int)
    ·have hj1 : pc < f.f4.length := by omega
     have HD : Aside0 (f.f4.length - pc = f.f4.length - (pc + 1) + 1) := Aside0.mk (by omega)
     have hwi : IntKind.i64.wrap ((pc : Int) + 1) = (pc : Int) + 1 := by have := HLEN.out.1; rw [IntKind.wrap_i64]; omega
     go_wp2_with fail
     refine (HIc.out _ (pc : Int) (below_step HB.out HR.out) (by omega) hlt).mono ?_
     rintro e w1 ⟨rfl, hk⟩
     replace HR := Aside0.mk (below_step HR.out hk)
     clear x0 x1 x2 y0 y1 y2 y3 y4
     clear hk
     cases e2 : (insnS p f (pc : Int) != 0) with
     | true =>
      have hstop : codeS p f f.f4.length 0 = ((pc : Int), insnS p f (pc : Int)) := by rw [HJ.out, HD.out, codeS_stop p f (by simpa using e2)]
      clear hwi
      go_wp2_with fail
      exact bodyPost_ret (v := .tuple #[.int .i64 (pc : Int), .int .i64 (insnS p f (pc : Int))]) (by simp [results, Tryd.results13, go_sem]) rfl ⟨by rw [HS.out, hstop]; first | done | rfl, hgx ▸ below_step HB.out HR.out⟩
     | false =>
      have HN := Aside0.mk (show codeS p f f.f4.length 0 = codeS p f (f.f4.length - (pc + 1)) (pc + 1) by rw [HJ.out, HD.out, codeS_step p f (by simpa using e2)])
      go_wp2_with fail
      go_roundw
      case rel => exact ⟨pc + 1, by omega, by go_num, HN.out, HR.out⟩
      case measure => simp [intOf]; omega
    ·have hend : codeS p f f.f4.length 0 = (0, 0) := by rw [HJ.out, show f.f4.length - pc = 0 by omega]; rfl
     go_wp2_with fail
     exact bodyPost_ret (v := .tuple #[.int .i64 0, .int .i64 0]) (by simp [results, Tryd.results13, go_sem]) rfl ⟨by rw [HS.out, hend]; first | done | rfl, hgx ▸ below_step HB.out HR.out⟩
end Go.Proofs.YtmiacdacebaagaaDoor.G
set_option linter.unusedVariables false
set_option linter.unusedSimpArgs false
namespace Go.Proofs.YtmiacdacebaagaaDoor.G
open Go.RowKit Go.Proofs.YtmiacdacebaagaaDoor.B Go.Proofs.YtmiacdacebaagaaDoorW.PrintWords Go.Proofs.YtmiacdacebaagaaDoorW.PrintLast Go.Proofs.YtmiacdacebaagaaDoorW.PrintMore
set_option maxRecDepth 100000 in
set_option maxHeartbeats 8000000 in
theorem chk_c0 (p : PV) (A0 A1 : Option Addr) (e0 : p.A0 = A0) (e1 : p.A1 = A1) (w : World) (h : RdP w p) (hg : Tab w) (hwf : WfP p) :
  Calls Tryd.prog 7 #[.agg #[.slice A0 p.sites.length p.c0, .slice A1 p.fns.length p.c1, .int .i64 p.main]] w
   fun e w' => e = .returned (.tuple #[.int .i64 (chkS p).1, .int .i64 (chkS p).2.1, .int .i64 (chkS p).2.2]) ∧ Below w.heap.size w w' := by
 have HP := Aside0.mk h
 have HE0 := Aside0.mk e0
 have HFc : Aside0 (∀ (W2 : World) (n : Int), Below w.heap.size w W2 → 0 ≤ n → n < (p.fns.length : Int) → Calls Tryd.prog 13 #[.agg #[.slice A0 p.sites.length p.c0, .slice A1 p.fns.length p.c1, .int .i64 p.main], .int .i64 n] W2 fun e w' => e = .returned (.tuple #[.int .i64 (fnS p n).1, .int .i64 (fnS p n).2]) ∧ Below W2.heap.size W2 w') :=
  Aside0.mk (fun W2 n hb hp0 hp1 => by
   rw [← e0, ← e1]
   refine fn_c p n W2 (h.below hb) (hg.below hb) hp0 hp1 ?_
   obtain ⟨k, rfl⟩ : ∃ k : Nat, n = (k : Int) := ⟨n.toNat, by omega⟩
   rw [rd36_mem _ _ (by omega)]
   exact hwf _ (List.getElem_mem _))
 clear hg hwf h e0 e1
 have HS : Aside0 (chkS p = (if 200 < p.fns.length ∨ 600 < p.sites.length then (0, 0, 5) else if p.main < 0 ∨ (p.fns.length : Int) ≤ p.main ∨ p.sites.length < p.fns.length then (0, 0, 8) else if sitesS p p.sites.length 0 = true then fnsS p p.fns.length 0 else (0, 0, 8))) := Aside0.mk rfl
 go_enter Tryd.func7, Tryd.ntmps7
 go_upto_region 1 with (fail)
 have HX := Aside0.mk (blk_new w (.cells #[.slice A0 p.sites.length p.c0, .slice A1 p.fns.length p.c1, .int .i64 p.main] 25))
 have HB := Aside0.mk (below_alloc (Below.refl w.heap.size w) (.cells #[.slice A0 p.sites.length p.c0, .slice A1 p.fns.length p.c1, .int .i64 p.main] 25))
 generalize w.alloc (.cells #[.slice A0 p.sites.length p.c0, .slice A1 p.fns.length p.c1, .int .i64 p.main] 25) = V at HX HB ⊢
 generalize hgx : w.heap.size = gx at HX ⊢
 obtain ⟨x0, x1, x2⟩ := cell3 HX.out
 by_cases b0 : (200 : Int) < (p.fns.length : Int)
 ·have d0 := decide_eq_true b0
  replace HS := Aside0.mk (HS.out.trans (if_pos (by omega)))
  go_wp2_with fail
  exact bodyPost_ret (v := .tuple #[.int .i64 0, .int .i64 0, .int .i64 5]) (by simp [results, Tryd.results7, go_sem]) rfl ⟨by rw [HS.out], hgx ▸ HB.out⟩
 have d0 := decide_eq_false b0
 by_cases b1 : (600 : Int) < (p.sites.length : Int)
 ·have d1 := decide_eq_true b1
  replace HS := Aside0.mk (HS.out.trans (if_pos (by omega)))
  go_wp2_with fail
  exact bodyPost_ret (v := .tuple #[.int .i64 0, .int .i64 0, .int .i64 5]) (by simp [results, Tryd.results7, go_sem]) rfl ⟨by rw [HS.out], hgx ▸ HB.out⟩
 have d1 := decide_eq_false b1
 replace HS := Aside0.mk (HS.out.trans (if_neg (by omega)))
 by_cases b2 : p.main < 0
 ·have d2 := decide_eq_true b2
  replace HS := Aside0.mk (HS.out.trans (if_pos (by omega)))
  go_wp2_with fail
  exact bodyPost_ret (v := .tuple #[.int .i64 0, .int .i64 0, .int .i64 8]) (by simp [results, Tryd.results7, go_sem]) rfl ⟨by rw [HS.out], hgx ▸ HB.out⟩
 have d2 := decide_eq_false b2
 by_cases b3 : (p.fns.length : Int) ≤ p.main
 ·have d3 := decide_eq_true b3
  replace HS := Aside0.mk (HS.out.trans (if_pos (by omega)))
  go_wp2_with fail
  exact bodyPost_ret (v := .tuple #[.int .i64 0, .int .i64 0, .int .i64 8]) (by simp [results, Tryd.results7, go_sem]) rfl ⟨by rw [HS.out], hgx ▸ HB.out⟩
 have d3 := decide_eq_false b3
 by_cases b4 : (p.sites.length : Int) < (p.fns.length : Int)
 ·have d4 := decide_eq_true b4
  replace HS := Aside0.mk (HS.out.trans (if_pos (by omega)))
  go_wp2_with fail
  exact bodyPost_ret (v := .tuple #[.int .i64 0, .int .i64 0, .int .i64 8]) (by simp [results, Tryd.results7, go_sem]) rfl ⟨by rw [HS.out], hgx ▸ HB.out⟩
 have d4 := decide_eq_false b4
 replace HS := Aside0.mk (HS.out.trans (if_neg (by omega)))
 go_upto_block 0 with (fail)
 have HL : Aside0 (p.fns.length ≤ 200 ∧ p.sites.length ≤ 600) := Aside0.mk (by omega)
 clear b0 b1 b2 b3 b4 d0 d1 d2 d3 d4 x0 x1 x2
 go_wp2_with fail
 go_loopw [43] (fun iv wx => ∃ (j : Nat), j ≤ p.sites.length ∧ iv = .int .i64 (j : Int) ∧ Hid (sitesS p p.sites.length 0 = sitesS p (p.sites.length - j) j) ∧ Hid (Below V.heap.size V wx)) (fun iv _ => p.sites.length - (intOf iv).toNat)
 case atStart => exact ⟨0, Nat.zero_le _, rfl, rfl, Below.refl _ _⟩
 case round =>
  obtain ⟨j, hj, rfl, hpj, hb⟩ := hrel
  have HJ := Aside0.mk (show sitesS p p.sites.length 0 = sitesS p (p.sites.length - j) j from hpj)
  have HR : Aside0 (Below V.heap.size V wr) := Aside0.mk hb
  clear hpj hb
  by_cases hlt : (j : Int) < (p.sites.length : Int)
  ·have HD : Aside0 (p.sites.length - j = p.sites.length - (j + 1) + 1) := Aside0.mk (by omega)
   have hwi : IntKind.i64.wrap ((j : Int) + 1) = (j : Int) + 1 := by have := HL.out.2; rw [IntKind.wrap_i64]; omega
   obtain ⟨a8, A8, c8, hA0, q0, q1, q2, q3, q4, q5, q6, q7, _, _⟩ := at_T48 (Kd.C_below HP.out.sites (below_step HB.out HR.out)) (j : Int) (Int.natCast_nonneg j) hlt
   rw [Int.toNat_natCast] at q0 q1 q2 q3 q4 q5 q6 q7
   obtain rfl : A0 = some a8 := HE0.out.symm.trans hA0
   clear hA0
   go_upto_region 8 with (fail)
   clear q0 q1 q2 q3 q4 q5 q6 q7
   have HZ := Aside0.mk (blk_new wr (.cells #[.int .i64 (rd_T48 p.sites (j : Int)).f0, .int .i64 (rd_T48 p.sites (j : Int)).f1, .int .i64 (rd_T48 p.sites (j : Int)).f2, .string (rd_T48 p.sites (j : Int)).f3, .int .i64 (rd_T48 p.sites (j : Int)).f4.f0, .int .i64 (rd_T48 p.sites (j : Int)).f4.f1, .string (rd_T48 p.sites (j : Int)).f4.f2, .slice A8 (rd_T48 p.sites (j : Int)).f4.f3.length c8] 48))
   replace HR := Aside0.mk (below_alloc HR.out (.cells #[.int .i64 (rd_T48 p.sites (j : Int)).f0, .int .i64 (rd_T48 p.sites (j : Int)).f1, .int .i64 (rd_T48 p.sites (j : Int)).f2, .string (rd_T48 p.sites (j : Int)).f3, .int .i64 (rd_T48 p.sites (j : Int)).f4.f0, .int .i64 (rd_T48 p.sites (j : Int)).f4.f1, .string (rd_T48 p.sites (j : Int)).f4.f2, .slice A8 (rd_T48 p.sites (j : Int)).f4.f3.length c8] 48))
   generalize wr.alloc (.cells #[.int .i64 (rd_T48 p.sites (j : Int)).f0, .int .i64 (rd_T48 p.sites (j : Int)).f1, .int .i64 (rd_T48 p.sites (j : Int)).f2, .string (rd_T48 p.sites (j : Int)).f3, .int .i64 (rd_T48 p.sites (j : Int)).f4.f0, .int .i64 (rd_T48 p.sites (j : Int)).f4.f1, .string (rd_T48 p.sites (j : Int)).f4.f2, .slice A8 (rd_T48 p.sites (j : Int)).f4.f3.length c8] 48) = w1 at HZ HR ⊢
   generalize wr.heap.size = gz at HZ ⊢
   obtain ⟨x0, x1, x2⟩ := cell3 (blk_below HX.out HR.out)
   obtain ⟨z0, z1, z2, z3, z4, z5, z6, z7⟩ := cell8 HZ.out
   cases e1 : ((rd_T48 p.sites (j : Int)).f0 == 4) with
   | true =>
    by_cases hn : j < p.fns.length
    ·have dn := decide_eq_true hn
     have e3 : decide ((j : Int) < (p.fns.length : Int)) = true := decide_eq_true (by omega)
     have HN := Aside0.mk (show sitesS p p.sites.length 0 = sitesS p (p.sites.length - (j + 1)) (j + 1) by rw [HJ.out, HD.out, sitesS, if_pos (by rw [e1, e3])])
     clear e3
     go_wp2_with fail
     go_roundw
     case rel => exact ⟨j + 1, by omega, by go_num, HN.out, HR.out⟩
     case measure => simp [intOf]; omega
    ·have dn := decide_eq_false hn
     have e3 : decide ((j : Int) < (p.fns.length : Int)) = false := decide_eq_false (by omega)
     have hno : sitesS p p.sites.length 0 = false := by rw [HJ.out, HD.out, sitesS, if_neg (by rw [e1, e3]; simp)]
     clear e3
     clear hwi
     go_wp2_with fail
     exact bodyPost_ret (v := .tuple #[.int .i64 0, .int .i64 0, .int .i64 8]) (by simp [results, Tryd.results7, go_sem]) rfl ⟨by rw [HS.out, hno]; first | done | rfl, hgx ▸ below_step HB.out HR.out⟩
   | false =>
    by_cases hn : j < p.fns.length
    ·have dn := decide_eq_true hn
     have e3 : decide ((j : Int) < (p.fns.length : Int)) = true := decide_eq_true (by omega)
     have hno : sitesS p p.sites.length 0 = false := by rw [HJ.out, HD.out, sitesS, if_neg (by rw [e1, e3]; simp)]
     clear e3
     clear hwi
     go_wp2_with fail
     exact bodyPost_ret (v := .tuple #[.int .i64 0, .int .i64 0, .int .i64 8]) (by simp [results, Tryd.results7, go_sem]) rfl ⟨by rw [HS.out, hno]; first | done | rfl, hgx ▸ below_step HB.out HR.out⟩
    ·have dn := decide_eq_false hn
     have e3 : decide ((j : Int) < (p.fns.length : Int)) = false := decide_eq_false (by omega)
     have HN := Aside0.mk (show sitesS p p.sites.length 0 = sitesS p (p.sites.length - (j + 1)) (j + 1) by rw [HJ.out, HD.out, sitesS, if_pos (by rw [e1, e3])])
     clear e3
     go_wp2_with fail
     go_roundw
     case rel => exact ⟨j + 1, by omega, by go_num, HN.out, HR.out⟩
     case measure => simp [intOf]; omega
  ·have hall : sitesS p p.sites.length 0 = true := by rw [HJ.out, show p.sites.length - j = 0 by omega]; rfl
   rw [hall] at HS
   replace HS := Aside0.mk (HS.out.trans (if_pos rfl))
   clear hall HJ
   obtain ⟨x0, x1, x2⟩ := cell3 (blk_below HX.out HR.out)
   go_upto_block 2 with (fail)
   clear x0 x1 x2
   go_wp2_with fail
   go_loopw [61] (fun iv wx => ∃ (j : Nat), j ≤ p.fns.length ∧ iv = .int .i64 (j : Int) ∧ Hid (fnsS p p.fns.length 0 = fnsS p (p.fns.length - j) j) ∧ Hid (Below V.heap.size V wx)) (fun iv _ => p.fns.length - (intOf iv).toNat)
   case atStart => exact ⟨0, Nat.zero_le _, rfl, rfl, HR.out⟩
   case round =>
    clear hlt hj
    obtain ⟨n, hj, rfl, hpj, hb⟩ := hrel
    have HJ := Aside0.mk (show fnsS p p.fns.length 0 = fnsS p (p.fns.length - n) n from hpj)
    replace HR : Aside0 (Below V.heap.size V wr) := Aside0.mk hb
    clear hpj hb
    by_cases hlt : (n : Int) < (p.fns.length : Int)
    ·have HD : Aside0 (p.fns.length - n = p.fns.length - (n + 1) + 1) := Aside0.mk (by omega)
     have hwi : IntKind.i64.wrap ((n : Int) + 1) = (n : Int) + 1 := by have := HL.out.1; rw [IntKind.wrap_i64]; omega
     obtain ⟨x0, x1, x2⟩ := cell3 (blk_below HX.out HR.out)
     go_wp2_with fail
     refine (HFc.out _ (n : Int) (below_step HB.out HR.out) (by omega) hlt).mono ?_
     rintro e w1 ⟨rfl, hk⟩
     replace HR := Aside0.mk (below_step HR.out hk)
     clear hk x0 x1 x2
     cases e2 : ((fnS p (n : Int)).2 != 0) with
     | true =>
      have hstop : fnsS p p.fns.length 0 = ((n : Int), (fnS p (n : Int)).1, (fnS p (n : Int)).2) := by rw [HJ.out, HD.out, fnsS, if_neg (by simpa using e2)]
      clear hwi
      go_wp2_with fail
      exact bodyPost_ret (v := .tuple #[.int .i64 (n : Int), .int .i64 (fnS p (n : Int)).1, .int .i64 (fnS p (n : Int)).2]) (by simp [results, Tryd.results7, go_sem]) rfl ⟨by rw [HS.out, hstop]; first | done | rfl, hgx ▸ below_step HB.out HR.out⟩
     | false =>
      have HN := Aside0.mk (show fnsS p p.fns.length 0 = fnsS p (p.fns.length - (n + 1)) (n + 1) by rw [HJ.out, HD.out, fnsS, if_pos (by simpa using e2)])
      go_wp2_with fail
      go_roundw
      case rel => exact ⟨n + 1, by omega, by go_num, HN.out, HR.out⟩
      case measure => simp [intOf]; omega
    ·have hend : fnsS p p.fns.length 0 = (0, 0, 0) := by rw [HJ.out, show p.fns.length - n = 0 by omega]; rfl
     go_wp2_with fail
     exact bodyPost_ret (v := .tuple #[.int .i64 0, .int .i64 0, .int .i64 0]) (by simp [results, Tryd.results7, go_sem]) rfl ⟨by rw [HS.out, hend]; first | done | rfl, hgx ▸ below_step HB.out HR.out⟩
theorem chk_c (p : PV) (w : World) (h : RdP w p) (hg : Tab w) (hwf : WfP p) :
  Calls Tryd.prog 7 #[.agg #[.slice p.A0 p.sites.length p.c0, .slice p.A1 p.fns.length p.c1, .int .i64 p.main]] w
   fun e w' => e = .returned (.tuple #[.int .i64 (chkS p).1, .int .i64 (chkS p).2.1, .int .i64 (chkS p).2.2]) ∧ Below w.heap.size w w' := chk_c0 p p.A0 p.A1 rfl rfl w h hg hwf
theorem chkr_c (p : PV) (w : World) (h : RdP w p) (hwf : WfP p) :
  Calls Tryd.prog 8 #[.agg #[.slice p.A0 p.sites.length p.c0, .slice p.A1 p.fns.length p.c1, .int .i64 p.main]] w
   fun e w' => e = .returned (.tuple #[.int .i64 (chkS p).1, .int .i64 (chkS p).2.1, .int .i64 (chkS p).2.2]) ∧ Below w.heap.size w w' := by
 obtain ⟨k, hk⟩ := refChk_ok p hwf
 exact crosstreeref08_Check.calls k p.A0 p.c0 p.sites p.A1 p.c1 p.fns p.main _ _ _ w h.sites h.sc h.fns h.fc hk
end Go.Proofs.YtmiacdacebaagaaDoor.G
namespace Go.Proofs.YtmiacdacebaagaaDoor.B
open Go.RowKit Go.Proofs.YtmiacdacebaagaaDoorW.PrintWords Go.Proofs.YtmiacdacebaagaaDoorW.PrintLast Go.Proofs.YtmiacdacebaagaaDoorW.PrintMore
structure Opens {α : Type} (P : Program) (n : Nat) (t : TypeId) (d : Kd α) (wf : α → Prop) : Prop where
  out : ∀ {H : Type} (enc : TypeId × Value → H) (w : World) (base : Nat) (spare : Nat → Bool) (held : Bool) (fuel : Nat) (cs : List Value) (x : DataW H × List MemPlace),
    fuel ≤ n → DataW.trod enc P w base spare held fuel t cs = some x → ∃ a, d.K w a cs ∧ wf a
section
variable {α β : Type} {P : Program} {n m : Nat} {t e : TypeId} {d : Kd α} {d' : Kd β} {wf wf' : α → Prop} {wfb : β → Prop}
theorem Opens.le (h : Opens P n t d wf) (hm : m ≤ n) : Opens P m t d wf :=
  ⟨fun enc w base spare held fuel cs x hf ht => h.out enc w base spare held fuel cs x (Nat.le_trans hf hm) ht⟩
theorem Opens.imp (h : Opens P n t d wf) (hi : ∀ a, wf a → wf' a) : Opens P n t d wf' :=
  ⟨fun enc w base spare held fuel cs x hf ht => let ⟨a, h1, h2⟩ := h.out enc w base spare held fuel cs x hf ht; ⟨a, h1, hi a h2⟩⟩
theorem Opens.int {k : IntKind} (hu : P.underlying t = some (.int k)) (n : Nat) : Opens P n t (Kd.int k) (fun x => (Lit.int k x).wf = true) := by
  constructor
  intro H enc w base spare held fuel cs x _ h
  obtain ⟨z, rfl, _, hz⟩ := DataW.trod_int hu h
  exact ⟨z, rfl, hz⟩
theorem Opens.string (hu : P.underlying t = some .string) (n : Nat) : Opens P n t Kd.string (fun s => s.size ≤ maxLen) := by
  constructor
  intro H enc w base spare held fuel cs x _ h
  obtain ⟨z, rfl, _, hz⟩ := DataW.trod_string hu h
  exact ⟨z, rfl, hz⟩
theorem add_add (a : Addr) (i j : Nat) : (a.add i).add j = a.add (i + j) := by
  unfold Addr.add
  by_cases hj : j = 0
  · simp [hj]
  · by_cases hi : i = 0
    · simp [hi]
    · simp [hi, hj, Nat.add_assoc]
theorem list_of {p : Nat → α → Prop} : ∀ n, (∀ i, i < n → ∃ a, p i a) → ∃ l : List α, l.length = n ∧ ∀ i a, l[i]? = some a → p i a
  | 0, _ => ⟨[], rfl, fun i a h => by simp at h⟩
  | n + 1, h => by
    obtain ⟨l, hl, hp⟩ := list_of n (fun i hi => h i (by omega))
    obtain ⟨a, ha⟩ := h n (by omega)
    refine ⟨l ++ [a], by simp [hl], fun i b hb => ?_⟩
    rcases Nat.lt_or_ge i n with hi | hi
    · rw [List.getElem?_append_left (by omega)] at hb
      exact hp i b hb
    · have : i = n := by
        have := (List.getElem?_eq_some_iff.1 hb).1
        simp [hl] at this
        omega
      subst this
      have hb' : a = b := by simpa [← hl] using hb
      rw [← hb']
      exact ha
theorem Opens.slice (hu : P.underlying t = some (.slice e)) (hsz : P.cellsOf e = d.sz) (h : Opens P n e d wf) : Opens P (n + 1) t (Kd.slice e d) (fun l => ∀ x ∈ l, wf x) := by
  constructor
  intro H enc w base spare held fuel cs x hf ht
  rcases DataW.trod_slice hu ht with ⟨rfl, _⟩ | ⟨a, len, cap, elems, rest, m, rfl, rfl, _, hb, hl, hm, hlen, hel, _⟩
  · exact ⟨[], ⟨none, 0, rfl, Nat.le_refl _, Kd.C_nil d w⟩, by simp⟩
  · have h1 : ∀ i, i < len → ∃ a' : α, wf a' ∧ ∃ c : List Value, c.length = d.sz ∧ d.K w a' c ∧ ∀ j u, c[j]? = some u → w.cell? (a.add (i * d.sz + j)) = some u := by
      intro i hi
      have he := hel i hi
      rw [List.getElem?_eq_getElem (by omega)] at he
      obtain ⟨c, hc, ht2⟩ := Option.bind_eq_some_iff.1 he
      obtain ⟨a', hK, hw⟩ := h.out enc w base spare held m c _ (by omega) ht2
      rw [hsz] at hc
      obtain ⟨_, hcl, hcc⟩ := World.cells?_some hc
      refine ⟨a', hw, c, hcl, hK, fun j u hj => ?_⟩
      have hjl : j < d.sz := by
        have := (List.getElem?_eq_some_iff.1 hj).1
        omega
      have := hcc j hjl
      rw [add_add] at this
      rw [this, hj]
    obtain ⟨l, hll, hp⟩ := list_of (p := fun i a' => wf a' ∧ ∃ c : List Value, c.length = d.sz ∧ d.K w a' c ∧ ∀ j u, c[j]? = some u → w.cell? (a.add (i * d.sz + j)) = some u) len h1
    refine ⟨l, ⟨some a, cap, by rw [hll], by omega, ⟨rfl, by rw [hll]; unfold maxLen at hm; omega, fun _ => ⟨a, rfl, fun j p hj => ?_⟩⟩⟩, fun x hx => ?_⟩
    · obtain ⟨_, c, h2, h3, h4⟩ := hp j p hj
      exact ⟨c, h2, h3, h4⟩
    · obtain ⟨i, hi⟩ := List.getElem?_of_mem hx
      exact (hp i x hi).1
structure OpensF {α : Type} (P : Program) (n : Nat) (fs : List Field) (o : Nat) (d : Kd α) (wf : α → Prop) : Prop where
  out : ∀ {H : Type} (enc : TypeId × Value → H) (w : World) (base : Nat) (spare : Nat → Bool) (held : Bool) (fuel : Nat) (cs : List Value) (xs : List (DataW H × List MemPlace)),
    fuel ≤ n → (fs.mapM fun f => DataW.trod enc P w base spare held fuel f.type ((cs.drop f.offset).take (P.cellsOf f.type))) = some xs → ∃ a, d.K w a ((cs.drop o).take d.sz) ∧ wf a
theorem OpensF.one {f : Field} (hs : P.cellsOf f.type = d.sz) (h : Opens P n f.type d wf) : OpensF P n [f] f.offset d wf := by
  constructor
  intro H enc w base spare held fuel cs xs hf ht
  cases h1 : DataW.trod enc P w base spare held fuel f.type ((cs.drop f.offset).take (P.cellsOf f.type)) with
  | none => simp [h1] at ht
  | some y =>
    rw [hs] at h1
    exact h.out enc w base spare held fuel _ y hf h1
theorem OpensF.cons {f : Field} {fs : List Field} (hs : P.cellsOf f.type = d.sz) (h : Opens P n f.type d wf) (hr : OpensF P n fs (f.offset + d.sz) d' wfb) : OpensF P n (f :: fs) f.offset (Kd.pair d d') (fun x => wf x.1 ∧ wfb x.2) := by
  constructor
  intro H enc w base spare held fuel cs xs hf ht
  rw [List.mapM_cons] at ht
  cases h1 : DataW.trod enc P w base spare held fuel f.type ((cs.drop f.offset).take (P.cellsOf f.type)) with
  | none => simp [h1] at ht
  | some y =>
    cases h2 : (fs.mapM fun f => DataW.trod enc P w base spare held fuel f.type ((cs.drop f.offset).take (P.cellsOf f.type))) with
    | none => simp [h1, h2] at ht
    | some ys =>
      rw [hs] at h1
      obtain ⟨a, ha, hw⟩ := h.out enc w base spare held fuel _ y hf h1
      obtain ⟨b, hb, hwb⟩ := hr.out enc w base spare held fuel cs ys hf h2
      refine ⟨(a, b), ⟨_, _, ?_, ha, hb⟩, hw, hwb⟩
      show (cs.drop f.offset).take (d.sz + d'.sz) = _
      rw [List.take_add, List.drop_drop]
theorem Opens.struct {fs : Array Field} {f : β → α} (g : α → β) (hg : ∀ a, f (g a) = a) (hu : P.underlying t = some (.struct fs)) (hs : P.cellsOf t = d.sz) (h : OpensF P n fs.toList 0 d wf) : Opens P (n + 1) t (Kd.iso d f) (fun b => ∃ a, b = g a ∧ wf a) := by
  constructor
  intro H enc w base spare held fuel cs x hf ht
  cases fuel with
  | zero => simp [DataW.trod] at ht
  | succ fuel =>
    have hlen : cs.length = P.cellsOf t := by
      obtain ⟨_, _, _, _, h4, _⟩ := DataW.trod_struct hu ht
      exact h4
    have hm : ∃ xs, (fs.toList.mapM fun f => DataW.trod enc P w base spare held fuel f.type ((cs.drop f.offset).take (P.cellsOf f.type))) = some xs := by
      unfold DataW.trod at ht
      rw [hu] at ht
      simp only [hlen, if_true] at ht
      obtain ⟨xs, hxs, _⟩ := Option.map_eq_some_iff.1 ht
      exact ⟨xs, hxs⟩
    obtain ⟨xs, hxs⟩ := hm
    obtain ⟨a, ha, hw⟩ := h.out enc w base spare held fuel cs xs (by omega) hxs
    refine ⟨g a, ?_, a, rfl, hw⟩
    show d.K w (f (g a)) cs
    rw [hg]
    have : (cs.drop 0).take d.sz = cs := by rw [List.drop_zero, ← hs, ← hlen, List.take_length]
    rw [this] at ha
    exact ha
end
end Go.Proofs.YtmiacdacebaagaaDoor.B
set_option linter.unusedVariables false
namespace Go.Proofs.YtmiacdacebaagaaDoor.B
open Go.RowKit Go.Proofs.YtmiacdacebaagaaDoorW.PrintWords Go.Proofs.YtmiacdacebaagaaDoorW.PrintLast Go.Proofs.YtmiacdacebaagaaDoorW.PrintMore
def Fit {H : Type} (P : Program) (t : TypeId) (x : DataW H) : Prop := ∀ k ∈ x.weights P t, k ≤ reachBytes
structure OpensW {α : Type} (P : Program) (n : Nat) (t : TypeId) (d : Kd α) (wf : α → Prop) : Prop where
  out : ∀ {H : Type} (enc : TypeId × Value → H) (w : World) (base : Nat) (spare : Nat → Bool) (held : Bool) (fuel : Nat) (cs : List Value) (x : DataW H × List MemPlace),
    fuel ≤ n → DataW.trod enc P w base spare held fuel t cs = some x → Fit P t x.1 → ∃ a, d.K w a cs ∧ wf a
section
variable {α β : Type} {P : Program} {n m : Nat} {t e : TypeId} {d : Kd α} {d' : Kd β} {wf wf' : α → Prop} {wfb : β → Prop}
theorem OpensW.of (h : Opens P n t d wf) : OpensW P n t d wf := ⟨fun enc w base spare held fuel cs x hf ht _ => h.out enc w base spare held fuel cs x hf ht⟩
theorem OpensW.imp (h : OpensW P n t d wf) (hi : ∀ a, wf a → wf' a) : OpensW P n t d wf' :=
  ⟨fun enc w base spare held fuel cs x hf ht hs => let ⟨a, h1, h2⟩ := h.out enc w base spare held fuel cs x hf ht hs; ⟨a, h1, hi a h2⟩⟩
theorem weightsAll_mem {H : Type} {P : Program} {e : TypeId} : ∀ {l : List (DataW H)} {d : DataW H}, d ∈ l → ∀ n ∈ d.weights P e, n ∈ DataW.weightsAll P e l
  | [], _, h, _, _ => nomatch h
  | x :: r, d, h, n, hn => by
    simp only [DataW.weightsAll, List.mem_append]
    rcases List.mem_cons.1 h with rfl | h
    · exact .inl hn
    · exact .inr (weightsAll_mem h n hn)
theorem OpensW.slice (hu : P.underlying t = some (.slice e)) (hsz : P.cellsOf e = d.sz) (h : OpensW P n e d wf) : OpensW P (n + 1) t (Kd.slice e d) (fun l => l.length * P.bytesOf e ≤ reachBytes ∧ ∀ x ∈ l, wf x) := by
  constructor
  intro H enc w base spare held fuel cs x hf ht hfit
  rcases DataW.trod_slice hu ht with ⟨rfl, _⟩ | ⟨a, len, cap, elems, rest, m, rfl, rfl, hx, hb, hl, hm, hlen, hel, _⟩
  · exact ⟨[], ⟨none, 0, rfl, Nat.le_refl _, Kd.C_nil d w⟩, by simp⟩
  · subst hx
    have hw0 : ∀ k ∈ (elems.length + rest.length) * P.bytesOf e :: (DataW.weightsAll P e (elems.map (·.1)) ++ DataW.weightsAll P e (rest.map (·.1))), k ≤ reachBytes := by
      intro k hk
      refine hfit k ?_
      simp only [DataW.weights, hu, List.length_map]
      exact hk
    have h1 : ∀ i, i < len → ∃ a' : α, wf a' ∧ ∃ c : List Value, c.length = d.sz ∧ d.K w a' c ∧ ∀ j u, c[j]? = some u → w.cell? (a.add (i * d.sz + j)) = some u := by
      intro i hi
      have he := hel i hi
      rw [List.getElem?_eq_getElem (by omega)] at he
      obtain ⟨c, hc, ht2⟩ := Option.bind_eq_some_iff.1 he
      have hfe : Fit P e (elems[i]'(by omega)).1 := fun k hk => hw0 k (List.mem_cons_of_mem _ (List.mem_append_left _ (weightsAll_mem (List.mem_map_of_mem (List.getElem_mem _)) k hk)))
      obtain ⟨a', hK, hw⟩ := h.out enc w base spare held m c _ (by omega) ht2 hfe
      rw [hsz] at hc
      obtain ⟨_, hcl, hcc⟩ := World.cells?_some hc
      refine ⟨a', hw, c, hcl, hK, fun j u hj => ?_⟩
      have hjl : j < d.sz := by
        have := (List.getElem?_eq_some_iff.1 hj).1
        omega
      have := hcc j hjl
      rw [add_add] at this
      rw [this, hj]
    obtain ⟨l, hll, hp⟩ := list_of (p := fun i a' => wf a' ∧ ∃ c : List Value, c.length = d.sz ∧ d.K w a' c ∧ ∀ j u, c[j]? = some u → w.cell? (a.add (i * d.sz + j)) = some u) len h1
    refine ⟨l, ⟨some a, cap, by rw [hll], by omega, ⟨rfl, by rw [hll]; unfold maxLen at hm; omega, fun _ => ⟨a, rfl, fun j p hj => ?_⟩⟩⟩, ?_, fun x hx => ?_⟩
    · obtain ⟨_, c, h2, h3, h4⟩ := hp j p hj
      exact ⟨c, h2, h3, h4⟩
    · have h5 := hw0 _ List.mem_cons_self
      refine Nat.le_trans (Nat.mul_le_mul_right _ ?_) h5
      omega
    · obtain ⟨i, hi⟩ := List.getElem?_of_mem hx
      exact (hp i x hi).1
structure OpensWF {α : Type} (P : Program) (n : Nat) (fs : List Field) (o : Nat) (d : Kd α) (wf : α → Prop) : Prop where
  out : ∀ {H : Type} (enc : TypeId × Value → H) (w : World) (base : Nat) (spare : Nat → Bool) (held : Bool) (fuel : Nat) (cs : List Value) (xs : List (DataW H × List MemPlace)),
    fuel ≤ n → (fs.mapM fun f => DataW.trod enc P w base spare held fuel f.type ((cs.drop f.offset).take (P.cellsOf f.type))) = some xs → (∀ k ∈ DataW.weightsEach P (fs.map (·.type)) (xs.map (·.1)), k ≤ reachBytes) → ∃ a, d.K w a ((cs.drop o).take d.sz) ∧ wf a
theorem OpensWF.one {f : Field} (hs : P.cellsOf f.type = d.sz) (h : OpensW P n f.type d wf) : OpensWF P n [f] f.offset d wf := by
  constructor
  intro H enc w base spare held fuel cs xs hf ht hw
  cases h1 : DataW.trod enc P w base spare held fuel f.type ((cs.drop f.offset).take (P.cellsOf f.type)) with
  | none => simp [h1] at ht
  | some y =>
    have hxs : xs = [y] := by simpa [h1] using ht.symm
    subst hxs
    rw [hs] at h1
    exact h.out enc w base spare held fuel _ y hf h1 (fun k hk => hw k (by simp only [List.map_cons, List.map_nil, DataW.weightsEach, List.mem_append]; exact .inl hk))
theorem OpensWF.cons {f : Field} {fs : List Field} (hs : P.cellsOf f.type = d.sz) (h : OpensW P n f.type d wf) (hr : OpensWF P n fs (f.offset + d.sz) d' wfb) : OpensWF P n (f :: fs) f.offset (Kd.pair d d') (fun x => wf x.1 ∧ wfb x.2) := by
  constructor
  intro H enc w base spare held fuel cs xs hf ht hwt
  rw [List.mapM_cons] at ht
  cases h1 : DataW.trod enc P w base spare held fuel f.type ((cs.drop f.offset).take (P.cellsOf f.type)) with
  | none => simp [h1] at ht
  | some y =>
    cases h2 : (fs.mapM fun f => DataW.trod enc P w base spare held fuel f.type ((cs.drop f.offset).take (P.cellsOf f.type))) with
    | none => simp [h1, h2] at ht
    | some ys =>
      have hxs : xs = y :: ys := by simpa [h1, h2] using ht.symm
      subst hxs
      rw [hs] at h1
      simp only [List.map_cons, DataW.weightsEach, List.mem_append] at hwt
      obtain ⟨a, ha, hw⟩ := h.out enc w base spare held fuel _ y hf h1 (fun k hk => hwt k (.inl hk))
      obtain ⟨b, hb, hwb⟩ := hr.out enc w base spare held fuel cs ys hf h2 (fun k hk => hwt k (.inr hk))
      refine ⟨(a, b), ⟨_, _, ?_, ha, hb⟩, hw, hwb⟩
      show (cs.drop f.offset).take (d.sz + d'.sz) = _
      rw [List.take_add, List.drop_drop]
theorem OpensW.struct {fs : Array Field} {f : β → α} (g : α → β) (hg : ∀ a, f (g a) = a) (hu : P.underlying t = some (.struct fs)) (hs : P.cellsOf t = d.sz) (h : OpensWF P n fs.toList 0 d wf) : OpensW P (n + 1) t (Kd.iso d f) (fun b => ∃ a, b = g a ∧ wf a) := by
  constructor
  intro H enc w base spare held fuel cs x hf ht hfit
  cases fuel with
  | zero => simp [DataW.trod] at ht
  | succ fuel =>
    have hlen : cs.length = P.cellsOf t := by
      obtain ⟨_, _, _, _, h4, _⟩ := DataW.trod_struct hu ht
      exact h4
    have hm : ∃ xs, (fs.toList.mapM fun f => DataW.trod enc P w base spare held fuel f.type ((cs.drop f.offset).take (P.cellsOf f.type))) = some xs ∧ x.1 = .agg (xs.map (·.1)) := by
      unfold DataW.trod at ht
      rw [hu] at ht
      simp only [hlen, if_true] at ht
      obtain ⟨xs, hxs, hx⟩ := Option.map_eq_some_iff.1 ht
      exact ⟨xs, hxs, by rw [← hx]⟩
    obtain ⟨xs, hxs, hx⟩ := hm
    have hwt : ∀ k ∈ DataW.weightsEach P (fs.toList.map (·.type)) (xs.map (·.1)), k ≤ reachBytes := by
      intro k hk
      refine hfit k ?_
      rw [hx]
      simp only [DataW.weights, hu]
      exact hk
    obtain ⟨a, ha, hw⟩ := h.out enc w base spare held fuel cs xs (by omega) hxs hwt
    refine ⟨g a, ?_, a, rfl, hw⟩
    show d.K w (f (g a)) cs
    rw [hg]
    have : (cs.drop 0).take d.sz = cs := by rw [List.drop_zero, ← hs, ← hlen, List.take_length]
    rw [this] at ha
    exact ha
end
end Go.Proofs.YtmiacdacebaagaaDoor.B
set_option linter.unusedVariables false
set_option linter.unusedSimpArgs false
namespace Go.Proofs.YtmiacdacebaagaaDoor.G
open Go.RowKit Go.Proofs.YtmiacdacebaagaaDoor.B Go.Proofs.YtmiacdacebaagaaDoorW.PrintWords Go.Proofs.YtmiacdacebaagaaDoorW.PrintLast Go.Proofs.YtmiacdacebaagaaDoorW.PrintMore
theorem opens46 (n : Nat) : Opens Tryd.prog n 46 (Kd.upto F46 4 [46] n) (fun _ => True) := by
  induction n with
  | zero =>
    constructor
    intro H enc w base spare held fuel cs x hf ht
    obtain rfl : fuel = 0 := by omega
    simp [DataW.trod] at ht
  | succ n ih =>
    have hs : (Kd.upto F46 4 [46] n).sz = 4 := sz46 n
    have h3 : Opens Tryd.prog (n + 1) 44 (Kd.slice 46 (Kd.upto F46 4 [46] n)) (fun l => ∀ x ∈ l, (fun _ => True) x) := Opens.slice Tryd.underlying44 (by rw [hs]; kernel_rfl) ih
    have hF := OpensF.cons (f := { name := "Kind", type := 3, offset := 0, embedded := false, tag := "", pkgPath := "", byteOffset := 0 }) (by kernel_rfl) (Opens.int Tryd.underlying3 (n + 1)) (OpensF.cons (f := { name := "N", type := 3, offset := 1, embedded := false, tag := "", pkgPath := "", byteOffset := 8 }) (by kernel_rfl) (Opens.int Tryd.underlying3 (n + 1)) (OpensF.cons (f := { name := "Name", type := 9, offset := 2, embedded := false, tag := "", pkgPath := "", byteOffset := 16 }) (by kernel_rfl) (Opens.string Tryd.underlying9 (n + 1)) (OpensF.one (f := { name := "Of", type := 44, offset := 3, embedded := false, tag := "", pkgPath := "", byteOffset := 32 }) (by rw [show (Kd.slice 46 (Kd.upto F46 4 [46] n)).sz = 1 from rfl]; kernel_rfl) h3)))
    have h := Opens.struct (f := fun x : S46 => (x.f0, x.f1, x.f2, x.f3)) (fun y => ⟨y.1, y.2.1, y.2.2.1, y.2.2.2⟩) (fun _ => rfl) Tryd.underlying46 (by rw [show (Kd.pair (Kd.int .i64) (Kd.pair (Kd.int .i64) (Kd.pair Kd.string (Kd.slice 46 (Kd.upto F46 4 [46] n))))).sz = 4 from rfl]; kernel_rfl) hF
    exact Opens.imp (Opens.le h (by omega)) (fun _ _ => trivial)
theorem openk46 (n : Nat) : OpensW Tryd.prog n 46 k46 (fun _ => True) := by
  constructor
  intro H enc w base spare held fuel cs x hf ht _
  obtain ⟨a, hK, _⟩ := (opens46 n).out enc w base spare held fuel cs x hf ht
  exact ⟨a, ⟨n, hK⟩, trivial⟩
theorem open48 (n : Nat) : OpensW Tryd.prog (n + 1) 48 k48 (fun _ => True) := by
  have hF := OpensWF.cons (f := { name := "Kind", type := 3, offset := 0, embedded := false, tag := "", pkgPath := "", byteOffset := 0 }) (by kernel_rfl) (OpensW.of (Opens.int Tryd.underlying3 n)) (OpensWF.cons (f := { name := "Size", type := 3, offset := 1, embedded := false, tag := "", pkgPath := "", byteOffset := 8 }) (by kernel_rfl) (OpensW.of (Opens.int Tryd.underlying3 n)) (OpensWF.cons (f := { name := "Func", type := 3, offset := 2, embedded := false, tag := "", pkgPath := "", byteOffset := 16 }) (by kernel_rfl) (OpensW.of (Opens.int Tryd.underlying3 n)) (OpensWF.cons (f := { name := "Name", type := 9, offset := 3, embedded := false, tag := "", pkgPath := "", byteOffset := 24 }) (by kernel_rfl) (OpensW.of (Opens.string Tryd.underlying9 n)) (OpensWF.one (f := { name := "T", type := 46, offset := 4, embedded := false, tag := "", pkgPath := "", byteOffset := 40 }) (by kernel_rfl) (openk46 n)))))
  exact OpensW.imp (OpensW.struct (f := fun x : S48 => (x.f0, x.f1, x.f2, x.f3, x.f4)) (fun y => ⟨y.1, y.2.1, y.2.2.1, y.2.2.2.1, y.2.2.2.2⟩) (fun _ => rfl) Tryd.underlying48 (by kernel_rfl) hF) (fun _ _ => trivial)
theorem openInts (n : Nat) : OpensW Tryd.prog (n + 1) 33 (Kd.slice 3 (Kd.int .i64)) (fun l => l.length * 8 ≤ 140737488351232) :=
  OpensW.imp (OpensW.slice Tryd.underlying33 (by kernel_rfl) (OpensW.of (Opens.int Tryd.underlying3 n))) (fun l h => by
    have h8 : Tryd.prog.bytesOf 3 = 8 := by kernel_rfl
    have := h.1
    rw [h8] at this
    exact this)
theorem open39 (n : Nat) : OpensW Tryd.prog (n + 2) 39 k39 (fun i => i.f7.length * 8 ≤ 140737488351232) := by
  have hF := OpensWF.cons (f := { name := "Op", type := 3, offset := 0, embedded := false, tag := "", pkgPath := "", byteOffset := 0 }) (by kernel_rfl) (OpensW.of (Opens.int Tryd.underlying3 (n + 1))) (OpensWF.cons (f := { name := "A", type := 3, offset := 1, embedded := false, tag := "", pkgPath := "", byteOffset := 8 }) (by kernel_rfl) (OpensW.of (Opens.int Tryd.underlying3 (n + 1))) (OpensWF.cons (f := { name := "B", type := 3, offset := 2, embedded := false, tag := "", pkgPath := "", byteOffset := 16 }) (by kernel_rfl) (OpensW.of (Opens.int Tryd.underlying3 (n + 1))) (OpensWF.cons (f := { name := "C", type := 3, offset := 3, embedded := false, tag := "", pkgPath := "", byteOffset := 24 }) (by kernel_rfl) (OpensW.of (Opens.int Tryd.underlying3 (n + 1))) (OpensWF.cons (f := { name := "W", type := 3, offset := 4, embedded := false, tag := "", pkgPath := "", byteOffset := 32 }) (by kernel_rfl) (OpensW.of (Opens.int Tryd.underlying3 (n + 1))) (OpensWF.cons (f := { name := "N", type := 2, offset := 5, embedded := false, tag := "", pkgPath := "", byteOffset := 40 }) (by kernel_rfl) (OpensW.of (Opens.int Tryd.underlying2 (n + 1))) (OpensWF.cons (f := { name := "Sign", type := 9, offset := 6, embedded := false, tag := "", pkgPath := "", byteOffset := 48 }) (by kernel_rfl) (OpensW.of (Opens.string Tryd.underlying9 (n + 1))) (OpensWF.one (f := { name := "Args", type := 33, offset := 7, embedded := false, tag := "", pkgPath := "", byteOffset := 64 }) (by kernel_rfl) (openInts n))))))))
  refine OpensW.imp (OpensW.struct (f := fun x : S39 => (x.f0, x.f1, x.f2, x.f3, x.f4, x.f5, x.f6, x.f7)) (fun y => ⟨y.1, y.2.1, y.2.2.1, y.2.2.2.1, y.2.2.2.2.1, y.2.2.2.2.2.1, y.2.2.2.2.2.2.1, y.2.2.2.2.2.2.2⟩) (fun _ => rfl) Tryd.underlying39 (by kernel_rfl) hF) ?_
  rintro b ⟨a, rfl, h0, h1, h2, h3, h4, h5, h6, h7⟩
  exact h7
theorem open36 (n : Nat) : OpensW Tryd.prog (n + 4) 36 k36 WfF := by
  have h34 : OpensW Tryd.prog (n + 3) 34 (Kd.slice 39 k39) (fun l => l.length * Tryd.prog.bytesOf 39 ≤ reachBytes ∧ ∀ x ∈ l, x.f7.length * 8 ≤ 140737488351232) := OpensW.slice Tryd.underlying34 (by kernel_rfl) (open39 n)
  have hF := OpensWF.cons (f := { name := "Name", type := 9, offset := 0, embedded := false, tag := "", pkgPath := "", byteOffset := 0 }) (by kernel_rfl) (OpensW.of (Opens.string Tryd.underlying9 (n + 3))) (OpensWF.cons (f := { name := "Regs", type := 3, offset := 1, embedded := false, tag := "", pkgPath := "", byteOffset := 16 }) (by kernel_rfl) (OpensW.of (Opens.int Tryd.underlying3 (n + 3))) (OpensWF.cons (f := { name := "Params", type := 3, offset := 2, embedded := false, tag := "", pkgPath := "", byteOffset := 24 }) (by kernel_rfl) (OpensW.of (Opens.int Tryd.underlying3 (n + 3))) (OpensWF.cons (f := { name := "Locals", type := 33, offset := 3, embedded := false, tag := "", pkgPath := "", byteOffset := 32 }) (by kernel_rfl) (openInts (n + 2)) (OpensWF.one (f := { name := "Code", type := 34, offset := 4, embedded := false, tag := "", pkgPath := "", byteOffset := 56 }) (by kernel_rfl) (h34)))))
  refine OpensW.imp (OpensW.struct (f := fun x : S36 => (x.f0, x.f1, x.f2, x.f3, x.f4)) (fun y => ⟨y.1, y.2.1, y.2.2.1, y.2.2.2.1, y.2.2.2.2⟩) (fun _ => rfl) Tryd.underlying36 (by kernel_rfl) hF) ?_
  rintro b ⟨a, rfl, h0, h1, h2, h3, h4⟩
  exact ⟨h3, h4.2⟩
theorem open25 {H : Type} {enc : TypeId × Value → H} {W : World} {base : Nat} {spare : Nat → Bool} {held : Bool} {v : Value} {d : DataW H} {p : List MemPlace} (hv : Value.okWide Tryd.prog W .any base 25 v) (h : DataW.Trod enc Tryd.prog W 0 spare held 25 v d p)
    (hfit : Fit Tryd.prog 25 d) : ∃ x : PV, v = .agg #[.slice x.A0 x.sites.length x.c0, .slice x.A1 x.fns.length x.c1, .int .i64 x.main] ∧ RdP W x ∧ WfP x := by
  unfold Value.okWide at hv
  rw [Tryd.underlying25] at hv
  obtain ⟨cs, rfl, _⟩ := hv
  obtain ⟨n, hf⟩ := h
  have h22 : OpensW Tryd.prog (n + 5) 22 (Kd.slice 48 k48) (fun l => l.length * Tryd.prog.bytesOf 48 ≤ reachBytes ∧ ∀ x ∈ l, (fun _ => True) x) := OpensW.slice Tryd.underlying22 (by kernel_rfl) (open48 (n + 3))
  have h23 : OpensW Tryd.prog (n + 5) 23 (Kd.slice 36 k36) (fun l => l.length * Tryd.prog.bytesOf 36 ≤ reachBytes ∧ ∀ x ∈ l, WfF x) := OpensW.slice Tryd.underlying23 (by kernel_rfl) (open36 n)
  have hF := OpensWF.cons (f := { name := "Sites", type := 22, offset := 0, embedded := false, tag := "", pkgPath := "", byteOffset := 0 }) (by kernel_rfl) (h22) (OpensWF.cons (f := { name := "Fns", type := 23, offset := 1, embedded := false, tag := "", pkgPath := "", byteOffset := 24 }) (by kernel_rfl) (h23) (OpensWF.one (f := { name := "Main", type := 3, offset := 2, embedded := false, tag := "", pkgPath := "", byteOffset := 48 }) (by kernel_rfl) (OpensW.of (Opens.int Tryd.underlying3 (n + 5)))))
  have hS := OpensW.struct (P := Tryd.prog) (t := 25) (f := fun x : List S48 × List S36 × Int => x) (fun y => y) (fun _ => rfl) Tryd.underlying25 (by kernel_rfl) hF
  obtain ⟨x, hK, a, rfl, _, h1, _⟩ := hS.out enc W 0 spare held n _ _ (by omega) hf hfit
  obtain ⟨sites, fns, main⟩ := x
  obtain ⟨_, _, e0, ⟨A0, c0, rfl, hl0, hC0⟩, _, _, rfl, ⟨A1, c1, rfl, hl1, hC1⟩, rfl⟩ := hK
  refine ⟨⟨sites, fns, main, A0, c0, A1, c1⟩, ?_, ⟨hC0, hl0, hC1, hl1⟩, h1.2⟩
  congr 1
  exact Array.toList_inj.1 e0
end Go.Proofs.YtmiacdacebaagaaDoor.G
set_option linter.unusedVariables false
namespace Go.Proofs.YtmiacdacebaagaaDoor.G
open Go.RowKit Go.Proofs.YtmiacdacebaagaaDoor.B Go.Proofs.YtmiacdacebaagaaDoorW.PrintWords Go.Proofs.YtmiacdacebaagaaDoorW.PrintLast Go.Proofs.YtmiacdacebaagaaDoorW.PrintMore
def laidL : List (String × DataW Unit) := [("unicode.White_Space", Rows.laid_unicode_White_Space), ("strings.asciiSpace", Rows.laid_strings_asciiSpace)]
theorem gSpace : Tryd.prog.globalNamed "strings.asciiSpace" = some 0 := by kernel_rfl
theorem gSpaceT : (Tryd.prog.globals[0]?).map (·.type) = some 68 := by kernel_rfl
theorem cells68 : Tryd.prog.cellsOf 68 = 256 := by kernel_rfl
theorem cells5_ : Tryd.prog.cellsOf 5 = 1 := by kernel_rfl
theorem tab_of {W : World} (h : laidMetH Tryd.prog laidL W) : Tab W := by
  have h0 : laidMet Tryd.prog laidL W := h
  have h1 := Lib.laidMet.reads h0 (n := "strings.asciiSpace") (d := Rows.laid_strings_asciiSpace) (.tail _ (.head _))
  have e : (Rows.laid_strings_asciiSpace : DataW Unit) = Lib.tabData .u8 Lib.asciiSpaceTab := by kernel_rfl
  rw [e] at h1
  obtain ⟨g, t, cs, fuel, p, hg, ht, hv, hd⟩ := h1
  obtain rfl := Option.some.inj (gSpace.symm.trans hg)
  obtain rfl := Option.some.inj (gSpaceT.symm.trans ht)
  show W.var? Tryd.prog "strings.asciiSpace" = _
  rw [hv, ← Lib.cells_of_tab Tryd.underlying68 Tryd.underlying5 cells5_ cells68 hd]
def whiteR : List Int := [9, 13, 1, 32, 133, 101, 160, 5760, 5600, 8192, 8202, 1, 8232, 8233, 1, 8239, 8287, 48, 12288, 12288, 1]
noncomputable def laidWorld (os : Os) : World :=
  let N := (World.settled Tryd.prog os).heap.size
  let w0 := World.holding Tryd.prog os ⟨#[.cells (whiteR.map fun z => Value.int .u16 z).toArray 83, .cells #[.slice (some ⟨N, 0, none⟩) 7 7, .slice none 0 0, .int .i64 2] 80], #[], []⟩
  let put (h : Array Obj) (g : Nat) (cs : Array Value) : Array Obj := h.modify g fun
    | .cells _ t frozen => .cells cs t frozen
    | o => o
  let h1 := put w0.heap 0 (Lib.asciiSpaceTab.map fun z => Value.int .u8 z).toArray
  let h2 := put h1 1 #[.pointer (some ⟨N + 1, 0, none⟩)]
  { w0 with heap := h2 }
theorem laid_met (os : Os) (args : Array Value) : laidMet Tryd.prog laidL ((laidWorld os).forCall (fun _ _ => 0) ⟨#[], args, []⟩).memory :=
  laidMet_of_run' 10 (by kernel_rfl) (by kernel_rfl)
theorem own : ownKnob Tryd.prog.godebug = none := by kernel_rfl
theorem laidOut : laidOutB Tryd.prog = true := by kernel_rfl
theorem fit_of {H : Type} {ts : List TypeId} {ds : List (DataW H)} (h : (DataW.weightsEach Tryd.prog ts ds).all (· ≤ reachBytes) = true) {j : Nat} {t : TypeId} {d : DataW H} (ht : ts[j]? = some t) (hd : ds[j]? = some d) : Fit Tryd.prog t d := fun k hk => by
  have := List.all_eq_true.1 h k (DataW.weights_mem_each ht hd k hk)
  simpa using this
end Go.Proofs.YtmiacdacebaagaaDoor.G
set_option linter.unusedVariables false
set_option linter.unusedSimpArgs false
namespace Go.Proofs.YtmiacdacebaagaaDoor.G
open Go.RowKit Go.Proofs.YtmiacdacebaagaaDoor.B Go.Proofs.YtmiacdacebaagaaDoorW.PrintWords Go.Proofs.YtmiacdacebaagaaDoorW.PrintLast Go.Proofs.YtmiacdacebaagaaDoorW.PrintMore
set_option maxRecDepth 100000 in
set_option maxHeartbeats 8000000 in
theorem IrChecks_calls (p : PV) (w : World) (h : RdP w p) (hg : Tab w) (hwf : WfP p) :
    Calls Tryd.prog 3 #[.agg #[.slice p.A0 p.sites.length p.c0, .slice p.A1 p.fns.length p.c1, .int .i64 p.main]] w fun e w' => e = .returned (.bool true) ∧ Below w.heap.size w w' := by
  have HP := Aside0.mk h
  have HG := Aside0.mk hg
  have HW := Aside0.mk hwf
  clear h hg hwf
  go_enter Tryd.func3, Tryd.ntmps3
  go_upto_region 1 with (fail)
  have HX := Aside0.mk (blk_new w (.cells #[.slice p.A0 p.sites.length p.c0, .slice p.A1 p.fns.length p.c1, .int .i64 p.main] 25))
  have HB := Aside0.mk (below_alloc (Below.refl w.heap.size w) (.cells #[.slice p.A0 p.sites.length p.c0, .slice p.A1 p.fns.length p.c1, .int .i64 p.main] 25))
  generalize w.alloc (.cells #[.slice p.A0 p.sites.length p.c0, .slice p.A1 p.fns.length p.c1, .int .i64 p.main] 25) = V at HX HB ⊢
  generalize hgx : w.heap.size = gx at HX ⊢
  go_wp2_with fail
  refine (shown_calls _).mono ?_
  rintro e w1 ⟨rfl, hk⟩
  replace HX := Aside0.mk (blk_below HX.out hk)
  replace HB := Aside0.mk (below_step HB.out hk)
  clear hk
  obtain ⟨x0, x1, x2⟩ := cell3 HX.out
  go_wp2_with fail
  refine (chk_c p _ (HP.out.below HB.out) (HG.out.below HB.out) HW.out).mono ?_
  rintro e w2 ⟨rfl, hk⟩
  replace HX := Aside0.mk (blk_below HX.out hk)
  replace HB := Aside0.mk (below_step HB.out hk)
  clear hk x0 x1 x2
  obtain ⟨x0, x1, x2⟩ := cell3 HX.out
  go_wp2_with fail
  refine (chkr_c p _ (HP.out.below HB.out) HW.out).mono ?_
  rintro e w3 ⟨rfl, hk⟩
  replace HB := Aside0.mk (below_step HB.out hk)
  clear hk x0 x1 x2 HX
  have hb1 : ((chkS p).1 == (chkS p).1) = true := beq_self_eq_true _
  have hb2 : ((chkS p).2.1 == (chkS p).2.1) = true := beq_self_eq_true _
  have hb3 : ((chkS p).2.2 == (chkS p).2.2) = true := beq_self_eq_true _
  go_wp2_with fail
  go_ret
  exact ⟨rfl, hgx ▸ HB.out⟩
end Go.Proofs.YtmiacdacebaagaaDoor.G
