/- Merged texts (by slim.py): what the law's proof names. -/
import Derived.Test.YteogfjhmjlelnaaZe
namespace Go.Proofs.Yteogfjhmjlelnaa.H
open Go.RowKit Go.Proofs.YteogfjhmjlelnaaW.PrintWords Go.Proofs.YteogfjhmjlelnaaW.PrintLast Go.Proofs.YteogfjhmjlelnaaW.PrintMore
attribute [local go_sem] max2_int min2_int max_two min_two max_three min_three max_four min_four
set_option linter.unusedVariables false
set_option linter.unusedSimpArgs false
def crosstreeref10_Copy.f (k : Nat) (l0 : List (S69)) (a1_0 : Int) (a1_1 : Int) (a1_2 : Int) (a2_0 : Int) (a2_1 : Int) (a2_2 : Int) (a3 : Int) : Option ((List (S69)) × Int) := if a3 < 0 then (some (l0, 9)) else (if a3 > 4096 then (some (l0, 9)) else ((crosstreeref10_May.f l0 a1_0 a1_1 a1_2 a3).bind fun t221 => (if t221 = true then ((crosstreeref10_May.f l0 a2_0 a2_1 a2_2 a3).bind fun t222 => (if t222 = true then ((some (([] : List (S42)) : List (S42))).bind fun y223 => (if 0 ≤ (wrap64 (a2_1 - 1)) then (if (wrap64 (a2_1 - 1)) < (l0.length : Int) then (if 0 ≤ a2_0 then (if a2_0 ≤ (wrap64 (a2_0 + a3)) then (if (wrap64 (a2_0 + a3)) ≤ (((q23 l0 (wrap64 (a2_1 - 1))).f1).length : Int) then ((some ((((q23 l0 (wrap64 (a2_1 - 1))).f1).take ((wrap64 (a2_0 + a3)) : Int).toNat).drop (a2_0 : Int).toNat : List (S42))).bind fun y227 => (if y223.length + y227.length < 3518437208883 then ((crosstreeref10_Lay.f k l0 a1_0 a1_1 a1_2 (y223 ++ y227)).bind fun t235 => (some (t235, 0))) else (none))) else (none)) else (none)) else (none)) else (none)) else (none))) else (some (l0, 9)))) else (some (l0, 9)))))
theorem crosstreeref10_Copy.mono : ∀ a0 a1 a2 a3 a4 a5 a6 a7 k, LeO (crosstreeref10_Copy.f k a0 a1 a2 a3 a4 a5 a6 a7) (crosstreeref10_Copy.f (k + 1) a0 a1 a2 a3 a4 a5 a6 a7) := by
 intro a0 a1 a2 a3 a4 a5 a6 a7 k
 unfold crosstreeref10_Copy.f
 repeat' first
   | (with_reducible exact crosstreeref10_Lay.mono _ _ _ _ _ _)
   | (with_reducible exact LeO.refl _)
   | (with_reducible exact LeO.none _)
   | (with_reducible refine LeO.ite ?_ ?_)
   | (with_reducible refine LeO.bind ?_ (fun _ => ?_))
   | exact crosstreeref10_Lay.mono _ _ _ _ _ _
   | exact LeO.none _
   | refine LeO.ite ?_ ?_
   | refine LeO.bind ?_ (fun _ => ?_)
def crosstreeref10_Copy.T3 : Bool × List (List Nat × List Nat) := (true, [([], []), ([], []), ([], []), ([2], [2]), ([3], [3]), ([1, 4], [1, 4]), ([5], [5]), ([6], [6]), ([], []), ([8], [8]), ([], []), ([10], [10]), ([], []), ([11, 12], [11, 12]), ([7, 9, 13], [7, 9, 13]), ([0, 14], [0, 14]), ([15, 15, 0, 1, 2, 3, 4, 5, 6, 7, 8, 9, 10, 11, 12, 13, 14, 15], [15])])
def crosstreeref10_Copy.B3 : List Nat := [0, 0, 0, 4, 12, 30, 62, 126, 0, 256, 0, 1024, 0, 7168, 16382, 32767, 65535]
theorem crosstreeref10_Copy.tab3 : rtab .any (opsOf Try.f27 3) = crosstreeref10_Copy.T3 := by kernel_rfl
theorem crosstreeref10_Copy.bits3 : waitsOk crosstreeref10_Copy.T3.2 crosstreeref10_Copy.B3 = true := by kernel_rfl
set_option maxHeartbeats 8000000 in
set_option maxRecDepth 100000 in
theorem crosstreeref10_Copy.calls (k : Nat) (P0_ : Nat → Prop) (A0 : Option Addr) (c0 : Nat) (l0 : List (S69)) (a1_0 : Int) (a1_1 : Int) (a1_2 : Int) (a2_0 : Int) (a2_1 : Int) (a2_2 : Int) (a3 : Int) (r1 : List (S69)) (r2 : Int) (w : World) (hs0 : Kd.V k69 69 w w.heap.size (fun k_ => P0_ k_) (.slice A0 l0.length c0) l0) (h : crosstreeref10_Copy.f k l0 a1_0 a1_1 a1_2 a2_0 a2_1 a2_2 a3 = some (r1, r2)) :
  Calls Try.prog 27 #[.slice A0 l0.length c0, .agg #[.int .i64 a1_0, .int .i64 a1_1, .int .i64 a1_2], .agg #[.int .i64 a2_0, .int .i64 a2_1, .int .i64 a2_2], .int .i64 a3] w fun e w' => ∃ v0_ : Value, e = .returned (.tuple #[v0_, .int .i64 r2]) ∧ Kd.V k69 69 w' w.heap.size (fun k_ => (P0_ k_ ∨ w.heap.size ≤ k_)) v0_ r1 ∧ Below w.heap.size w w' := by
 have hu23 := Try.underlying23
 have HO0 := Aside0.mk (show Kd.V k69 69 w w.heap.size (fun k_ => (P0_ k_ ∨ w.heap.size ≤ k_)) (.slice A0 l0.length c0) l0 from Kd.V_mono hs0 (fun k_ hk => .inl hk))
 have HB := Aside0.mk (Below.refl w.heap.size w)
 have H : (if a3 < 0 then (some (l0, 9)) else (if a3 > 4096 then (some (l0, 9)) else ((crosstreeref10_May.f l0 a1_0 a1_1 a1_2 a3).bind fun t221 => (if t221 = true then ((crosstreeref10_May.f l0 a2_0 a2_1 a2_2 a3).bind fun t222 => (if t222 = true then ((some (([] : List (S42)) : List (S42))).bind fun y223 => (if 0 ≤ (wrap64 (a2_1 - 1)) then (if (wrap64 (a2_1 - 1)) < (l0.length : Int) then (if 0 ≤ a2_0 then (if a2_0 ≤ (wrap64 (a2_0 + a3)) then (if (wrap64 (a2_0 + a3)) ≤ (((q23 l0 (wrap64 (a2_1 - 1))).f1).length : Int) then ((some ((((q23 l0 (wrap64 (a2_1 - 1))).f1).take ((wrap64 (a2_0 + a3)) : Int).toNat).drop (a2_0 : Int).toNat : List (S42))).bind fun y227 => (if y223.length + y227.length < 3518437208883 then ((crosstreeref10_Lay.f k l0 a1_0 a1_1 a1_2 (y223 ++ y227)).bind fun t235 => (some (t235, 0))) else (none))) else (none)) else (none)) else (none)) else (none)) else (none))) else (some (l0, 9)))) else (some (l0, 9)))))) = some (r1, r2) := h
 clear h
 by_cases c5 : a3 < 0
 ·rw [if_pos c5] at H
  have c5b0 : decide (a3 < 0) = true := decide_eq_true c5
  clear c5
  simp only [Option.some.injEq, Prod.mk.injEq] at H
  obtain ⟨rfl, rfl⟩ := H
  go_enter Try.func27, Try.ntmps27
  go_wp2_with (first | ((with_reducible refine q32 (N := 5) rfl ?_); refine q29 ?hg (N := 5) ?hd (cs := #[.int .i64 a1_0, .int .i64 a1_1, .int .i64 a1_2]) (t := 23) ?hr ?_; (case hd => rfl); (case hg => rfl); (case hr => first | (go_simp; done) | (go_simp; rfl)); intro gb219 hg w6 hbox hb; have n0_ := Aside0.mk (Kd.V_below (Kd.V_elderB (by (with_reducible repeat (first | apply Kd.V_alloc | apply Kd.V_drewN | apply Kd.V_drew)); exact HO0.out) gb219 (Nat.le_of_eq hg.symm)) hb); have n1_ := Aside0.mk (q20 (by repeat (first | (with_reducible first | exact HB.out | apply q10 | apply q9 | apply q11) | exact HB.out)) hb); have n2_ := Aside0.mk (hbox); have n3_ := Aside0.mk ((by rw [hg]; exact (q21 (by repeat (first | (with_reducible first | exact HB.out | apply q10 | apply q9 | apply q11) | exact HB.out))) : w.heap.size ≤ gb219)); have n4_ := Aside0.mk ((by rw [hg]; exact (q21 (by repeat (first | (with_reducible first | exact HB.out | apply q10 | apply q9 | apply q11) | exact HB.out))) : w.heap.size ≤ gb219)); clear HO0; clear HB; have HO0 := n0_; have HB := n1_; have BK219 := n2_; have GW219 := n3_; have GE219 := n4_; clear n0_ n1_ n2_ n3_ n4_; clear hb hbox hg) | ((with_reducible refine q32 (N := 6) rfl ?_); refine q29 ?hg (N := 6) ?hd (cs := #[.int .i64 a2_0, .int .i64 a2_1, .int .i64 a2_2]) (t := 23) ?hr ?_; (case hd => rfl); (case hg => rfl); (case hr => first | (go_simp; done) | (go_simp; rfl)); intro gb220 hg w7 hbox hb; have n0_ := Aside0.mk (Kd.V_below (Kd.V_elderB (by (with_reducible repeat (first | apply Kd.V_alloc | apply Kd.V_drewN | apply Kd.V_drew)); exact HO0.out) gb220 (Nat.le_of_eq hg.symm)) hb); have n1_ := Aside0.mk (q19 (g := gb219) (o := .cells #[.int .i64 a1_0, .int .i64 a1_1, .int .i64 a1_2] 23 (0, 0)) (by (with_reducible repeat (first | refine q13 ?_ _ | refine q15 ?_ | refine q12 ?_ _)); exact BK219.out) hb); have n2_ := Aside0.mk (q20 (by repeat (first | (with_reducible first | exact HB.out | apply q10 | apply q9 | apply q11 | refine q14 ?_ GE219.out) | exact HB.out)) hb); have n3_ := Aside0.mk (hbox); have n4_ := Aside0.mk ((by rw [hg]; exact (q21 (by repeat (first | (with_reducible first | exact HB.out | apply q10 | apply q9 | apply q11 | refine q14 ?_ GE219.out) | exact HB.out))) : w.heap.size ≤ gb220)); have n5_ := Aside0.mk ((by rw [hg]; exact (q21 (by repeat (first | (with_reducible first | exact HB.out | apply q10 | apply q9 | apply q11 | refine q14 ?_ GE219.out) | exact HB.out))) : w.heap.size ≤ gb220)); have n6_ := Aside0.mk ((by rw [hg]; exact Nat.ne_of_lt (q30 (g := gb219) (o := .cells #[.int .i64 a1_0, .int .i64 a1_1, .int .i64 a1_2] 23 (0, 0)) (by (with_reducible repeat (first | refine q13 ?_ _ | refine q15 ?_ | refine q12 ?_ _)); exact BK219.out)) : gb219 ≠ gb220)); have n7_ := Aside0.mk ((by rw [hg]; exact Nat.ne_of_gt (q30 (g := gb219) (o := .cells #[.int .i64 a1_0, .int .i64 a1_1, .int .i64 a1_2] 23 (0, 0)) (by (with_reducible repeat (first | refine q13 ?_ _ | refine q15 ?_ | refine q12 ?_ _)); exact BK219.out)) : gb220 ≠ gb219)); clear HO0; clear BK219; clear HB; have HO0 := n0_; have BK219 := n1_; have HB := n2_; have BK220 := n3_; have GW220 := n4_; have GE220 := n5_; have NB219_220 := n6_; have NB220_219 := n7_; clear n0_ n1_ n2_ n3_ n4_ n5_ n6_ n7_; clear hb hbox hg))
  go_ret2
  exact ⟨_, by first | rfl | (simp [q26, q25] <;> rfl) | (simp [*, q26, q25] <;> rfl), by (with_reducible repeat (first | apply Kd.V_alloc | apply Kd.V_drewN | apply Kd.V_drew)); exact Kd.V_mono HO0.out (fun _ hk => hk.1.1), by repeat (first | (with_reducible first | exact HB.out | apply q10 | apply q9 | apply q11 | refine q14 ?_ GE219.out | refine q14 ?_ GE220.out) | exact HB.out)⟩
 ·rw [if_neg c5] at H
  have c5b0 : decide (a3 < 0) = false := decide_eq_false c5
  clear c5
  by_cases c8 : a3 > 4096
  ·rw [if_pos c8] at H
   have c8b0 : decide (4096 < a3) = true := decide_eq_true c8
   clear c8
   simp only [Option.some.injEq, Prod.mk.injEq] at H
   obtain ⟨rfl, rfl⟩ := H
   go_enter Try.func27, Try.ntmps27
   go_wp2_with (first | ((with_reducible refine q32 (N := 5) rfl ?_); refine q29 ?hg (N := 5) ?hd (cs := #[.int .i64 a1_0, .int .i64 a1_1, .int .i64 a1_2]) (t := 23) ?hr ?_; (case hd => rfl); (case hg => rfl); (case hr => first | (go_simp; done) | (go_simp; rfl)); intro gb219 hg w9 hbox hb; have n0_ := Aside0.mk (Kd.V_below (Kd.V_elderB (by (with_reducible repeat (first | apply Kd.V_alloc | apply Kd.V_drewN | apply Kd.V_drew)); exact HO0.out) gb219 (Nat.le_of_eq hg.symm)) hb); have n1_ := Aside0.mk (q20 (by repeat (first | (with_reducible first | exact HB.out | apply q10 | apply q9 | apply q11) | exact HB.out)) hb); have n2_ := Aside0.mk (hbox); have n3_ := Aside0.mk ((by rw [hg]; exact (q21 (by repeat (first | (with_reducible first | exact HB.out | apply q10 | apply q9 | apply q11) | exact HB.out))) : w.heap.size ≤ gb219)); have n4_ := Aside0.mk ((by rw [hg]; exact (q21 (by repeat (first | (with_reducible first | exact HB.out | apply q10 | apply q9 | apply q11) | exact HB.out))) : w.heap.size ≤ gb219)); clear HO0; clear HB; have HO0 := n0_; have HB := n1_; have BK219 := n2_; have GW219 := n3_; have GE219 := n4_; clear n0_ n1_ n2_ n3_ n4_; clear hb hbox hg) | ((with_reducible refine q32 (N := 6) rfl ?_); refine q29 ?hg (N := 6) ?hd (cs := #[.int .i64 a2_0, .int .i64 a2_1, .int .i64 a2_2]) (t := 23) ?hr ?_; (case hd => rfl); (case hg => rfl); (case hr => first | (go_simp; done) | (go_simp; rfl)); intro gb220 hg w10 hbox hb; have n0_ := Aside0.mk (Kd.V_below (Kd.V_elderB (by (with_reducible repeat (first | apply Kd.V_alloc | apply Kd.V_drewN | apply Kd.V_drew)); exact HO0.out) gb220 (Nat.le_of_eq hg.symm)) hb); have n1_ := Aside0.mk (q19 (g := gb219) (o := .cells #[.int .i64 a1_0, .int .i64 a1_1, .int .i64 a1_2] 23 (0, 0)) (by (with_reducible repeat (first | refine q13 ?_ _ | refine q15 ?_ | refine q12 ?_ _)); exact BK219.out) hb); have n2_ := Aside0.mk (q20 (by repeat (first | (with_reducible first | exact HB.out | apply q10 | apply q9 | apply q11 | refine q14 ?_ GE219.out) | exact HB.out)) hb); have n3_ := Aside0.mk (hbox); have n4_ := Aside0.mk ((by rw [hg]; exact (q21 (by repeat (first | (with_reducible first | exact HB.out | apply q10 | apply q9 | apply q11 | refine q14 ?_ GE219.out) | exact HB.out))) : w.heap.size ≤ gb220)); have n5_ := Aside0.mk ((by rw [hg]; exact (q21 (by repeat (first | (with_reducible first | exact HB.out | apply q10 | apply q9 | apply q11 | refine q14 ?_ GE219.out) | exact HB.out))) : w.heap.size ≤ gb220)); have n6_ := Aside0.mk ((by rw [hg]; exact Nat.ne_of_lt (q30 (g := gb219) (o := .cells #[.int .i64 a1_0, .int .i64 a1_1, .int .i64 a1_2] 23 (0, 0)) (by (with_reducible repeat (first | refine q13 ?_ _ | refine q15 ?_ | refine q12 ?_ _)); exact BK219.out)) : gb219 ≠ gb220)); have n7_ := Aside0.mk ((by rw [hg]; exact Nat.ne_of_gt (q30 (g := gb219) (o := .cells #[.int .i64 a1_0, .int .i64 a1_1, .int .i64 a1_2] 23 (0, 0)) (by (with_reducible repeat (first | refine q13 ?_ _ | refine q15 ?_ | refine q12 ?_ _)); exact BK219.out)) : gb220 ≠ gb219)); clear HO0; clear BK219; clear HB; have HO0 := n0_; have BK219 := n1_; have HB := n2_; have BK220 := n3_; have GW220 := n4_; have GE220 := n5_; have NB219_220 := n6_; have NB220_219 := n7_; clear n0_ n1_ n2_ n3_ n4_ n5_ n6_ n7_; clear hb hbox hg))
   go_ret2
   exact ⟨_, by first | rfl | (simp [q26, q25] <;> rfl) | (simp [*, q26, q25] <;> rfl), by (with_reducible repeat (first | apply Kd.V_alloc | apply Kd.V_drewN | apply Kd.V_drew)); exact Kd.V_mono HO0.out (fun _ hk => hk.1.1), by repeat (first | (with_reducible first | exact HB.out | apply q10 | apply q9 | apply q11 | refine q14 ?_ GE219.out | refine q14 ?_ GE220.out) | exact HB.out)⟩
  ·rw [if_neg c8] at H
   have c8b0 : decide (4096 < a3) = false := decide_eq_false c8
   clear c8
   replace H := Option.bind_eq_some_iff.mp H
   obtain ⟨t221, A110, H⟩ := H
   replace H : (if t221 = true then ((crosstreeref10_May.f l0 a2_0 a2_1 a2_2 a3).bind fun t222 => (if t222 = true then ((some (([] : List (S42)) : List (S42))).bind fun y223 => (if 0 ≤ (wrap64 (a2_1 - 1)) then (if (wrap64 (a2_1 - 1)) < (l0.length : Int) then (if 0 ≤ a2_0 then (if a2_0 ≤ (wrap64 (a2_0 + a3)) then (if (wrap64 (a2_0 + a3)) ≤ (((q23 l0 (wrap64 (a2_1 - 1))).f1).length : Int) then ((some ((((q23 l0 (wrap64 (a2_1 - 1))).f1).take ((wrap64 (a2_0 + a3)) : Int).toNat).drop (a2_0 : Int).toNat : List (S42))).bind fun y227 => (if y223.length + y227.length < 3518437208883 then ((crosstreeref10_Lay.f k l0 a1_0 a1_1 a1_2 (y223 ++ y227)).bind fun t235 => (some (t235, 0))) else (none))) else (none)) else (none)) else (none)) else (none)) else (none))) else (some (l0, 9)))) else (some (l0, 9))) = some (r1, r2) := H
   have A11 := Aside0.mk A110
   clear A110
   by_cases c12 : t221 = true
   ·subst c12
    have H1 : ((crosstreeref10_May.f l0 a2_0 a2_1 a2_2 a3).bind fun t222 => (if t222 = true then ((some (([] : List (S42)) : List (S42))).bind fun y223 => (if 0 ≤ (wrap64 (a2_1 - 1)) then (if (wrap64 (a2_1 - 1)) < (l0.length : Int) then (if 0 ≤ a2_0 then (if a2_0 ≤ (wrap64 (a2_0 + a3)) then (if (wrap64 (a2_0 + a3)) ≤ (((q23 l0 (wrap64 (a2_1 - 1))).f1).length : Int) then ((some ((((q23 l0 (wrap64 (a2_1 - 1))).f1).take ((wrap64 (a2_0 + a3)) : Int).toNat).drop (a2_0 : Int).toNat : List (S42))).bind fun y227 => (if y223.length + y227.length < 3518437208883 then ((crosstreeref10_Lay.f k l0 a1_0 a1_1 a1_2 (y223 ++ y227)).bind fun t235 => (some (t235, 0))) else (none))) else (none)) else (none)) else (none)) else (none)) else (none))) else (some (l0, 9)))) = some (r1, r2) := by rw [if_pos rfl] at H; exact H
    clear H
    have H := H1
    clear H1
    replace H := Option.bind_eq_some_iff.mp H
    obtain ⟨t222, A130, H⟩ := H
    replace H : (if t222 = true then ((some (([] : List (S42)) : List (S42))).bind fun y223 => (if 0 ≤ (wrap64 (a2_1 - 1)) then (if (wrap64 (a2_1 - 1)) < (l0.length : Int) then (if 0 ≤ a2_0 then (if a2_0 ≤ (wrap64 (a2_0 + a3)) then (if (wrap64 (a2_0 + a3)) ≤ (((q23 l0 (wrap64 (a2_1 - 1))).f1).length : Int) then ((some ((((q23 l0 (wrap64 (a2_1 - 1))).f1).take ((wrap64 (a2_0 + a3)) : Int).toNat).drop (a2_0 : Int).toNat : List (S42))).bind fun y227 => (if y223.length + y227.length < 3518437208883 then ((crosstreeref10_Lay.f k l0 a1_0 a1_1 a1_2 (y223 ++ y227)).bind fun t235 => (some (t235, 0))) else (none))) else (none)) else (none)) else (none)) else (none)) else (none))) else (some (l0, 9))) = some (r1, r2) := H
    have A13 := Aside0.mk A130
    clear A130
    by_cases c14 : t222 = true
    ·subst c14
     have H1 : ((some (([] : List (S42)) : List (S42))).bind fun y223 => (if 0 ≤ (wrap64 (a2_1 - 1)) then (if (wrap64 (a2_1 - 1)) < (l0.length : Int) then (if 0 ≤ a2_0 then (if a2_0 ≤ (wrap64 (a2_0 + a3)) then (if (wrap64 (a2_0 + a3)) ≤ (((q23 l0 (wrap64 (a2_1 - 1))).f1).length : Int) then ((some ((((q23 l0 (wrap64 (a2_1 - 1))).f1).take ((wrap64 (a2_0 + a3)) : Int).toNat).drop (a2_0 : Int).toNat : List (S42))).bind fun y227 => (if y223.length + y227.length < 3518437208883 then ((crosstreeref10_Lay.f k l0 a1_0 a1_1 a1_2 (y223 ++ y227)).bind fun t235 => (some (t235, 0))) else (none))) else (none)) else (none)) else (none)) else (none)) else (none))) = some (r1, r2) := by rw [if_pos rfl] at H; exact H
     clear H
     have H := H1
     clear H1
     obtain ⟨y223, hy223⟩ : ∃ y_ : List (S42), y_ = (([] : List (S42))) := ⟨_, rfl⟩
     replace H : (if 0 ≤ (wrap64 (a2_1 - 1)) then (if (wrap64 (a2_1 - 1)) < (l0.length : Int) then (if 0 ≤ a2_0 then (if a2_0 ≤ (wrap64 (a2_0 + a3)) then (if (wrap64 (a2_0 + a3)) ≤ (((q23 l0 (wrap64 (a2_1 - 1))).f1).length : Int) then ((some ((((q23 l0 (wrap64 (a2_1 - 1))).f1).take ((wrap64 (a2_0 + a3)) : Int).toNat).drop (a2_0 : Int).toNat : List (S42))).bind fun y227 => (if y223.length + y227.length < 3518437208883 then ((crosstreeref10_Lay.f k l0 a1_0 a1_1 a1_2 (y223 ++ y227)).bind fun t235 => (some (t235, 0))) else (none))) else (none)) else (none)) else (none)) else (none)) else (none)) = some (r1, r2) := by first | (rw [hy223]; with_reducible exact H) | (have H2_ := (Option.bind_some _ _).symm.trans H; rw [hy223]; with_reducible exact H2_) | (have H2_ := (Option.bind_some _ _).symm.trans H; with_reducible exact H2_) | with_reducible exact H | (rw [hy223]; exact H) | exact H
     have Ny223 := Aside0.mk hy223
     clear hy223
     obtain ⟨ji15, hji15⟩ : ∃ j_ : Int, (wrap64 (a2_1 - 1)) = j_ := ⟨_, rfl⟩
     replace H : (if 0 ≤ (ji15) then (if (ji15) < (l0.length : Int) then (if 0 ≤ a2_0 then (if a2_0 ≤ (wrap64 (a2_0 + a3)) then (if (wrap64 (a2_0 + a3)) ≤ (((q23 l0 (ji15)).f1).length : Int) then ((some ((((q23 l0 (ji15)).f1).take ((wrap64 (a2_0 + a3)) : Int).toNat).drop (a2_0 : Int).toNat : List (S42))).bind fun y227 => (if y223.length + y227.length < 3518437208883 then ((crosstreeref10_Lay.f k l0 a1_0 a1_1 a1_2 (y223 ++ y227)).bind fun t235 => (some (t235, 0))) else (none))) else (none)) else (none)) else (none)) else (none)) else (none)) = some (r1, r2) := by first | (rw [hji15] at H; exact H) | (simp only [hji15] at H ⊢; exact H)
     (try rw [hji15] at A11)
     (try rw [hji15] at A13)
     have hji15w : (IntKind.i64.wrap (a2_1 - 1)) = ji15 := (i64_w _).trans hji15
     by_cases c16 : 0 ≤ (ji15)
     ·rw [if_pos c16] at H
      have c16b0 : decide (0 ≤ (ji15)) = true := decide_eq_true c16
      clear c16
      by_cases c17 : (ji15) < (l0.length : Int)
      ·rw [if_pos c17] at H
       have c17b0 : decide ((ji15) < (l0.length : Int)) = true := decide_eq_true c17
       clear c17
       by_cases c18 : 0 ≤ a2_0
       ·rw [if_pos c18] at H
        have c18b0 := eq_true c18
        have c18b1 : decide (0 ≤ a2_0) = true := decide_eq_true c18
        clear c18
        by_cases c19 : a2_0 ≤ (wrap64 (a2_0 + a3))
        ·rw [if_pos c19] at H
         have c19b0 := eq_true c19
         have c19b1 : decide (a2_0 ≤ (wrap64 (a2_0 + a3))) = true := decide_eq_true c19
         by_cases c20 : (wrap64 (a2_0 + a3)) ≤ (((q23 l0 (ji15)).f1).length : Int)
         ·rw [if_pos c20] at H
          have c20b0 := eq_true c20
          have c20b1 : decide ((wrap64 (a2_0 + a3)) ≤ (((q23 l0 (ji15)).f1).length : Int)) = true := decide_eq_true c20
          obtain ⟨y227, hy227⟩ : ∃ y_ : List (S42), y_ = ((((q23 l0 (ji15)).f1).take ((wrap64 (a2_0 + a3)) : Int).toNat).drop (a2_0 : Int).toNat) := ⟨_, rfl⟩
          replace H : (if y223.length + y227.length < 3518437208883 then ((crosstreeref10_Lay.f k l0 a1_0 a1_1 a1_2 (y223 ++ y227)).bind fun t235 => (some (t235, 0))) else (none)) = some (r1, r2) := by first | (rw [hy227]; with_reducible exact H) | (have H2_ := (Option.bind_some _ _).symm.trans H; rw [hy227]; with_reducible exact H2_) | (have H2_ := (Option.bind_some _ _).symm.trans H; with_reducible exact H2_) | with_reducible exact H | (rw [hy227]; exact H) | exact H
          have Ny227 := Aside0.mk hy227
          clear hy227
          by_cases c21 : y223.length + y227.length < 3518437208883
          ·rw [if_pos c21] at H
           have LMc21 := Aside0.mk c21
           clear c21
           obtain ⟨y232, hy232⟩ : ∃ y_ : List (S42), y_ = (y223 ++ y227) := ⟨_, rfl⟩
           replace H : ((crosstreeref10_Lay.f k l0 a1_0 a1_1 a1_2 y232).bind fun t235 => (some (t235, 0))) = some (r1, r2) := by first | (rw [hy232]; with_reducible exact H) | (have H2_ := (Option.bind_some _ _).symm.trans H; rw [hy232]; with_reducible exact H2_) | (have H2_ := (Option.bind_some _ _).symm.trans H; with_reducible exact H2_) | with_reducible exact H | (rw [hy232]; exact H) | exact H
           have Ny232 := Aside0.mk hy232
           clear hy232
           replace H := Option.bind_eq_some_iff.mp H
           obtain ⟨t235, A220, H⟩ := H
           replace H : (some (t235, 0)) = some (r1, r2) := H
           have A22 := Aside0.mk A220
           clear A220
           simp only [Option.some.injEq, Prod.mk.injEq] at H
           obtain ⟨rfl, rfl⟩ := H
           go_enter Try.func27, Try.ntmps27
           try go_wp2_with (first | ((with_reducible refine q32 (N := 5) rfl ?_); refine q29 ?hg (N := 5) ?hd (cs := #[.int .i64 a1_0, .int .i64 a1_1, .int .i64 a1_2]) (t := 23) ?hr ?_; (case hd => rfl); (case hg => rfl); (case hr => first | (go_simp; done) | (go_simp; rfl)); intro gb219 hg w23 hbox hb; have n0_ := Aside0.mk (Kd.V_below (Kd.V_elderB (by (with_reducible repeat (first | apply Kd.V_alloc | apply Kd.V_drewN | apply Kd.V_drew)); exact HO0.out) gb219 (Nat.le_of_eq hg.symm)) hb); have n1_ := Aside0.mk (q20 (by repeat (first | (with_reducible first | exact HB.out | apply q10 | apply q9 | apply q11) | exact HB.out)) hb); have n2_ := Aside0.mk (hbox); have n3_ := Aside0.mk ((by rw [hg]; exact (q21 (by repeat (first | (with_reducible first | exact HB.out | apply q10 | apply q9 | apply q11) | exact HB.out))) : w.heap.size ≤ gb219)); have n4_ := Aside0.mk ((by rw [hg]; exact (q21 (by repeat (first | (with_reducible first | exact HB.out | apply q10 | apply q9 | apply q11) | exact HB.out))) : w.heap.size ≤ gb219)); clear HO0; clear HB; have HO0 := n0_; have HB := n1_; have BK219 := n2_; have GW219 := n3_; have GE219 := n4_; clear n0_ n1_ n2_ n3_ n4_; clear hb hbox hg) | ((with_reducible refine q32 (N := 6) rfl ?_); refine q29 ?hg (N := 6) ?hd (cs := #[.int .i64 a2_0, .int .i64 a2_1, .int .i64 a2_2]) (t := 23) ?hr ?_; (case hd => rfl); (case hg => rfl); (case hr => first | (go_simp; done) | (go_simp; rfl)); intro gb220 hg w24 hbox hb; have n0_ := Aside0.mk (Kd.V_below (Kd.V_elderB (by (with_reducible repeat (first | apply Kd.V_alloc | apply Kd.V_drewN | apply Kd.V_drew)); exact HO0.out) gb220 (Nat.le_of_eq hg.symm)) hb); have n1_ := Aside0.mk (q19 (g := gb219) (o := .cells #[.int .i64 a1_0, .int .i64 a1_1, .int .i64 a1_2] 23 (0, 0)) (by (with_reducible repeat (first | refine q13 ?_ _ | refine q15 ?_ | refine q12 ?_ _)); exact BK219.out) hb); have n2_ := Aside0.mk (q20 (by repeat (first | (with_reducible first | exact HB.out | apply q10 | apply q9 | apply q11 | refine q14 ?_ GE219.out) | exact HB.out)) hb); have n3_ := Aside0.mk (hbox); have n4_ := Aside0.mk ((by rw [hg]; exact (q21 (by repeat (first | (with_reducible first | exact HB.out | apply q10 | apply q9 | apply q11 | refine q14 ?_ GE219.out) | exact HB.out))) : w.heap.size ≤ gb220)); have n5_ := Aside0.mk ((by rw [hg]; exact (q21 (by repeat (first | (with_reducible first | exact HB.out | apply q10 | apply q9 | apply q11 | refine q14 ?_ GE219.out) | exact HB.out))) : w.heap.size ≤ gb220)); have n6_ := Aside0.mk ((by rw [hg]; exact Nat.ne_of_lt (q30 (g := gb219) (o := .cells #[.int .i64 a1_0, .int .i64 a1_1, .int .i64 a1_2] 23 (0, 0)) (by (with_reducible repeat (first | refine q13 ?_ _ | refine q15 ?_ | refine q12 ?_ _)); exact BK219.out)) : gb219 ≠ gb220)); have n7_ := Aside0.mk ((by rw [hg]; exact Nat.ne_of_gt (q30 (g := gb219) (o := .cells #[.int .i64 a1_0, .int .i64 a1_1, .int .i64 a1_2] 23 (0, 0)) (by (with_reducible repeat (first | refine q13 ?_ _ | refine q15 ?_ | refine q12 ?_ _)); exact BK219.out)) : gb220 ≠ gb219)); clear HO0; clear BK219; clear HB; have HO0 := n0_; have BK219 := n1_; have HB := n2_; have BK220 := n3_; have GW220 := n4_; have GE220 := n5_; have NB219_220 := n6_; have NB220_219 := n7_; clear n0_ n1_ n2_ n3_ n4_ n5_ n6_ n7_; clear hb hbox hg; have hnb25 := NB219_220.out; have hnc25 := NB220_219.out; have hcz26_0 : w24.cell? ⟨gb219, 0, none⟩ = some (.int .i64 a1_0) := (q16 BK219.out 0).trans rfl; have hcz26_1 : w24.cell? ⟨gb219, 1, none⟩ = some (.int .i64 a1_1) := (q16 BK219.out 1).trans rfl; have hcz26_2 : w24.cell? ⟨gb219, 2, none⟩ = some (.int .i64 a1_2) := (q16 BK219.out 2).trans rfl; have hfz26_0 := q0 BK219.out 0; have hfz26_1 := q0 BK219.out 1; have hfz26_2 := q0 BK219.out 2) | (go_at_call 42; (with_reducible refine (crosstreeref10_May.calls _ _ l0 a1_0 a1_1 a1_2 a3 true _ ?side1 ?side2 A11.out).mono ?_); (case side1 => repeat (first | exact (Kd.V_reads' HO0.out).2.2 | (with_reducible refine Kd.C_alloc ?_ _) | (with_reducible refine Kd.C_drewN ?_ _) | (with_reducible refine Kd.C_drew ?_))); (case side2 => exact (Kd.V_reads' HO0.out).2.1); rintro e w27 ⟨rfl, hb⟩; have n0_ := Aside0.mk (Kd.V_below (by (with_reducible repeat (first | apply Kd.V_alloc | apply Kd.V_drewN | apply Kd.V_drew)); exact HO0.out) hb); have n1_ := Aside0.mk (q19 (g := gb219) (o := .cells #[.int .i64 a1_0, .int .i64 a1_1, .int .i64 a1_2] 23 (0, 0)) (by (with_reducible repeat (first | refine q13 ?_ _ | refine q15 ?_ | refine q12 ?_ _)); exact BK219.out) hb); have n2_ := Aside0.mk (q19 (g := gb220) (o := .cells #[.int .i64 a2_0, .int .i64 a2_1, .int .i64 a2_2] 23 (0, 0)) (by (with_reducible repeat (first | refine q13 ?_ _ | refine q15 ?_ | refine q12 ?_ _)); exact BK220.out) hb); have n3_ := Aside0.mk (q20 (by repeat (first | (with_reducible first | exact HB.out | apply q10 | apply q9 | apply q11 | refine q14 ?_ GE219.out | refine q14 ?_ GE220.out) | exact HB.out)) hb); clear HO0; clear BK219; clear BK220; clear HB; have HO0 := n0_; have BK219 := n1_; have BK220 := n2_; have HB := n3_; clear n0_ n1_ n2_ n3_; (try clear hb); (try clear hb2); (try clear hk); (try clear hi); have hcz28_0 : w27.cell? ⟨gb220, 0, none⟩ = some (.int .i64 a2_0) := (q16 BK220.out 0).trans rfl; have hcz28_1 : w27.cell? ⟨gb220, 1, none⟩ = some (.int .i64 a2_1) := (q16 BK220.out 1).trans rfl; have hcz28_2 : w27.cell? ⟨gb220, 2, none⟩ = some (.int .i64 a2_2) := (q16 BK220.out 2).trans rfl; have hfz28_0 := q0 BK220.out 0; have hfz28_1 := q0 BK220.out 1; have hfz28_2 := q0 BK220.out 2) | (go_at_call 42; (with_reducible refine (crosstreeref10_May.calls _ _ l0 a2_0 a2_1 a2_2 a3 true _ ?side1 ?side2 A13.out).mono ?_); (case side1 => repeat (first | exact (Kd.V_reads' HO0.out).2.2 | (with_reducible refine Kd.C_alloc ?_ _) | (with_reducible refine Kd.C_drewN ?_ _) | (with_reducible refine Kd.C_drew ?_))); (case side2 => exact (Kd.V_reads' HO0.out).2.1); rintro e w29 ⟨rfl, hb⟩; have n0_ := Aside0.mk (Kd.V_below (by (with_reducible repeat (first | apply Kd.V_alloc | apply Kd.V_drewN | apply Kd.V_drew)); exact HO0.out) hb); have n1_ := Aside0.mk (q19 (g := gb219) (o := .cells #[.int .i64 a1_0, .int .i64 a1_1, .int .i64 a1_2] 23 (0, 0)) (by (with_reducible repeat (first | refine q13 ?_ _ | refine q15 ?_ | refine q12 ?_ _)); exact BK219.out) hb); have n2_ := Aside0.mk (q19 (g := gb220) (o := .cells #[.int .i64 a2_0, .int .i64 a2_1, .int .i64 a2_2] 23 (0, 0)) (by (with_reducible repeat (first | refine q13 ?_ _ | refine q15 ?_ | refine q12 ?_ _)); exact BK220.out) hb); have n3_ := Aside0.mk (q20 (by repeat (first | (with_reducible first | exact HB.out | apply q10 | apply q9 | apply q11 | refine q14 ?_ GE219.out | refine q14 ?_ GE220.out) | exact HB.out)) hb); clear HO0; clear BK219; clear BK220; clear HB; have HO0 := n0_; have BK219 := n1_; have BK220 := n2_; have HB := n3_; clear n0_ n1_ n2_ n3_; (try clear hb); (try clear hb2); (try clear hk); (try clear hi)))
           have n0_ := Aside0.mk (Kd.V_drew HO0.out)
           have n1_ := Aside0.mk (q15 BK219.out)
           have n2_ := Aside0.mk (q15 BK220.out)
           have n3_ := Aside0.mk (q11 HB.out)
           clear HO0
           clear BK219
           clear BK220
           clear HB
           have HO0 := n0_
           have BK219 := n1_
           have BK220 := n2_
           have HB := n3_
           clear n0_ n1_ n2_ n3_
           have p226 : 0 ≤ ((ji15) : Int) := of_decide_eq_true (by first | (with_reducible assumption) | assumption)
           have q226 : (ji15) < (l0.length : Int) := of_decide_eq_true (by first | (with_reducible assumption) | assumption)
           obtain ⟨ad226, A226_1, c226_1, e226, hx226_0, hx226_1, hx226_2, hl226_1, hi226_1⟩ := at_T69 (Kd.V_reads' HO0.out).2.2 (ji15) p226 q226
           cases e226
           obtain ⟨ce226, hce226, hMe226, hcc226⟩ := Kd.V_get HO0.out z69 (ji15) p226 (by first | exact q226 | exact of_decide_eq_true (by first | (with_reducible assumption) | assumption) | (have e_ := (Kd.V_reads' HO0.out).1; omega))
           obtain ⟨ua226_1, uc226_1, rfl, ul226_1, ge226_1⟩ := k69_openF hMe226
           have hv226_1 := hcc226 1 _ rfl
           rw [add_field _ _ 1 (by omega)] at hv226_1
           replace hv226_1 := Option.some.inj (hv226_1.symm.trans hx226_1)
           injection hv226_1 with hva_ hvn_ hvc_
           rw [hva_] at ge226_1
           rw [hvc_] at ul226_1
           have HL226_1 := Aside0.mk (show Kd.V k42 42 _ w.heap.size _ _ ((q23 l0 (ji15)).f1) from Kd.V_mk ul226_1 ge226_1)
           clear hva_ hvn_ hvc_ ge226_1 ul226_1
           clear hcc226 hce226
           have HR226_1 := Aside0.mk hi226_1
           have HC226_1 := Aside0.mk hl226_1
           clear hi226_1 hl226_1
           replace p226 := eq_true p226
           replace q226 := eq_true q226
           have q31 : ((wrap64 (a2_0 + a3)) : Int) ≤ ((((q23 l0 (ji15)).f1).length : Int) : Int) := of_decide_eq_true (by first | (with_reducible assumption) | assumption)
           obtain ⟨i031, hi031, _, hsz31, _⟩ := info_parts info42
           have hroom31 : ((q23 l0 (ji15)).f1).length ≤ c226_1 := HC226_1.out
           have hC31 : Kd.F k42 _ _ A226_1 ((q23 l0 (ji15)).f1).length ((q23 l0 (ji15)).f1) := (Kd.V_at (base := w.heap.size) HL226_1.out).2.2
           have ql31 : (a2_0 : Int) ≤ ((wrap64 (a2_0 + a3)) : Int) := of_decide_eq_true (by first | (with_reducible assumption) | assumption)
           have q031 : (0 : Int) ≤ (a2_0 : Int) := of_decide_eq_true (by first | (with_reducible assumption) | assumption)
           have hcut31 := cut_mid (P := Try.prog) 38 42 .i64 .i64 Try.underlying38 hi031 5 hsz31 A226_1 ((q23 l0 (ji15)).f1).length c226_1 a2_0 (wrap64 (a2_0 + a3)) q031 ql31 q31 hroom31
           have hr31 := Kd.F_mid (lo := (a2_0 : Int).toNat) (hi := ((wrap64 (a2_0 + a3)) : Int).toNat) (c := c226_1) hC31 (by omega) (by omega) hroom31
           obtain ⟨A31, hA31⟩ : ∃ A1, A1 = (if c226_1 = (a2_0 : Int).toNat then A226_1 else (A226_1 : Option Addr).map (·.add ((a2_0 : Int).toNat * 5))) := ⟨_, rfl⟩
           obtain ⟨c31, hc31⟩ : ∃ c1, c1 = c226_1 - (a2_0 : Int).toNat := ⟨_, rfl⟩
           have hy31 : y227.length = ((wrap64 (a2_0 + a3)) : Int).toNat - (a2_0 : Int).toNat := (by rw [Ny227.out, List.length_drop, List.length_take] <;> omega)
           rw [show (((q23 l0 (ji15)).f1).take ((wrap64 (a2_0 + a3)) : Int).toNat).drop (a2_0 : Int).toNat = y227 from Ny227.out.symm] at hr31
           replace hr31 : Kd.F k42 _ _ A31 y227.length y227 := (by rw [hA31]; exact hr31)
           rw [← hy31, ← hA31, ← hc31] at hcut31
           have HO231 := Aside0.mk (show Kd.V k42 42 _ w.heap.size _ (.slice A31 y227.length c31) y227 from Kd.V_mk (by rw [hy31, hc31]; exact Nat.sub_le_sub_right (Nat.le_trans (by omega) hroom31) _) hr31)
           have HC231 := Aside0.mk (show y227.length ≤ c31 from by rw [hy31, hc31]; exact Nat.sub_le_sub_right (Nat.le_trans (by omega) hroom31) _)
           clear hr31 hC31 hroom31 hi031 hsz31 hc31
           have KY31 := Aside0.mk hy31
           have KA31 := Aside0.mk hA31
           clear hy31 hA31
           replace q31 := eq_true q31
           refine start_ (n := 17) (S := fun w' => w'.cell? ⟨gb220, 0, none⟩ = some (.int .i64 a2_0) ∧ w'.cell? ⟨gb220, 1, none⟩ = some (.int .i64 a2_1) ∧ w'.cell? ⟨gb220, 2, none⟩ = some (.int .i64 a2_2) ∧ w'.cell? (ad226.add (((ji15)).toNat * 3)) = some (.int .i64 ((q23 l0 (ji15)).f0)) ∧ w'.cell? ⟨(ad226.add (((ji15)).toNat * 3)).block, (ad226.add (((ji15)).toNat * 3)).off + 1, none⟩ = some (.slice A226_1 ((q23 l0 (ji15)).f1).length c226_1) ∧ w'.cell? ⟨(ad226.add (((ji15)).toNat * 3)).block, (ad226.add (((ji15)).toNat * 3)).off + 2, none⟩ = some (.bool ((q23 l0 (ji15)).f2))) (ds := [15]) #[false, false, false, false, false, false, false, false, false, false, false, false, false, false, false, false, false] (by kernel_rfl) rfl rfl ⟨(q16 BK220.out 0).trans rfl, (q16 BK220.out 1).trans rfl, (q16 BK220.out 2).trans rfl, hx226_0, hx226_1, hx226_2⟩ (fun hHeld => ?_); refine with_tabW crosstreeref10_Copy.tab3 crosstreeref10_Copy.bits3 (fun HT_ HW_ => ?_)
           generalize w29.drew = w30 at HO0 BK219 BK220 HB HL226_1 HO231 HR226_1 hx226_0 hx226_1 hx226_2 hHeld ⊢
           refine pure_ (i := 1) (N := some 33) (v := ?_) (a' := ?_) #[false, true, false, false, false, false, false, false, false, false, false, false, false, false, false, false, false] rfl rfl (any_of HT_.out (by kernel_rfl)) (fun _ _ _ h => h) (Or.inl ⟨by rfl, ?_⟩) ?_ ?_
           rotate_left
           ·intro w'
            go_simp
            with_reducible rfl
           rotate_left
           ·simp only [Act.put, List.setIfInBounds_toArray, List.set_cons_zero, List.set_cons_succ, i64_w, i32_w]
            rfl
           refine pure_ (i := 2) (N := some 34) (v := ?_) (a' := ?_) #[false, true, true, false, false, false, false, false, false, false, false, false, false, false, false, false, false] rfl rfl (any_of HT_.out (by kernel_rfl)) (fun _ _ _ h => h) (Or.inl ⟨by rfl, ?_⟩) ?_ ?_
           rotate_left
           ·intro w'
            go_simp
            with_reducible rfl
           rotate_left
           ·simp only [Act.put, List.setIfInBounds_toArray, List.set_cons_zero, List.set_cons_succ, i64_w, i32_w]
            rfl
           refine pure_ (i := 8) (N := some 40) (v := ?_) (a' := ?_) #[false, true, true, false, false, false, false, false, true, false, false, false, false, false, false, false, false] rfl rfl (any_of HT_.out (by kernel_rfl)) (fun _ _ _ h => h) (Or.inl ⟨by rfl, ?_⟩) ?_ ?_
           rotate_left
           ·intro w'
            go_simp
            with_reducible rfl
           rotate_left
           ·simp only [Act.put, List.setIfInBounds_toArray, List.set_cons_zero, List.set_cons_succ, i64_w, i32_w]
            rfl
           refine pure_ (i := 10) (N := some 42) (v := ?_) (a' := ?_) #[false, true, true, false, false, false, false, false, true, false, true, false, false, false, false, false, false] rfl rfl (any_of HT_.out (by kernel_rfl)) (fun _ _ _ h => h) (Or.inl ⟨by rfl, ?_⟩) ?_ ?_
           rotate_left
           ·intro w'
            go_simp
            with_reducible rfl
           rotate_left
           ·simp only [Act.put, List.setIfInBounds_toArray, List.set_cons_zero, List.set_cons_succ, i64_w, i32_w]
            rfl
           refine pure_ (i := 12) (N := some 44) (v := ?_) (a' := ?_) #[false, true, true, false, false, false, false, false, true, false, true, false, true, false, false, false, false] rfl rfl (any_of HT_.out (by kernel_rfl)) (fun _ _ _ h => h) (Or.inl ⟨by rfl, ?_⟩) ?_ ?_
           rotate_left
           ·intro w'
            go_simp
            with_reducible rfl
           rotate_left
           ·simp only [Act.put, List.setIfInBounds_toArray, List.set_cons_zero, List.set_cons_succ, i64_w, i32_w]
            rfl
           refine take_ (i := 3) (N := some 35) (v := ?_) (a' := ?_) #[false, true, true, true, false, false, false, false, true, false, true, false, true, false, false, false, false] rfl rfl (take_ofW HT_.out HW_.out (by kernel_rfl)) (fun _ _ _ h => h) (Or.inl ⟨by rfl, ?_⟩) hHeld ?_ ?_
           rotate_left
           ·rintro w' ⟨s0, s1, s2, s3, s4, s5⟩
            go_simp
            with_reducible rfl
           rotate_left
           ·simp only [Act.put, List.setIfInBounds_toArray, List.set_cons_zero, List.set_cons_succ, i64_w, i32_w]
            rfl
           refine pure_ (i := 4) (N := some 36) (v := ?_) (a' := ?_) #[false, true, true, true, true, false, false, false, true, false, true, false, true, false, false, false, false] rfl rfl (any_of HT_.out (by kernel_rfl)) (fun _ _ _ h => h) (Or.inl ⟨by rfl, ?_⟩) ?_ ?_
           rotate_left
           ·intro w'
            go_simp
            with_reducible rfl
           rotate_left
           ·simp only [Act.put, List.setIfInBounds_toArray, List.set_cons_zero, List.set_cons_succ, i64_w, i32_w]
            rfl
           refine pure_ (i := 5) (N := some 37) (v := ?_) (a' := ?_) #[false, true, true, true, true, true, false, false, true, false, true, false, true, false, false, false, false] rfl rfl (any_of HT_.out (by kernel_rfl)) (fun _ _ _ h => h) (Or.inl ⟨by rfl, ?_⟩) ?_ ?_
           rotate_left
           ·intro w'
            go_simp
            with_reducible rfl
           rotate_left
           ·simp only [Act.put, List.setIfInBounds_toArray, List.set_cons_zero, List.set_cons_succ, i64_w, i32_w]
            rfl
           refine pure_ (i := 6) (N := some 38) (v := ?_) (a' := ?_) #[false, true, true, true, true, true, true, false, true, false, true, false, true, false, false, false, false] rfl rfl (any_of HT_.out (by kernel_rfl)) (fun _ _ _ h => h) (Or.inl ⟨by rfl, ?_⟩) ?_ ?_
           rotate_left
           ·intro w'
            go_simp
            with_reducible rfl
           rotate_left
           ·simp only [Act.put, List.setIfInBounds_toArray, List.set_cons_zero, List.set_cons_succ, i64_w, i32_w]
            rfl
           refine take_ (i := 7) (N := some 39) (v := ?_) (a' := ?_) #[false, true, true, true, true, true, true, true, true, false, true, false, true, false, false, false, false] rfl rfl (take_ofW HT_.out HW_.out (by kernel_rfl)) (fun _ _ _ h => h) (Or.inl ⟨by rfl, ?_⟩) hHeld ?_ ?_
           rotate_left
           ·rintro w' ⟨s0, s1, s2, s3, s4, s5⟩
            go_simp
            with_reducible rfl
           rotate_left
           ·simp only [Act.put, List.setIfInBounds_toArray, List.set_cons_zero, List.set_cons_succ, i64_w, i32_w]
            rfl
           refine take_ (i := 9) (N := some 41) (v := ?_) (a' := ?_) #[false, true, true, true, true, true, true, true, true, true, true, false, true, false, false, false, false] rfl rfl (take_ofW HT_.out HW_.out (by kernel_rfl)) (fun _ _ _ h => h) (Or.inl ⟨by rfl, ?_⟩) hHeld ?_ ?_
           rotate_left
           ·rintro w' ⟨s0, s1, s2, s3, s4, s5⟩
            go_simp
            with_reducible rfl
           rotate_left
           ·simp only [Act.put, List.setIfInBounds_toArray, List.set_cons_zero, List.set_cons_succ, i64_w, i32_w]
            rfl
           refine take_ (i := 11) (N := some 43) (v := ?_) (a' := ?_) #[false, true, true, true, true, true, true, true, true, true, true, true, true, false, false, false, false] rfl rfl (take_ofW HT_.out HW_.out (by kernel_rfl)) (fun _ _ _ h => h) (Or.inl ⟨by rfl, ?_⟩) hHeld ?_ ?_
           rotate_left
           ·rintro w' ⟨s0, s1, s2, s3, s4, s5⟩
            go_simp
            with_reducible rfl
           rotate_left
           ·simp only [Act.put, List.setIfInBounds_toArray, List.set_cons_zero, List.set_cons_succ, i64_w, i32_w]
            rfl
           refine pure_ (i := 13) (N := some 45) (v := ?_) (a' := ?_) #[false, true, true, true, true, true, true, true, true, true, true, true, true, true, false, false, false] rfl rfl (any_of HT_.out (by kernel_rfl)) (fun _ _ _ h => h) (Or.inl ⟨by rfl, ?_⟩) ?_ ?_
           rotate_left
           ·intro w'
            go_simp
            with_reducible rfl
           rotate_left
           ·simp only [Act.put, List.setIfInBounds_toArray, List.set_cons_zero, List.set_cons_succ, i64_w, i32_w]
            rfl
           refine pure_ (i := 14) (N := some 46) (v := ?_) (a' := ?_) #[false, true, true, true, true, true, true, true, true, true, true, true, true, true, true, false, false] rfl rfl (any_of HT_.out (by kernel_rfl)) (fun _ _ _ h => h) (Or.inl ⟨by rfl, ?_⟩) ?_ ?_
           rotate_left
           ·intro w'
            go_simp
            with_reducible rfl
           rotate_left
           ·simp only [Act.put, List.setIfInBounds_toArray, List.set_cons_zero, List.set_cons_succ, i64_w, i32_w]
            rfl
           refine one_ (i := 0) (N := some 32) #[true, true, true, true, true, true, true, true, true, true, true, true, true, true, true, false, false] rfl rfl (one_of HT_.out (by kernel_rfl)) (by decide) (fun K hK => ?_)
           refine Kd.R_lit_step k42 _ 42 ?hg (N := 32) ?hd (xs := ([] : List (S42))) (inner := []) (ok := fun _ => True) (okp := fun _ => True) ?hr ?hp (fun _ hk => hk) trivial (Below.refl _ _) (Nat.le_refl _) (by simp) ?_; (case hd => rfl); (case hg => rfl); (case hr => first | (go_simp; done) | (go_simp; rfl)); (case hp => exact (Reps.none _ _))
           intro v224 w32 ho33 hb hg_ hnew_
           have HS3_ := (hb.cell (World.block_lt_of_cell? _ _ (hHeld.2.2.2.1))).trans (hHeld.2.2.2.1)
           have HS4_ := (hb.cell (World.block_lt_of_cell? _ _ (hHeld.2.2.2.2.1))).trans (hHeld.2.2.2.2.1)
           have HS5_ := (hb.cell (World.block_lt_of_cell? _ _ (hHeld.2.2.2.2.2))).trans (hHeld.2.2.2.2.2)
           clear hg_ hnew_
           (first | rw [← Ny223.out] at ho33 | (simp only [Int.reduceToNat] at ho33; rw [← Ny223.out] at ho33))
           have n0_ := Aside0.mk (Kd.V_elder' (by (with_reducible repeat (first | apply Kd.V_alloc | apply Kd.V_drewN | apply Kd.V_drew)); exact HO0.out) (Kd.R_base ho33) hb)
           have n1_ := Aside0.mk (Kd.V_elder' (by (with_reducible repeat (first | apply Kd.V_alloc | apply Kd.V_drewN | apply Kd.V_drew)); exact HL226_1.out) (Kd.R_base ho33) hb)
           have n2_ := Aside0.mk (Kd.V_elder' (by (with_reducible repeat (first | apply Kd.V_alloc | apply Kd.V_drewN | apply Kd.V_drew)); exact HO231.out) (Kd.R_base ho33) hb)
           have n3_ := Aside0.mk (Kd.R_lower (Kd.R_newM (M := fun k_ => (w.heap.size ≤ k_)) ho33 (q21 (by repeat (first | (with_reducible first | exact HB.out | apply q10 | apply q9 | apply q11 | refine q14 ?_ GE219.out | refine q14 ?_ GE220.out) | exact HB.out))) (fun k_ h_ => h_)) (q21 (by repeat (first | (with_reducible first | exact HB.out | apply q10 | apply q9 | apply q11 | refine q14 ?_ GE219.out | refine q14 ?_ GE220.out) | exact HB.out))))
           have n4_ := Aside0.mk (q19 (g := gb219) (o := .cells #[.int .i64 a1_0, .int .i64 a1_1, .int .i64 a1_2] 23 (0, 0)) (by (with_reducible repeat (first | refine q13 ?_ _ | refine q15 ?_ | refine q12 ?_ _)); exact BK219.out) hb)
           have n5_ := Aside0.mk (q19 (g := gb220) (o := .cells #[.int .i64 a2_0, .int .i64 a2_1, .int .i64 a2_2] 23 (0, 0)) (by (with_reducible repeat (first | refine q13 ?_ _ | refine q15 ?_ | refine q12 ?_ _)); exact BK220.out) hb)
           have n6_ := Aside0.mk (Kd.C_below (by repeat (first | (with_reducible exact HR226_1.out) | (with_reducible refine Kd.C_alloc ?_ _) | (with_reducible refine Kd.C_drewN ?_ _) | (with_reducible refine Kd.C_drew ?_) | exact HR226_1.out)) hb)
           have n7_ := Aside0.mk (q20 (by repeat (first | (with_reducible first | exact HB.out | apply q10 | apply q9 | apply q11 | refine q14 ?_ GE219.out | refine q14 ?_ GE220.out) | exact HB.out)) hb)
           clear HO0
           clear HL226_1
           clear HO231
           clear BK219
           clear BK220
           clear HR226_1
           clear HB
           have HO0 := n0_
           have HL226_1 := n1_
           have HO231 := n2_
           have HO225 := n3_
           have BK219 := n4_
           have BK220 := n5_
           have HR226_1 := n6_
           have HB := n7_
           clear n0_ n1_ n2_ n3_ n4_ n5_ n6_ n7_
           clear hb ho33
           refine hK.out _ _ ⟨(q16 BK220.out 0).trans rfl, (q16 BK220.out 1).trans rfl, (q16 BK220.out 2).trans rfl, HS3_, HS4_, HS5_⟩ (fun hHeld => ?_)
           clear hK K
           refine norm_ (a' := ?_) ?_ ?_
           rotate_left
           ·show Act.put _ (some 32) _ = _
            simp only [Act.put, List.setIfInBounds_toArray, List.set_cons_zero, List.set_cons_succ, i64_w, i32_w]
            rfl
           refine last_ (i := 15) (N := some 47) #[true, true, true, true, true, true, true, true, true, true, true, true, true, true, true, true, false] rfl rfl (one_of HT_.out (by kernel_rfl)) (by decide) (fun K hK => ?_)
           refine Kd.R_append_rows_step k42 (w0 := w) w.heap.size (by rfl) (.tmp 32) (.tmp 46) 38 42 (.agg #[(.int .i64 0), (.int .u8 0), (.int .i64 0), (.int .i64 0), (.int .i64 0)]) 40 rfl Try.underlying38 info42 rfl (by decide) (by omega) v224 y223 y227 _ _ _ (fun k_ => (w.heap.size ≤ k_)) (fun _ => False) rfl rfl ?aO ?aR (fun _ _ h => h) (fun _ h => h.elim) ?aF ?aB ?aS ?aL ?_
           (case aR => repeat (first | exact (Kd.V_reads' HO231.out).2.2 | (with_reducible refine Kd.C_alloc ?_ _) | (with_reducible refine Kd.C_drewN ?_ _) | (with_reducible refine Kd.C_drew ?_)))
           (case aB => exact (by repeat (first | (with_reducible first | exact HB.out | apply q10 | apply q9 | apply q11 | refine q14 ?_ GE219.out | refine q14 ?_ GE220.out) | exact HB.out)))
           (case aF => exact (fun k_ hk => (Nat.le_trans (q21 (by repeat (first | (with_reducible first | exact HB.out | apply q10 | apply q9 | apply q11 | refine q14 ?_ GE219.out | refine q14 ?_ GE220.out) | exact HB.out))) hk)))
           (case aO => exact (by (with_reducible repeat (first | apply Kd.R_alloc | apply Kd.R_drewN | apply Kd.R_drew)); exact Kd.R_mono HO225.out (fun _ hk => hk.1)))
           (case aS => exact (q21 (by repeat (first | (with_reducible first | exact HB.out | apply q10 | apply q9 | apply q11 | refine q14 ?_ GE219.out | refine q14 ?_ GE220.out) | exact HB.out))))
           (case aL => have := LMc21.out; omega)
           intro v233 w34 ho hb hg hat
           rw [← Ny232.out] at ho
           have n0_ := Aside0.mk (Kd.V_afterv (ok := (fun k_ => (P0_ k_ ∨ w.heap.size ≤ k_) ∧ k_ ≠ gb219 ∧ k_ ≠ gb220)) (by (with_reducible repeat (first | apply Kd.V_alloc | apply Kd.V_drewN | apply Kd.V_drew)); exact Kd.V_mono HO0.out (fun _ hk => ⟨⟨hk.1.1.1, ⟨hk.1.1.2, hk.1.2⟩⟩, hk.2⟩)) hg hat)
           have n1_ := Aside0.mk (q45 (g := gb219) (o := .cells #[.int .i64 a1_0, .int .i64 a1_1, .int .i64 a1_2] 23 (0, 0)) (by (with_reducible repeat (first | refine q13 ?_ _ | refine q15 ?_ | refine q12 ?_ _)); exact BK219.out) hg (Kd.R_ne HO225.out BK219.out (by decide)))
           have n2_ := Aside0.mk (q45 (g := gb220) (o := .cells #[.int .i64 a2_0, .int .i64 a2_1, .int .i64 a2_2] 23 (0, 0)) (by (with_reducible repeat (first | refine q13 ?_ _ | refine q15 ?_ | refine q12 ?_ _)); exact BK220.out) hg (Kd.R_ne HO225.out BK220.out (by decide)))
           have n3_ := Aside0.mk (Kd.V_afterv (ok := (fun k_ => (P0_ k_ ∨ w.heap.size ≤ k_) ∧ k_ ≠ gb219 ∧ k_ ≠ gb220)) (by (with_reducible repeat (first | apply Kd.V_alloc | apply Kd.V_drewN | apply Kd.V_drew)); exact Kd.V_mono HL226_1.out (fun _ hk => ⟨⟨hk.1.1.1, ⟨hk.1.1.2, hk.1.2⟩⟩, hk.2⟩)) hg hat)
           have n4_ := Aside0.mk (Kd.V_afterv (ok := (fun k_ => (P0_ k_ ∨ w.heap.size ≤ k_) ∧ k_ ≠ gb219 ∧ k_ ≠ gb220)) (by (with_reducible repeat (first | apply Kd.V_alloc | apply Kd.V_drewN | apply Kd.V_drew)); exact Kd.V_mono HO231.out (fun _ hk => ⟨⟨hk.1.1.1, ⟨hk.1.1.2, hk.1.2⟩⟩, hk.2⟩)) hg hat)
           have n5_ := Aside0.mk (hb)
           have n6_ := Aside0.mk (ho)
           clear HO0
           clear BK219
           clear BK220
           clear HL226_1
           clear HO231
           clear HB
           clear HO225
           have HO0 := n0_
           have BK219 := n1_
           have BK220 := n2_
           have HL226_1 := n3_
           have HO231 := n4_
           have HB := n5_
           have HO234 := n6_
           clear n0_ n1_ n2_ n3_ n4_ n5_ n6_
           clear ho hb hg hat
           refine hK.out _ _ ?_
           clear hK K
           refine norm_ (a' := ?_) ?_ ?_
           rotate_left
           ·show Act.put _ (some 47) _ = _
            simp only [Act.put, List.setIfInBounds_toArray, List.set_cons_zero, List.set_cons_succ, i64_w, i32_w]
            rfl
           refine pure_ (i := 16) (N := some 10) (v := ?_) (a' := ?_) #[true, true, true, true, true, true, true, true, true, true, true, true, true, true, true, true, true] rfl rfl (any_of HT_.out (by kernel_rfl)) (fun _ _ _ h => h) (Or.inl ⟨by rfl, ?_⟩) ?_ ?_
           rotate_left
           ·intro w'
            go_simp
            with_reducible rfl
           rotate_left
           ·simp only [Act.put, List.setIfInBounds_toArray, List.set_cons_zero, List.set_cons_succ, i64_w, i32_w]
            rfl
           refine done_ (done_of HT_.out (by kernel_rfl)) ?_
           have hcz35_0 : w34.cell? ⟨gb219, 0, none⟩ = some (.int .i64 a1_0) := (q16 BK219.out 0).trans rfl
           have hcz35_1 : w34.cell? ⟨gb219, 1, none⟩ = some (.int .i64 a1_1) := (q16 BK219.out 1).trans rfl
           have hcz35_2 : w34.cell? ⟨gb219, 2, none⟩ = some (.int .i64 a1_2) := (q16 BK219.out 2).trans rfl
           have hfz35_0 := q0 BK219.out 0
           have hfz35_1 := q0 BK219.out 1
           have hfz35_2 := q0 BK219.out 2
           obtain ⟨Ao36, co36, eo36⟩ := Kd.R_slice HO234.out
           subst eo36
           try go_wp2_with (first | ((with_reducible refine q37 (f := 41) rfl ?_); refine goesL_ (some 51) rfl rfl Try.func41 (by kernel_rfl) rfl #[.slice (some ad226) l0.length c0, .agg #[.int .i64 a1_0, .int .i64 a1_1, .int .i64 a1_2], .slice Ao36 y232.length co36] rfl (by (try simp only [List.map_toArray, List.map_cons, List.map_nil]); first | done | rfl | (simp only [List.length_drop, List.length_take]; rfl)) ?_; (with_reducible refine (crosstreeref10_Lay.calls k (fun k_ => (((P0_ k_ ∨ w.heap.size ≤ k_) ∧ (k_ ≠ gb219 ∧ k_ ≠ gb220)) ∧ some k_ ≠ (.slice Ao36 y232.length co36 : Value).ownBlock)) _ _ l0 a1_0 a1_1 a1_2 _ _ y232 t235 _ ?side1 ?side2 ?side3 A22.out).mono ?_); (case side1 => exact HO0.out); (case side2 => repeat (first | exact (Kd.R_reads' HO234.out).2.2 | (with_reducible refine Kd.C_alloc ?_ _) | (with_reducible refine Kd.C_drewN ?_ _) | (with_reducible refine Kd.C_drew ?_))); (case side3 => exact (Kd.R_reads' HO234.out).2.1); rintro e w37 ⟨v236, rfl, ho0, hb⟩; refine ⟨_, rfl, ?_⟩; have n0_ := Aside0.mk (Kd.V_elder' (by (with_reducible repeat (first | apply Kd.V_alloc | apply Kd.V_drewN | apply Kd.V_drew)); exact HO0.out) (Kd.N_base ho0) hb); have n1_ := Aside0.mk (Kd.V_elder' (by (with_reducible repeat (first | apply Kd.V_alloc | apply Kd.V_drewN | apply Kd.V_drew)); exact HL226_1.out) (Kd.N_base ho0) hb); have n2_ := Aside0.mk (Kd.V_elder' (by (with_reducible repeat (first | apply Kd.V_alloc | apply Kd.V_drewN | apply Kd.V_drew)); exact HO231.out) (Kd.N_base ho0) hb); have n3_ := Aside0.mk (Kd.R_below (by (with_reducible repeat (first | apply Kd.R_alloc | apply Kd.R_drewN | apply Kd.R_drew)); exact HO234.out) hb); have n4_ := Aside0.mk (Kd.N_lower (Kd.N_mono (ok' := fun k_ => (P0_ k_ ∨ w.heap.size ≤ k_) ∧ some k_ ≠ (.slice Ao36 y232.length co36 : Value).ownBlock ∧ k_ ≠ gb219 ∧ k_ ≠ gb220) ho0 (fun k_ hk_ => ⟨Or.elim hk_ (fun hs_ => hs_.1.1) (fun hn_ => (.inr (Nat.le_trans (q21 (by repeat (first | (with_reducible first | exact HB.out | apply q10 | apply q9 | apply q11 | refine q14 ?_ GE219.out | refine q14 ?_ GE220.out) | exact HB.out))) hn_))), Or.elim hk_ (fun hs_ => hs_.2) (fun hn_ => (Kd.fresh' (Kd.R_lt (by (with_reducible repeat (first | apply Kd.R_alloc | apply Kd.R_drewN | apply Kd.R_drew)); exact HO234.out)) k_ hn_)), Or.elim hk_ (fun hs_ => hs_.1.2.1) (fun hn_ => (Kd.freshB (g := gb219) (o := .cells #[.int .i64 a1_0, .int .i64 a1_1, .int .i64 a1_2] 23 (0, 0)) (by (with_reducible repeat (first | refine q13 ?_ _ | refine q15 ?_ | refine q12 ?_ _)); exact BK219.out) k_ hn_)), Or.elim hk_ (fun hs_ => hs_.1.2.2) (fun hn_ => (Kd.freshB (g := gb220) (o := .cells #[.int .i64 a2_0, .int .i64 a2_1, .int .i64 a2_2] 23 (0, 0)) (by (with_reducible repeat (first | refine q13 ?_ _ | refine q15 ?_ | refine q12 ?_ _)); exact BK220.out) k_ hn_))⟩)) (q21 (by repeat (first | (with_reducible first | exact HB.out | apply q10 | apply q9 | apply q11 | refine q14 ?_ GE219.out | refine q14 ?_ GE220.out) | exact HB.out)))); have n5_ := Aside0.mk (q19 (g := gb219) (o := .cells #[.int .i64 a1_0, .int .i64 a1_1, .int .i64 a1_2] 23 (0, 0)) (by (with_reducible repeat (first | refine q13 ?_ _ | refine q15 ?_ | refine q12 ?_ _)); exact BK219.out) hb); have n6_ := Aside0.mk (q19 (g := gb220) (o := .cells #[.int .i64 a2_0, .int .i64 a2_1, .int .i64 a2_2] 23 (0, 0)) (by (with_reducible repeat (first | refine q13 ?_ _ | refine q15 ?_ | refine q12 ?_ _)); exact BK220.out) hb); have n7_ := Aside0.mk (q20 (by repeat (first | (with_reducible first | exact HB.out | apply q10 | apply q9 | apply q11 | refine q14 ?_ GE219.out | refine q14 ?_ GE220.out) | exact HB.out)) hb); clear HO0; clear HL226_1; clear HO231; clear HO234; clear BK219; clear BK220; clear HB; have HO0 := n0_; have HL226_1 := n1_; have HO231 := n2_; have HO234 := n3_; have HO237 := n4_; have BK219 := n5_; have BK220 := n6_; have HB := n7_; clear n0_ n1_ n2_ n3_ n4_ n5_ n6_ n7_; (try clear hb); (try clear hb2); (try clear hk); (try clear hi); (try clear ho0)))
           go_ret2
           exact ⟨_, by first | rfl | (simp [q26, q25] <;> rfl) | (simp only [← hji15]; first | rfl | (simp [q26, q25] <;> rfl)) | (simp [*, q26, q25] <;> rfl), Kd.N_V (by (with_reducible repeat (first | apply Kd.N_alloc | apply Kd.N_drewN | apply Kd.N_drew)); exact Kd.N_mono HO237.out (fun _ hk => hk.1)), by repeat (first | (with_reducible first | exact HB.out | apply q10 | apply q9 | apply q11 | refine q14 ?_ GE219.out | refine q14 ?_ GE220.out) | exact HB.out)⟩
          ·rw [if_neg c21] at H
           exact absurd H (by simp)
         ·rw [if_neg c20] at H
          exact absurd H (by simp)
        ·rw [if_neg c19] at H
         exact absurd H (by simp)
       ·rw [if_neg c18] at H
        exact absurd H (by simp)
      ·rw [if_neg c17] at H
       exact absurd H (by simp)
     ·rw [if_neg c16] at H
      exact absurd H (by simp)
    ·replace c14 := Bool.eq_false_iff.mpr c14
     subst c14
     have H1 : (some (l0, 9)) = some (r1, r2) := by rw [if_neg (show ¬ (false = true) by decide)] at H; exact H
     clear H
     have H := H1
     clear H1
     simp only [Option.some.injEq, Prod.mk.injEq] at H
     obtain ⟨rfl, rfl⟩ := H
     go_enter Try.func27, Try.ntmps27
     go_wp2_with (first | ((with_reducible refine q32 (N := 5) rfl ?_); refine q29 ?hg (N := 5) ?hd (cs := #[.int .i64 a1_0, .int .i64 a1_1, .int .i64 a1_2]) (t := 23) ?hr ?_; (case hd => rfl); (case hg => rfl); (case hr => first | (go_simp; done) | (go_simp; rfl)); intro gb219 hg w38 hbox hb; have n0_ := Aside0.mk (Kd.V_below (Kd.V_elderB (by (with_reducible repeat (first | apply Kd.V_alloc | apply Kd.V_drewN | apply Kd.V_drew)); exact HO0.out) gb219 (Nat.le_of_eq hg.symm)) hb); have n1_ := Aside0.mk (q20 (by repeat (first | (with_reducible first | exact HB.out | apply q10 | apply q9 | apply q11) | exact HB.out)) hb); have n2_ := Aside0.mk (hbox); have n3_ := Aside0.mk ((by rw [hg]; exact (q21 (by repeat (first | (with_reducible first | exact HB.out | apply q10 | apply q9 | apply q11) | exact HB.out))) : w.heap.size ≤ gb219)); have n4_ := Aside0.mk ((by rw [hg]; exact (q21 (by repeat (first | (with_reducible first | exact HB.out | apply q10 | apply q9 | apply q11) | exact HB.out))) : w.heap.size ≤ gb219)); clear HO0; clear HB; have HO0 := n0_; have HB := n1_; have BK219 := n2_; have GW219 := n3_; have GE219 := n4_; clear n0_ n1_ n2_ n3_ n4_; clear hb hbox hg) | ((with_reducible refine q32 (N := 6) rfl ?_); refine q29 ?hg (N := 6) ?hd (cs := #[.int .i64 a2_0, .int .i64 a2_1, .int .i64 a2_2]) (t := 23) ?hr ?_; (case hd => rfl); (case hg => rfl); (case hr => first | (go_simp; done) | (go_simp; rfl)); intro gb220 hg w39 hbox hb; have n0_ := Aside0.mk (Kd.V_below (Kd.V_elderB (by (with_reducible repeat (first | apply Kd.V_alloc | apply Kd.V_drewN | apply Kd.V_drew)); exact HO0.out) gb220 (Nat.le_of_eq hg.symm)) hb); have n1_ := Aside0.mk (q19 (g := gb219) (o := .cells #[.int .i64 a1_0, .int .i64 a1_1, .int .i64 a1_2] 23 (0, 0)) (by (with_reducible repeat (first | refine q13 ?_ _ | refine q15 ?_ | refine q12 ?_ _)); exact BK219.out) hb); have n2_ := Aside0.mk (q20 (by repeat (first | (with_reducible first | exact HB.out | apply q10 | apply q9 | apply q11 | refine q14 ?_ GE219.out) | exact HB.out)) hb); have n3_ := Aside0.mk (hbox); have n4_ := Aside0.mk ((by rw [hg]; exact (q21 (by repeat (first | (with_reducible first | exact HB.out | apply q10 | apply q9 | apply q11 | refine q14 ?_ GE219.out) | exact HB.out))) : w.heap.size ≤ gb220)); have n5_ := Aside0.mk ((by rw [hg]; exact (q21 (by repeat (first | (with_reducible first | exact HB.out | apply q10 | apply q9 | apply q11 | refine q14 ?_ GE219.out) | exact HB.out))) : w.heap.size ≤ gb220)); have n6_ := Aside0.mk ((by rw [hg]; exact Nat.ne_of_lt (q30 (g := gb219) (o := .cells #[.int .i64 a1_0, .int .i64 a1_1, .int .i64 a1_2] 23 (0, 0)) (by (with_reducible repeat (first | refine q13 ?_ _ | refine q15 ?_ | refine q12 ?_ _)); exact BK219.out)) : gb219 ≠ gb220)); have n7_ := Aside0.mk ((by rw [hg]; exact Nat.ne_of_gt (q30 (g := gb219) (o := .cells #[.int .i64 a1_0, .int .i64 a1_1, .int .i64 a1_2] 23 (0, 0)) (by (with_reducible repeat (first | refine q13 ?_ _ | refine q15 ?_ | refine q12 ?_ _)); exact BK219.out)) : gb220 ≠ gb219)); clear HO0; clear BK219; clear HB; have HO0 := n0_; have BK219 := n1_; have HB := n2_; have BK220 := n3_; have GW220 := n4_; have GE220 := n5_; have NB219_220 := n6_; have NB220_219 := n7_; clear n0_ n1_ n2_ n3_ n4_ n5_ n6_ n7_; clear hb hbox hg; have hnb40 := NB219_220.out; have hnc40 := NB220_219.out; have hcz41_0 : w39.cell? ⟨gb219, 0, none⟩ = some (.int .i64 a1_0) := (q16 BK219.out 0).trans rfl; have hcz41_1 : w39.cell? ⟨gb219, 1, none⟩ = some (.int .i64 a1_1) := (q16 BK219.out 1).trans rfl; have hcz41_2 : w39.cell? ⟨gb219, 2, none⟩ = some (.int .i64 a1_2) := (q16 BK219.out 2).trans rfl; have hfz41_0 := q0 BK219.out 0; have hfz41_1 := q0 BK219.out 1; have hfz41_2 := q0 BK219.out 2) | (go_at_call 42; (with_reducible refine (crosstreeref10_May.calls _ _ l0 a1_0 a1_1 a1_2 a3 true _ ?side1 ?side2 A11.out).mono ?_); (case side1 => repeat (first | exact (Kd.V_reads' HO0.out).2.2 | (with_reducible refine Kd.C_alloc ?_ _) | (with_reducible refine Kd.C_drewN ?_ _) | (with_reducible refine Kd.C_drew ?_))); (case side2 => exact (Kd.V_reads' HO0.out).2.1); rintro e w42 ⟨rfl, hb⟩; have n0_ := Aside0.mk (Kd.V_below (by (with_reducible repeat (first | apply Kd.V_alloc | apply Kd.V_drewN | apply Kd.V_drew)); exact HO0.out) hb); have n1_ := Aside0.mk (q19 (g := gb219) (o := .cells #[.int .i64 a1_0, .int .i64 a1_1, .int .i64 a1_2] 23 (0, 0)) (by (with_reducible repeat (first | refine q13 ?_ _ | refine q15 ?_ | refine q12 ?_ _)); exact BK219.out) hb); have n2_ := Aside0.mk (q19 (g := gb220) (o := .cells #[.int .i64 a2_0, .int .i64 a2_1, .int .i64 a2_2] 23 (0, 0)) (by (with_reducible repeat (first | refine q13 ?_ _ | refine q15 ?_ | refine q12 ?_ _)); exact BK220.out) hb); have n3_ := Aside0.mk (q20 (by repeat (first | (with_reducible first | exact HB.out | apply q10 | apply q9 | apply q11 | refine q14 ?_ GE219.out | refine q14 ?_ GE220.out) | exact HB.out)) hb); clear HO0; clear BK219; clear BK220; clear HB; have HO0 := n0_; have BK219 := n1_; have BK220 := n2_; have HB := n3_; clear n0_ n1_ n2_ n3_; (try clear hb); (try clear hb2); (try clear hk); (try clear hi); have hcz43_0 : w42.cell? ⟨gb220, 0, none⟩ = some (.int .i64 a2_0) := (q16 BK220.out 0).trans rfl; have hcz43_1 : w42.cell? ⟨gb220, 1, none⟩ = some (.int .i64 a2_1) := (q16 BK220.out 1).trans rfl; have hcz43_2 : w42.cell? ⟨gb220, 2, none⟩ = some (.int .i64 a2_2) := (q16 BK220.out 2).trans rfl; have hfz43_0 := q0 BK220.out 0; have hfz43_1 := q0 BK220.out 1; have hfz43_2 := q0 BK220.out 2) | (go_at_call 42; (with_reducible refine (crosstreeref10_May.calls _ _ l0 a2_0 a2_1 a2_2 a3 false _ ?side1 ?side2 A13.out).mono ?_); (case side1 => repeat (first | exact (Kd.V_reads' HO0.out).2.2 | (with_reducible refine Kd.C_alloc ?_ _) | (with_reducible refine Kd.C_drewN ?_ _) | (with_reducible refine Kd.C_drew ?_))); (case side2 => exact (Kd.V_reads' HO0.out).2.1); rintro e w44 ⟨rfl, hb⟩; have n0_ := Aside0.mk (Kd.V_below (by (with_reducible repeat (first | apply Kd.V_alloc | apply Kd.V_drewN | apply Kd.V_drew)); exact HO0.out) hb); have n1_ := Aside0.mk (q19 (g := gb219) (o := .cells #[.int .i64 a1_0, .int .i64 a1_1, .int .i64 a1_2] 23 (0, 0)) (by (with_reducible repeat (first | refine q13 ?_ _ | refine q15 ?_ | refine q12 ?_ _)); exact BK219.out) hb); have n2_ := Aside0.mk (q19 (g := gb220) (o := .cells #[.int .i64 a2_0, .int .i64 a2_1, .int .i64 a2_2] 23 (0, 0)) (by (with_reducible repeat (first | refine q13 ?_ _ | refine q15 ?_ | refine q12 ?_ _)); exact BK220.out) hb); have n3_ := Aside0.mk (q20 (by repeat (first | (with_reducible first | exact HB.out | apply q10 | apply q9 | apply q11 | refine q14 ?_ GE219.out | refine q14 ?_ GE220.out) | exact HB.out)) hb); clear HO0; clear BK219; clear BK220; clear HB; have HO0 := n0_; have BK219 := n1_; have BK220 := n2_; have HB := n3_; clear n0_ n1_ n2_ n3_; (try clear hb); (try clear hb2); (try clear hk); (try clear hi)))
     go_ret2
     exact ⟨_, by first | rfl | (simp [q26, q25] <;> rfl) | (simp [*, q26, q25] <;> rfl), by (with_reducible repeat (first | apply Kd.V_alloc | apply Kd.V_drewN | apply Kd.V_drew)); exact Kd.V_mono HO0.out (fun _ hk => hk.1.1), by repeat (first | (with_reducible first | exact HB.out | apply q10 | apply q9 | apply q11 | refine q14 ?_ GE219.out | refine q14 ?_ GE220.out) | exact HB.out)⟩
   ·replace c12 := Bool.eq_false_iff.mpr c12
    subst c12
    have H1 : (some (l0, 9)) = some (r1, r2) := by rw [if_neg (show ¬ (false = true) by decide)] at H; exact H
    clear H
    have H := H1
    clear H1
    simp only [Option.some.injEq, Prod.mk.injEq] at H
    obtain ⟨rfl, rfl⟩ := H
    go_enter Try.func27, Try.ntmps27
    go_wp2_with (first | ((with_reducible refine q32 (N := 5) rfl ?_); refine q29 ?hg (N := 5) ?hd (cs := #[.int .i64 a1_0, .int .i64 a1_1, .int .i64 a1_2]) (t := 23) ?hr ?_; (case hd => rfl); (case hg => rfl); (case hr => first | (go_simp; done) | (go_simp; rfl)); intro gb219 hg w45 hbox hb; have n0_ := Aside0.mk (Kd.V_below (Kd.V_elderB (by (with_reducible repeat (first | apply Kd.V_alloc | apply Kd.V_drewN | apply Kd.V_drew)); exact HO0.out) gb219 (Nat.le_of_eq hg.symm)) hb); have n1_ := Aside0.mk (q20 (by repeat (first | (with_reducible first | exact HB.out | apply q10 | apply q9 | apply q11) | exact HB.out)) hb); have n2_ := Aside0.mk (hbox); have n3_ := Aside0.mk ((by rw [hg]; exact (q21 (by repeat (first | (with_reducible first | exact HB.out | apply q10 | apply q9 | apply q11) | exact HB.out))) : w.heap.size ≤ gb219)); have n4_ := Aside0.mk ((by rw [hg]; exact (q21 (by repeat (first | (with_reducible first | exact HB.out | apply q10 | apply q9 | apply q11) | exact HB.out))) : w.heap.size ≤ gb219)); clear HO0; clear HB; have HO0 := n0_; have HB := n1_; have BK219 := n2_; have GW219 := n3_; have GE219 := n4_; clear n0_ n1_ n2_ n3_ n4_; clear hb hbox hg) | ((with_reducible refine q32 (N := 6) rfl ?_); refine q29 ?hg (N := 6) ?hd (cs := #[.int .i64 a2_0, .int .i64 a2_1, .int .i64 a2_2]) (t := 23) ?hr ?_; (case hd => rfl); (case hg => rfl); (case hr => first | (go_simp; done) | (go_simp; rfl)); intro gb220 hg w46 hbox hb; have n0_ := Aside0.mk (Kd.V_below (Kd.V_elderB (by (with_reducible repeat (first | apply Kd.V_alloc | apply Kd.V_drewN | apply Kd.V_drew)); exact HO0.out) gb220 (Nat.le_of_eq hg.symm)) hb); have n1_ := Aside0.mk (q19 (g := gb219) (o := .cells #[.int .i64 a1_0, .int .i64 a1_1, .int .i64 a1_2] 23 (0, 0)) (by (with_reducible repeat (first | refine q13 ?_ _ | refine q15 ?_ | refine q12 ?_ _)); exact BK219.out) hb); have n2_ := Aside0.mk (q20 (by repeat (first | (with_reducible first | exact HB.out | apply q10 | apply q9 | apply q11 | refine q14 ?_ GE219.out) | exact HB.out)) hb); have n3_ := Aside0.mk (hbox); have n4_ := Aside0.mk ((by rw [hg]; exact (q21 (by repeat (first | (with_reducible first | exact HB.out | apply q10 | apply q9 | apply q11 | refine q14 ?_ GE219.out) | exact HB.out))) : w.heap.size ≤ gb220)); have n5_ := Aside0.mk ((by rw [hg]; exact (q21 (by repeat (first | (with_reducible first | exact HB.out | apply q10 | apply q9 | apply q11 | refine q14 ?_ GE219.out) | exact HB.out))) : w.heap.size ≤ gb220)); have n6_ := Aside0.mk ((by rw [hg]; exact Nat.ne_of_lt (q30 (g := gb219) (o := .cells #[.int .i64 a1_0, .int .i64 a1_1, .int .i64 a1_2] 23 (0, 0)) (by (with_reducible repeat (first | refine q13 ?_ _ | refine q15 ?_ | refine q12 ?_ _)); exact BK219.out)) : gb219 ≠ gb220)); have n7_ := Aside0.mk ((by rw [hg]; exact Nat.ne_of_gt (q30 (g := gb219) (o := .cells #[.int .i64 a1_0, .int .i64 a1_1, .int .i64 a1_2] 23 (0, 0)) (by (with_reducible repeat (first | refine q13 ?_ _ | refine q15 ?_ | refine q12 ?_ _)); exact BK219.out)) : gb220 ≠ gb219)); clear HO0; clear BK219; clear HB; have HO0 := n0_; have BK219 := n1_; have HB := n2_; have BK220 := n3_; have GW220 := n4_; have GE220 := n5_; have NB219_220 := n6_; have NB220_219 := n7_; clear n0_ n1_ n2_ n3_ n4_ n5_ n6_ n7_; clear hb hbox hg; have hnb47 := NB219_220.out; have hnc47 := NB220_219.out; have hcz48_0 : w46.cell? ⟨gb219, 0, none⟩ = some (.int .i64 a1_0) := (q16 BK219.out 0).trans rfl; have hcz48_1 : w46.cell? ⟨gb219, 1, none⟩ = some (.int .i64 a1_1) := (q16 BK219.out 1).trans rfl; have hcz48_2 : w46.cell? ⟨gb219, 2, none⟩ = some (.int .i64 a1_2) := (q16 BK219.out 2).trans rfl; have hfz48_0 := q0 BK219.out 0; have hfz48_1 := q0 BK219.out 1; have hfz48_2 := q0 BK219.out 2) | (go_at_call 42; (with_reducible refine (crosstreeref10_May.calls _ _ l0 a1_0 a1_1 a1_2 a3 false _ ?side1 ?side2 A11.out).mono ?_); (case side1 => repeat (first | exact (Kd.V_reads' HO0.out).2.2 | (with_reducible refine Kd.C_alloc ?_ _) | (with_reducible refine Kd.C_drewN ?_ _) | (with_reducible refine Kd.C_drew ?_))); (case side2 => exact (Kd.V_reads' HO0.out).2.1); rintro e w49 ⟨rfl, hb⟩; have n0_ := Aside0.mk (Kd.V_below (by (with_reducible repeat (first | apply Kd.V_alloc | apply Kd.V_drewN | apply Kd.V_drew)); exact HO0.out) hb); have n1_ := Aside0.mk (q19 (g := gb219) (o := .cells #[.int .i64 a1_0, .int .i64 a1_1, .int .i64 a1_2] 23 (0, 0)) (by (with_reducible repeat (first | refine q13 ?_ _ | refine q15 ?_ | refine q12 ?_ _)); exact BK219.out) hb); have n2_ := Aside0.mk (q19 (g := gb220) (o := .cells #[.int .i64 a2_0, .int .i64 a2_1, .int .i64 a2_2] 23 (0, 0)) (by (with_reducible repeat (first | refine q13 ?_ _ | refine q15 ?_ | refine q12 ?_ _)); exact BK220.out) hb); have n3_ := Aside0.mk (q20 (by repeat (first | (with_reducible first | exact HB.out | apply q10 | apply q9 | apply q11 | refine q14 ?_ GE219.out | refine q14 ?_ GE220.out) | exact HB.out)) hb); clear HO0; clear BK219; clear BK220; clear HB; have HO0 := n0_; have BK219 := n1_; have BK220 := n2_; have HB := n3_; clear n0_ n1_ n2_ n3_; (try clear hb); (try clear hb2); (try clear hk); (try clear hi)))
    go_ret2
    exact ⟨_, by first | rfl | (simp [q26, q25] <;> rfl) | (simp [*, q26, q25] <;> rfl), by (with_reducible repeat (first | apply Kd.V_alloc | apply Kd.V_drewN | apply Kd.V_drew)); exact Kd.V_mono HO0.out (fun _ hk => hk.1.1), by repeat (first | (with_reducible first | exact HB.out | apply q10 | apply q9 | apply q11 | refine q14 ?_ GE219.out | refine q14 ?_ GE220.out) | exact HB.out)⟩
def crosstreeref10_Number.f (a0_0 : Int) (a0_1 : Int) (a0_2 : Int) : Option (Bool) := if a0_1 = 0 then (some (a0_2 == 0)) else (some false)
set_option maxHeartbeats 8000000 in
set_option maxRecDepth 100000 in
theorem crosstreeref10_Number.calls (a0_0 : Int) (a0_1 : Int) (a0_2 : Int) (r : Bool) (w : World) (h : crosstreeref10_Number.f a0_0 a0_1 a0_2 = some r) :
  Calls Try.prog 43 #[.agg #[.int .i64 a0_0, .int .i64 a0_1, .int .i64 a0_2]] w fun e w' => e = .returned (.bool r) ∧ Below w.heap.size w w' := by
 have hu23 := Try.underlying23
 have HB := Aside0.mk (Below.refl w.heap.size w)
 have H : (if a0_1 = 0 then (some (a0_2 == 0)) else (some false)) = some r := h
 clear h
 by_cases c2 : a0_1 = 0
 ·rw [if_pos c2] at H
  have c2b0 : (a0_1 == 0) = true := beq_iff_eq.mpr c2
  have c2b1 : (a0_1 != 0) = false := bne_eq_false_iff_eq.mpr c2
  clear c2
  obtain rfl := Option.some.inj H
  go_enter Try.func43, Try.ntmps43
  go_wp2_with (first | ((with_reducible refine q32 (N := 1) rfl ?_); refine q29 ?hg (N := 1) ?hd (cs := #[.int .i64 a0_0, .int .i64 a0_1, .int .i64 a0_2]) (t := 23) ?hr ?_; (case hd => rfl); (case hg => rfl); (case hr => first | (go_simp; done) | (go_simp; rfl)); intro gb238 hg w3 hbox hb; have n0_ := Aside0.mk (q20 (by repeat (first | (with_reducible first | exact HB.out | apply q10 | apply q9 | apply q11) | exact HB.out)) hb); have n1_ := Aside0.mk (hbox); have n2_ := Aside0.mk ((by rw [hg]; exact (q21 (by repeat (first | (with_reducible first | exact HB.out | apply q10 | apply q9 | apply q11) | exact HB.out))) : w.heap.size ≤ gb238)); have n3_ := Aside0.mk ((by rw [hg]; exact (q21 (by repeat (first | (with_reducible first | exact HB.out | apply q10 | apply q9 | apply q11) | exact HB.out))) : w.heap.size ≤ gb238)); clear HB; have HB := n0_; have BK238 := n1_; have GW238 := n2_; have GE238 := n3_; clear n0_ n1_ n2_ n3_; clear hb hbox hg; have hcz4_0 : w3.cell? ⟨gb238, 0, none⟩ = some (.int .i64 a0_0) := (q16 BK238.out 0).trans rfl; have hcz4_1 : w3.cell? ⟨gb238, 1, none⟩ = some (.int .i64 a0_1) := (q16 BK238.out 1).trans rfl; have hcz4_2 : w3.cell? ⟨gb238, 2, none⟩ = some (.int .i64 a0_2) := (q16 BK238.out 2).trans rfl; have hfz4_0 := q0 BK238.out 0; have hfz4_1 := q0 BK238.out 1; have hfz4_2 := q0 BK238.out 2))
  go_ret
  exact ⟨by first | rfl | (simp [q26, q25] <;> rfl) | (simp [*, q26, q25] <;> rfl), by repeat (first | (with_reducible first | exact HB.out | apply q10 | apply q9 | apply q11 | refine q14 ?_ GE238.out) | exact HB.out)⟩
 ·rw [if_neg c2] at H
  have c2b0 : (a0_1 == 0) = false := beq_eq_false_iff_ne.mpr c2
  have c2b1 : (a0_1 != 0) = true := bne_iff_ne.mpr c2
  obtain rfl := Option.some.inj H
  go_enter Try.func43, Try.ntmps43
  go_wp2_with (first | ((with_reducible refine q32 (N := 1) rfl ?_); refine q29 ?hg (N := 1) ?hd (cs := #[.int .i64 a0_0, .int .i64 a0_1, .int .i64 a0_2]) (t := 23) ?hr ?_; (case hd => rfl); (case hg => rfl); (case hr => first | (go_simp; done) | (go_simp; rfl)); intro gb238 hg w5 hbox hb; have n0_ := Aside0.mk (q20 (by repeat (first | (with_reducible first | exact HB.out | apply q10 | apply q9 | apply q11) | exact HB.out)) hb); have n1_ := Aside0.mk (hbox); have n2_ := Aside0.mk ((by rw [hg]; exact (q21 (by repeat (first | (with_reducible first | exact HB.out | apply q10 | apply q9 | apply q11) | exact HB.out))) : w.heap.size ≤ gb238)); have n3_ := Aside0.mk ((by rw [hg]; exact (q21 (by repeat (first | (with_reducible first | exact HB.out | apply q10 | apply q9 | apply q11) | exact HB.out))) : w.heap.size ≤ gb238)); clear HB; have HB := n0_; have BK238 := n1_; have GW238 := n2_; have GE238 := n3_; clear n0_ n1_ n2_ n3_; clear hb hbox hg; have hcz6_0 : w5.cell? ⟨gb238, 0, none⟩ = some (.int .i64 a0_0) := (q16 BK238.out 0).trans rfl; have hcz6_1 : w5.cell? ⟨gb238, 1, none⟩ = some (.int .i64 a0_1) := (q16 BK238.out 1).trans rfl; have hcz6_2 : w5.cell? ⟨gb238, 2, none⟩ = some (.int .i64 a0_2) := (q16 BK238.out 2).trans rfl; have hfz6_0 := q0 BK238.out 0; have hfz6_1 := q0 BK238.out 1; have hfz6_2 := q0 BK238.out 2))
  go_ret
  exact ⟨by first | rfl | (simp [q26, q25] <;> rfl) | (simp [*, q26, q25] <;> rfl), by repeat (first | (with_reducible first | exact HB.out | apply q10 | apply q9 | apply q11 | refine q14 ?_ GE238.out) | exact HB.out)⟩
end Go.Proofs.Yteogfjhmjlelnaa.H
namespace Go.Proofs.Yteogfjhmjlelnaa.H
open Go.RowKit Go.Proofs.YteogfjhmjlelnaaW.PrintWords Go.Proofs.YteogfjhmjlelnaaW.PrintLast Go.Proofs.YteogfjhmjlelnaaW.PrintMore
attribute [local go_sem] max2_int min2_int max_two min_two max_three min_three max_four min_four
set_option linter.unusedVariables false
set_option linter.unusedSimpArgs false
mutual
def crosstreeref10_Fill.j0 : Nat → List (S69) → Bool → Int → Int → Int → Int → Int → Int → Int → Int → Int → Option ((List (S69)) × Int)
 | 0, _, _, _, _, _, _, _, _, _, _, _ => none
 | k + 1, x0, x37, x240000, x240001, x240002, x241000, x241001, x241002, x242000, x242001, x242002 => if x37 = true then (some (x0, 9)) else (crosstreeref10_Fill.l0 k x0 ([] : List (S42)) 0 x240000 x240001 x240002 x241000 x241001 x241002 x242000 x242001 x242002)
def crosstreeref10_Fill.l0 : Nat → List (S69) → List (S42) → Int → Int → Int → Int → Int → Int → Int → Int → Int → Int → Option ((List (S69)) × Int)
 | 0, _, _, _, _, _, _, _, _, _, _, _, _ => none
 | k + 1, x0, x10, x11, x240000, x240001, x240002, x241000, x241001, x241002, x242000, x242001, x242002 => if x11 < x242000 then (if x10.length < 3518437208883 then (crosstreeref10_Fill.l0 k x0 (x10 ++ [(⟨1, (Int.tmod (IntKind.u64.wrap (x241000)) 256) % 256, (⟨0, 0, 0⟩ : S23)⟩ : S42)]) (wrap64 (x11 + 1)) x240000 x240001 x240002 x241000 x241001 x241002 x242000 x242001 x242002) else (none)) else ((crosstreeref10_Lay.f k x0 x240000 x240001 x240002 x10).bind fun t248 => (some (t248, 0)))
end
def crosstreeref10_Fill.f (k : Nat) (l0 : List (S69)) (a1_0 : Int) (a1_1 : Int) (a1_2 : Int) (a2_0 : Int) (a2_1 : Int) (a2_2 : Int) (a3_0 : Int) (a3_1 : Int) (a3_2 : Int) : Option ((List (S69)) × Int) := (crosstreeref10_Number.f a2_0 a2_1 a2_2).bind fun t242 => (if t242 = true then ((crosstreeref10_Number.f a3_0 a3_1 a3_2).bind fun t243 => (if t243 = true then (if a3_0 < 0 then (crosstreeref10_Fill.j0 k l0 true a1_0 a1_1 a1_2 a2_0 a2_1 a2_2 a3_0 a3_1 a3_2) else (if a3_0 > 4096 then (crosstreeref10_Fill.j0 k l0 true a1_0 a1_1 a1_2 a2_0 a2_1 a2_2 a3_0 a3_1 a3_2) else ((crosstreeref10_May.f l0 a1_0 a1_1 a1_2 a3_0).bind fun t244 => (crosstreeref10_Fill.j0 k l0 (!t244) a1_0 a1_1 a1_2 a2_0 a2_1 a2_2 a3_0 a3_1 a3_2)))) else (crosstreeref10_Fill.j0 k l0 true a1_0 a1_1 a1_2 a2_0 a2_1 a2_2 a3_0 a3_1 a3_2))) else (crosstreeref10_Fill.j0 k l0 true a1_0 a1_1 a1_2 a2_0 a2_1 a2_2 a3_0 a3_1 a3_2))
theorem crosstreeref10_Fill.mono_l : ∀ k, (∀ y0 y1 y2 y3 y4 y5 y6 y7 y8 y9 y10, LeO (crosstreeref10_Fill.j0 k y0 y1 y2 y3 y4 y5 y6 y7 y8 y9 y10) (crosstreeref10_Fill.j0 (k + 1) y0 y1 y2 y3 y4 y5 y6 y7 y8 y9 y10)) ∧ (∀ y0 y1 y2 y3 y4 y5 y6 y7 y8 y9 y10 y11, LeO (crosstreeref10_Fill.l0 k y0 y1 y2 y3 y4 y5 y6 y7 y8 y9 y10 y11) (crosstreeref10_Fill.l0 (k + 1) y0 y1 y2 y3 y4 y5 y6 y7 y8 y9 y10 y11))
 | 0 => ⟨fun _ _ _ _ _ _ _ _ _ _ _ r h => by simp [crosstreeref10_Fill.j0] at h, fun _ _ _ _ _ _ _ _ _ _ _ _ r h => by simp [crosstreeref10_Fill.l0] at h⟩
 | k + 1 => by
  obtain ⟨ih0, ih1⟩ := crosstreeref10_Fill.mono_l k
  refine ⟨?_, ?_⟩
  ·intro y0 y1 y2 y3 y4 y5 y6 y7 y8 y9 y10
   unfold crosstreeref10_Fill.j0
   repeat' first
   | (with_reducible exact ih0 _ _ _ _ _ _ _ _ _ _ _)
   | (with_reducible exact ih1 _ _ _ _ _ _ _ _ _ _ _ _)
   | (with_reducible exact crosstreeref10_Lay.mono _ _ _ _ _ _)
   | (with_reducible exact LeO.refl _)
   | (with_reducible exact LeO.none _)
   | (with_reducible refine LeO.ite ?_ ?_)
   | (with_reducible refine LeO.bind ?_ (fun _ => ?_))
   | exact ih0 _ _ _ _ _ _ _ _ _ _ _
   | exact ih1 _ _ _ _ _ _ _ _ _ _ _ _
   | exact crosstreeref10_Lay.mono _ _ _ _ _ _
   | exact LeO.none _
   | refine LeO.ite ?_ ?_
   | refine LeO.bind ?_ (fun _ => ?_)
  ·intro y0 y1 y2 y3 y4 y5 y6 y7 y8 y9 y10 y11
   unfold crosstreeref10_Fill.l0
   repeat' first
   | (with_reducible exact ih0 _ _ _ _ _ _ _ _ _ _ _)
   | (with_reducible exact ih1 _ _ _ _ _ _ _ _ _ _ _ _)
   | (with_reducible exact crosstreeref10_Lay.mono _ _ _ _ _ _)
   | (with_reducible exact LeO.refl _)
   | (with_reducible exact LeO.none _)
   | (with_reducible refine LeO.ite ?_ ?_)
   | (with_reducible refine LeO.bind ?_ (fun _ => ?_))
   | exact ih0 _ _ _ _ _ _ _ _ _ _ _
   | exact ih1 _ _ _ _ _ _ _ _ _ _ _ _
   | exact crosstreeref10_Lay.mono _ _ _ _ _ _
   | exact LeO.none _
   | refine LeO.ite ?_ ?_
   | refine LeO.bind ?_ (fun _ => ?_)
theorem crosstreeref10_Fill.mono : ∀ a0 a1 a2 a3 a4 a5 a6 a7 a8 a9 k, LeO (crosstreeref10_Fill.f k a0 a1 a2 a3 a4 a5 a6 a7 a8 a9) (crosstreeref10_Fill.f (k + 1) a0 a1 a2 a3 a4 a5 a6 a7 a8 a9) := by
 intro a0 a1 a2 a3 a4 a5 a6 a7 a8 a9 k
 obtain ⟨ih0, ih1⟩ := crosstreeref10_Fill.mono_l k
 unfold crosstreeref10_Fill.f
 repeat' first
   | (with_reducible exact ih0 _ _ _ _ _ _ _ _ _ _ _)
   | (with_reducible exact ih1 _ _ _ _ _ _ _ _ _ _ _ _)
   | (with_reducible exact crosstreeref10_Lay.mono _ _ _ _ _ _)
   | (with_reducible exact LeO.refl _)
   | (with_reducible exact LeO.none _)
   | (with_reducible refine LeO.ite ?_ ?_)
   | (with_reducible refine LeO.bind ?_ (fun _ => ?_))
   | exact ih0 _ _ _ _ _ _ _ _ _ _ _
   | exact ih1 _ _ _ _ _ _ _ _ _ _ _ _
   | exact crosstreeref10_Lay.mono _ _ _ _ _ _
   | exact LeO.none _
   | refine LeO.ite ?_ ?_
   | refine LeO.bind ?_ (fun _ => ?_)
set_option maxHeartbeats 8000000 in
set_option maxRecDepth 100000 in
theorem crosstreeref10_Fill.calls (k : Nat) (P0_ : Nat → Prop) (A0 : Option Addr) (c0 : Nat) (l0 : List (S69)) (a1_0 : Int) (a1_1 : Int) (a1_2 : Int) (a2_0 : Int) (a2_1 : Int) (a2_2 : Int) (a3_0 : Int) (a3_1 : Int) (a3_2 : Int) (r1 : List (S69)) (r2 : Int) (w : World) (hs0 : Kd.V k69 69 w w.heap.size (fun k_ => P0_ k_) (.slice A0 l0.length c0) l0) (h : crosstreeref10_Fill.f k l0 a1_0 a1_1 a1_2 a2_0 a2_1 a2_2 a3_0 a3_1 a3_2 = some (r1, r2)) :
  Calls Try.prog 28 #[.slice A0 l0.length c0, .agg #[.int .i64 a1_0, .int .i64 a1_1, .int .i64 a1_2], .agg #[.int .i64 a2_0, .int .i64 a2_1, .int .i64 a2_2], .agg #[.int .i64 a3_0, .int .i64 a3_1, .int .i64 a3_2]] w fun e w' => ∃ v0_ : Value, e = .returned (.tuple #[v0_, .int .i64 r2]) ∧ Kd.V k69 69 w' w.heap.size (fun k_ => (P0_ k_ ∨ w.heap.size ≤ k_)) v0_ r1 ∧ Below w.heap.size w w' := by
 have hu23 := Try.underlying23
 have hu42 := Try.underlying42
 have HO0 := Aside0.mk (show Kd.V k69 69 w w.heap.size (fun k_ => (P0_ k_ ∨ w.heap.size ≤ k_)) (.slice A0 l0.length c0) l0 from Kd.V_mono hs0 (fun k_ hk => .inl hk))
 have HB := Aside0.mk (Below.refl w.heap.size w)
 have H : ((crosstreeref10_Number.f a2_0 a2_1 a2_2).bind fun t242 => (if t242 = true then ((crosstreeref10_Number.f a3_0 a3_1 a3_2).bind fun t243 => (if t243 = true then (if a3_0 < 0 then (crosstreeref10_Fill.j0 k l0 true a1_0 a1_1 a1_2 a2_0 a2_1 a2_2 a3_0 a3_1 a3_2) else (if a3_0 > 4096 then (crosstreeref10_Fill.j0 k l0 true a1_0 a1_1 a1_2 a2_0 a2_1 a2_2 a3_0 a3_1 a3_2) else ((crosstreeref10_May.f l0 a1_0 a1_1 a1_2 a3_0).bind fun t244 => (crosstreeref10_Fill.j0 k l0 (!t244) a1_0 a1_1 a1_2 a2_0 a2_1 a2_2 a3_0 a3_1 a3_2)))) else (crosstreeref10_Fill.j0 k l0 true a1_0 a1_1 a1_2 a2_0 a2_1 a2_2 a3_0 a3_1 a3_2))) else (crosstreeref10_Fill.j0 k l0 true a1_0 a1_1 a1_2 a2_0 a2_1 a2_2 a3_0 a3_1 a3_2))) = some (r1, r2) := h
 clear h
 have HC5 := Aside0.mk H
 clear H
 go_enter Try.func28, Try.ntmps28
 go_upto_region 1 with (first | ((with_reducible refine q32 (N := 5) rfl ?_); refine q29 ?hg (N := 5) ?hd (cs := #[.int .i64 a1_0, .int .i64 a1_1, .int .i64 a1_2]) (t := 23) ?hr ?_; (case hd => rfl); (case hg => rfl); (case hr => first | (go_simp; done) | (go_simp; rfl)); intro gb239 hg w6 hbox hb; have n0_ := Aside0.mk (Kd.V_below (Kd.V_elderB (by (with_reducible repeat (first | apply Kd.V_alloc | apply Kd.V_drewN | apply Kd.V_drew)); exact HO0.out) gb239 (Nat.le_of_eq hg.symm)) hb); have n1_ := Aside0.mk (q20 (by repeat (first | (with_reducible first | exact HB.out | apply q10 | apply q9 | apply q11) | exact HB.out)) hb); have n2_ := Aside0.mk (hbox); have n3_ := Aside0.mk ((by rw [hg]; exact (q21 (by repeat (first | (with_reducible first | exact HB.out | apply q10 | apply q9 | apply q11) | exact HB.out))) : w.heap.size ≤ gb239)); have n4_ := Aside0.mk ((by rw [hg]; exact (q21 (by repeat (first | (with_reducible first | exact HB.out | apply q10 | apply q9 | apply q11) | exact HB.out))) : w.heap.size ≤ gb239)); clear HO0; clear HB; have HO0 := n0_; have HB := n1_; have BK239 := n2_; have GW239 := n3_; have GE239 := n4_; clear n0_ n1_ n2_ n3_ n4_; clear hb hbox hg) | ((with_reducible refine q32 (N := 6) rfl ?_); refine q29 ?hg (N := 6) ?hd (cs := #[.int .i64 a2_0, .int .i64 a2_1, .int .i64 a2_2]) (t := 23) ?hr ?_; (case hd => rfl); (case hg => rfl); (case hr => first | (go_simp; done) | (go_simp; rfl)); intro gb240 hg w7 hbox hb; have n0_ := Aside0.mk (Kd.V_below (Kd.V_elderB (by (with_reducible repeat (first | apply Kd.V_alloc | apply Kd.V_drewN | apply Kd.V_drew)); exact HO0.out) gb240 (Nat.le_of_eq hg.symm)) hb); have n1_ := Aside0.mk (q19 (g := gb239) (o := .cells #[.int .i64 a1_0, .int .i64 a1_1, .int .i64 a1_2] 23 (0, 0)) (by (with_reducible repeat (first | refine q13 ?_ _ | refine q15 ?_ | refine q12 ?_ _)); exact BK239.out) hb); have n2_ := Aside0.mk (q20 (by repeat (first | (with_reducible first | exact HB.out | apply q10 | apply q9 | apply q11 | refine q14 ?_ GE239.out) | exact HB.out)) hb); have n3_ := Aside0.mk (hbox); have n4_ := Aside0.mk ((by rw [hg]; exact (q21 (by repeat (first | (with_reducible first | exact HB.out | apply q10 | apply q9 | apply q11 | refine q14 ?_ GE239.out) | exact HB.out))) : w.heap.size ≤ gb240)); have n5_ := Aside0.mk ((by rw [hg]; exact (q21 (by repeat (first | (with_reducible first | exact HB.out | apply q10 | apply q9 | apply q11 | refine q14 ?_ GE239.out) | exact HB.out))) : w.heap.size ≤ gb240)); have n6_ := Aside0.mk ((by rw [hg]; exact Nat.ne_of_lt (q30 (g := gb239) (o := .cells #[.int .i64 a1_0, .int .i64 a1_1, .int .i64 a1_2] 23 (0, 0)) (by (with_reducible repeat (first | refine q13 ?_ _ | refine q15 ?_ | refine q12 ?_ _)); exact BK239.out)) : gb239 ≠ gb240)); have n7_ := Aside0.mk ((by rw [hg]; exact Nat.ne_of_gt (q30 (g := gb239) (o := .cells #[.int .i64 a1_0, .int .i64 a1_1, .int .i64 a1_2] 23 (0, 0)) (by (with_reducible repeat (first | refine q13 ?_ _ | refine q15 ?_ | refine q12 ?_ _)); exact BK239.out)) : gb240 ≠ gb239)); clear HO0; clear BK239; clear HB; have HO0 := n0_; have BK239 := n1_; have HB := n2_; have BK240 := n3_; have GW240 := n4_; have GE240 := n5_; have NB239_240 := n6_; have NB240_239 := n7_; clear n0_ n1_ n2_ n3_ n4_ n5_ n6_ n7_; clear hb hbox hg) | ((with_reducible refine q32 (N := 7) rfl ?_); refine q29 ?hg (N := 7) ?hd (cs := #[.int .i64 a3_0, .int .i64 a3_1, .int .i64 a3_2]) (t := 23) ?hr ?_; (case hd => rfl); (case hg => rfl); (case hr => first | (go_simp; done) | (go_simp; rfl)); intro gb241 hg w8 hbox hb; have n0_ := Aside0.mk (Kd.V_below (Kd.V_elderB (by (with_reducible repeat (first | apply Kd.V_alloc | apply Kd.V_drewN | apply Kd.V_drew)); exact HO0.out) gb241 (Nat.le_of_eq hg.symm)) hb); have n1_ := Aside0.mk (q19 (g := gb239) (o := .cells #[.int .i64 a1_0, .int .i64 a1_1, .int .i64 a1_2] 23 (0, 0)) (by (with_reducible repeat (first | refine q13 ?_ _ | refine q15 ?_ | refine q12 ?_ _)); exact BK239.out) hb); have n2_ := Aside0.mk (q19 (g := gb240) (o := .cells #[.int .i64 a2_0, .int .i64 a2_1, .int .i64 a2_2] 23 (0, 0)) (by (with_reducible repeat (first | refine q13 ?_ _ | refine q15 ?_ | refine q12 ?_ _)); exact BK240.out) hb); have n3_ := Aside0.mk (q20 (by repeat (first | (with_reducible first | exact HB.out | apply q10 | apply q9 | apply q11 | refine q14 ?_ GE239.out | refine q14 ?_ GE240.out) | exact HB.out)) hb); have n4_ := Aside0.mk (hbox); have n5_ := Aside0.mk ((by rw [hg]; exact (q21 (by repeat (first | (with_reducible first | exact HB.out | apply q10 | apply q9 | apply q11 | refine q14 ?_ GE239.out | refine q14 ?_ GE240.out) | exact HB.out))) : w.heap.size ≤ gb241)); have n6_ := Aside0.mk ((by rw [hg]; exact (q21 (by repeat (first | (with_reducible first | exact HB.out | apply q10 | apply q9 | apply q11 | refine q14 ?_ GE239.out | refine q14 ?_ GE240.out) | exact HB.out))) : w.heap.size ≤ gb241)); have n7_ := Aside0.mk ((by rw [hg]; exact Nat.ne_of_lt (q30 (g := gb239) (o := .cells #[.int .i64 a1_0, .int .i64 a1_1, .int .i64 a1_2] 23 (0, 0)) (by (with_reducible repeat (first | refine q13 ?_ _ | refine q15 ?_ | refine q12 ?_ _)); exact BK239.out)) : gb239 ≠ gb241)); have n8_ := Aside0.mk ((by rw [hg]; exact Nat.ne_of_gt (q30 (g := gb239) (o := .cells #[.int .i64 a1_0, .int .i64 a1_1, .int .i64 a1_2] 23 (0, 0)) (by (with_reducible repeat (first | refine q13 ?_ _ | refine q15 ?_ | refine q12 ?_ _)); exact BK239.out)) : gb241 ≠ gb239)); have n9_ := Aside0.mk ((by rw [hg]; exact Nat.ne_of_lt (q30 (g := gb240) (o := .cells #[.int .i64 a2_0, .int .i64 a2_1, .int .i64 a2_2] 23 (0, 0)) (by (with_reducible repeat (first | refine q13 ?_ _ | refine q15 ?_ | refine q12 ?_ _)); exact BK240.out)) : gb240 ≠ gb241)); have n10_ := Aside0.mk ((by rw [hg]; exact Nat.ne_of_gt (q30 (g := gb240) (o := .cells #[.int .i64 a2_0, .int .i64 a2_1, .int .i64 a2_2] 23 (0, 0)) (by (with_reducible repeat (first | refine q13 ?_ _ | refine q15 ?_ | refine q12 ?_ _)); exact BK240.out)) : gb241 ≠ gb240)); clear HO0; clear BK239; clear BK240; clear HB; have HO0 := n0_; have BK239 := n1_; have BK240 := n2_; have HB := n3_; have BK241 := n4_; have GW241 := n5_; have GE241 := n6_; have NB239_241 := n7_; have NB241_239 := n8_; have NB240_241 := n9_; have NB241_240 := n10_; clear n0_ n1_ n2_ n3_ n4_ n5_ n6_ n7_ n8_ n9_ n10_; clear hb hbox hg))
 (try simp only [Act.put, List.setIfInBounds_toArray, List.set_cons_zero, List.set_cons_succ])
 go_cut [37] (fun v37 wc => ∃ (kq : Nat) (x37_4 : Bool), v37 = .bool x37_4 ∧ Aside0 (crosstreeref10_Fill.j0 kq l0 x37_4 a1_0 a1_1 a1_2 a2_0 a2_1 a2_2 a3_0 a3_1 a3_2 = some (r1, r2)) ∧ Aside0 (kq ≤ k) ∧ Aside0 (Kd.V k69 69 wc w.heap.size (fun k_ => (P0_ k_ ∨ w.heap.size ≤ k_) ∧ k_ ≠ gb239 ∧ k_ ≠ gb240 ∧ k_ ≠ gb241) (.slice A0 l0.length c0) l0) ∧ Aside0 (wc.heap[gb239]? = some (.cells #[.int .i64 a1_0, .int .i64 a1_1, .int .i64 a1_2] 23 (0, 0))) ∧ Aside0 (wc.heap[gb240]? = some (.cells #[.int .i64 a2_0, .int .i64 a2_1, .int .i64 a2_2] 23 (0, 0))) ∧ Aside0 (wc.heap[gb241]? = some (.cells #[.int .i64 a3_0, .int .i64 a3_1, .int .i64 a3_2] 23 (0, 0))) ∧ Aside0 (Below w.heap.size w wc))
 case first =>
  have H := HC5.out
  clear HC5
  replace H := Option.bind_eq_some_iff.mp H
  obtain ⟨t242, A90, H⟩ := H
  replace H : (if t242 = true then ((crosstreeref10_Number.f a3_0 a3_1 a3_2).bind fun t243 => (if t243 = true then (if a3_0 < 0 then (crosstreeref10_Fill.j0 k l0 true a1_0 a1_1 a1_2 a2_0 a2_1 a2_2 a3_0 a3_1 a3_2) else (if a3_0 > 4096 then (crosstreeref10_Fill.j0 k l0 true a1_0 a1_1 a1_2 a2_0 a2_1 a2_2 a3_0 a3_1 a3_2) else ((crosstreeref10_May.f l0 a1_0 a1_1 a1_2 a3_0).bind fun t244 => (crosstreeref10_Fill.j0 k l0 (!t244) a1_0 a1_1 a1_2 a2_0 a2_1 a2_2 a3_0 a3_1 a3_2)))) else (crosstreeref10_Fill.j0 k l0 true a1_0 a1_1 a1_2 a2_0 a2_1 a2_2 a3_0 a3_1 a3_2))) else (crosstreeref10_Fill.j0 k l0 true a1_0 a1_1 a1_2 a2_0 a2_1 a2_2 a3_0 a3_1 a3_2)) = some (r1, r2) := H
  have A9 := Aside0.mk A90
  clear A90
  by_cases c10 : t242 = true
  ·subst c10
   have H1 : ((crosstreeref10_Number.f a3_0 a3_1 a3_2).bind fun t243 => (if t243 = true then (if a3_0 < 0 then (crosstreeref10_Fill.j0 k l0 true a1_0 a1_1 a1_2 a2_0 a2_1 a2_2 a3_0 a3_1 a3_2) else (if a3_0 > 4096 then (crosstreeref10_Fill.j0 k l0 true a1_0 a1_1 a1_2 a2_0 a2_1 a2_2 a3_0 a3_1 a3_2) else ((crosstreeref10_May.f l0 a1_0 a1_1 a1_2 a3_0).bind fun t244 => (crosstreeref10_Fill.j0 k l0 (!t244) a1_0 a1_1 a1_2 a2_0 a2_1 a2_2 a3_0 a3_1 a3_2)))) else (crosstreeref10_Fill.j0 k l0 true a1_0 a1_1 a1_2 a2_0 a2_1 a2_2 a3_0 a3_1 a3_2))) = some (r1, r2) := by rw [if_pos rfl] at H; exact H
   clear H
   have H := H1
   clear H1
   replace H := Option.bind_eq_some_iff.mp H
   obtain ⟨t243, A110, H⟩ := H
   replace H : (if t243 = true then (if a3_0 < 0 then (crosstreeref10_Fill.j0 k l0 true a1_0 a1_1 a1_2 a2_0 a2_1 a2_2 a3_0 a3_1 a3_2) else (if a3_0 > 4096 then (crosstreeref10_Fill.j0 k l0 true a1_0 a1_1 a1_2 a2_0 a2_1 a2_2 a3_0 a3_1 a3_2) else ((crosstreeref10_May.f l0 a1_0 a1_1 a1_2 a3_0).bind fun t244 => (crosstreeref10_Fill.j0 k l0 (!t244) a1_0 a1_1 a1_2 a2_0 a2_1 a2_2 a3_0 a3_1 a3_2)))) else (crosstreeref10_Fill.j0 k l0 true a1_0 a1_1 a1_2 a2_0 a2_1 a2_2 a3_0 a3_1 a3_2)) = some (r1, r2) := H
   have A11 := Aside0.mk A110
   clear A110
   by_cases c12 : t243 = true
   ·subst c12
    have H1 : (if a3_0 < 0 then (crosstreeref10_Fill.j0 k l0 true a1_0 a1_1 a1_2 a2_0 a2_1 a2_2 a3_0 a3_1 a3_2) else (if a3_0 > 4096 then (crosstreeref10_Fill.j0 k l0 true a1_0 a1_1 a1_2 a2_0 a2_1 a2_2 a3_0 a3_1 a3_2) else ((crosstreeref10_May.f l0 a1_0 a1_1 a1_2 a3_0).bind fun t244 => (crosstreeref10_Fill.j0 k l0 (!t244) a1_0 a1_1 a1_2 a2_0 a2_1 a2_2 a3_0 a3_1 a3_2)))) = some (r1, r2) := by rw [if_pos rfl] at H; exact H
    clear H
    have H := H1
    clear H1
    by_cases c13 : a3_0 < 0
    ·rw [if_pos c13] at H
     have c13b0 : decide (a3_0 < 0) = true := decide_eq_true c13
     clear c13
     (first | rw [c13b0] | (simp only [i64_w, i32_w]; rw [c13b0]) | skip)
     have H' := Aside0.mk H
     clear H
     have hnb14 := NB240_239.out
     have hnc14 := NB239_240.out
     have hnb15 := NB240_241.out
     have hnc15 := NB241_240.out
     have hcz16_0 : w8.cell? ⟨gb240, 0, none⟩ = some (.int .i64 a2_0) := (q16 BK240.out 0).trans rfl
     have hcz16_1 : w8.cell? ⟨gb240, 1, none⟩ = some (.int .i64 a2_1) := (q16 BK240.out 1).trans rfl
     have hcz16_2 : w8.cell? ⟨gb240, 2, none⟩ = some (.int .i64 a2_2) := (q16 BK240.out 2).trans rfl
     have hfz16_0 := q0 BK240.out 0
     have hfz16_1 := q0 BK240.out 1
     have hfz16_2 := q0 BK240.out 2
     go_wp2_with (first | ((with_reducible refine q37 (f := 43) rfl ?_); refine goesL_ (some 13) rfl rfl Try.func43 (by kernel_rfl) rfl #[.agg #[.int .i64 a2_0, .int .i64 a2_1, .int .i64 a2_2]] rfl (by (try simp only [List.map_toArray, List.map_cons, List.map_nil]); first | done | rfl | (simp only [List.length_drop, List.length_take]; rfl)) ?_; (with_reducible refine (crosstreeref10_Number.calls a2_0 a2_1 a2_2 true _ A9.out).mono ?_); rintro e w17 ⟨rfl, hb⟩; refine ⟨_, rfl, ?_⟩; have n0_ := Aside0.mk (Kd.V_below (by (with_reducible repeat (first | apply Kd.V_alloc | apply Kd.V_drewN | apply Kd.V_drew)); exact HO0.out) hb); have n1_ := Aside0.mk (q19 (g := gb239) (o := .cells #[.int .i64 a1_0, .int .i64 a1_1, .int .i64 a1_2] 23 (0, 0)) (by (with_reducible repeat (first | refine q13 ?_ _ | refine q15 ?_ | refine q12 ?_ _)); exact BK239.out) hb); have n2_ := Aside0.mk (q19 (g := gb240) (o := .cells #[.int .i64 a2_0, .int .i64 a2_1, .int .i64 a2_2] 23 (0, 0)) (by (with_reducible repeat (first | refine q13 ?_ _ | refine q15 ?_ | refine q12 ?_ _)); exact BK240.out) hb); have n3_ := Aside0.mk (q19 (g := gb241) (o := .cells #[.int .i64 a3_0, .int .i64 a3_1, .int .i64 a3_2] 23 (0, 0)) (by (with_reducible repeat (first | refine q13 ?_ _ | refine q15 ?_ | refine q12 ?_ _)); exact BK241.out) hb); have n4_ := Aside0.mk (q20 (by repeat (first | (with_reducible first | exact HB.out | apply q10 | apply q9 | apply q11 | refine q14 ?_ GE239.out | refine q14 ?_ GE240.out | refine q14 ?_ GE241.out) | exact HB.out)) hb); clear HO0; clear BK239; clear BK240; clear BK241; clear HB; have HO0 := n0_; have BK239 := n1_; have BK240 := n2_; have BK241 := n3_; have HB := n4_; clear n0_ n1_ n2_ n3_ n4_; (try clear hb); (try clear hb2); (try clear hk); (try clear hi); have hnb18 := NB241_239.out; have hnc18 := NB239_241.out; have hcz19_0 : w17.cell? ⟨gb241, 0, none⟩ = some (.int .i64 a3_0) := (q16 BK241.out 0).trans rfl; have hcz19_1 : w17.cell? ⟨gb241, 1, none⟩ = some (.int .i64 a3_1) := (q16 BK241.out 1).trans rfl; have hcz19_2 : w17.cell? ⟨gb241, 2, none⟩ = some (.int .i64 a3_2) := (q16 BK241.out 2).trans rfl; have hfz19_0 := q0 BK241.out 0; have hfz19_1 := q0 BK241.out 1; have hfz19_2 := q0 BK241.out 2) | (go_at_call 43; (with_reducible refine (crosstreeref10_Number.calls a3_0 a3_1 a3_2 true _ A11.out).mono ?_); rintro e w20 ⟨rfl, hb⟩; have n0_ := Aside0.mk (Kd.V_below (by (with_reducible repeat (first | apply Kd.V_alloc | apply Kd.V_drewN | apply Kd.V_drew)); exact HO0.out) hb); have n1_ := Aside0.mk (q19 (g := gb239) (o := .cells #[.int .i64 a1_0, .int .i64 a1_1, .int .i64 a1_2] 23 (0, 0)) (by (with_reducible repeat (first | refine q13 ?_ _ | refine q15 ?_ | refine q12 ?_ _)); exact BK239.out) hb); have n2_ := Aside0.mk (q19 (g := gb240) (o := .cells #[.int .i64 a2_0, .int .i64 a2_1, .int .i64 a2_2] 23 (0, 0)) (by (with_reducible repeat (first | refine q13 ?_ _ | refine q15 ?_ | refine q12 ?_ _)); exact BK240.out) hb); have n3_ := Aside0.mk (q19 (g := gb241) (o := .cells #[.int .i64 a3_0, .int .i64 a3_1, .int .i64 a3_2] 23 (0, 0)) (by (with_reducible repeat (first | refine q13 ?_ _ | refine q15 ?_ | refine q12 ?_ _)); exact BK241.out) hb); have n4_ := Aside0.mk (q20 (by repeat (first | (with_reducible first | exact HB.out | apply q10 | apply q9 | apply q11 | refine q14 ?_ GE239.out | refine q14 ?_ GE240.out | refine q14 ?_ GE241.out) | exact HB.out)) hb); clear HO0; clear BK239; clear BK240; clear BK241; clear HB; have HO0 := n0_; have BK239 := n1_; have BK240 := n2_; have BK241 := n3_; have HB := n4_; clear n0_ n1_ n2_ n3_ n4_; (try clear hb); (try clear hb2); (try clear hk); (try clear hi); have hcz21_0 : w20.cell? ⟨gb241, 0, none⟩ = some (.int .i64 a3_0) := (q16 BK241.out 0).trans rfl; have hcz21_1 : w20.cell? ⟨gb241, 1, none⟩ = some (.int .i64 a3_1) := (q16 BK241.out 1).trans rfl; have hcz21_2 : w20.cell? ⟨gb241, 2, none⟩ = some (.int .i64 a3_2) := (q16 BK241.out 2).trans rfl; have hfz21_0 := q0 BK241.out 0; have hfz21_1 := q0 BK241.out 1; have hfz21_2 := q0 BK241.out 2))
     go_meet
     case rel => exact ⟨_, (true), (by first | rfl | (simp; done) | (simp [*]; done)), H', ⟨by first | omega | exact Nat.le_refl _⟩, ⟨by (with_reducible repeat (first | apply Kd.V_alloc | apply Kd.V_drewN | apply Kd.V_drew)); exact Kd.V_mono HO0.out (fun _ hk => ⟨hk.1.1.1, ⟨hk.1.1.2, ⟨hk.1.2, hk.2⟩⟩⟩)⟩, ⟨by (with_reducible repeat (first | refine q13 ?_ _ | refine q15 ?_ | refine q12 ?_ _)); exact BK239.out⟩, ⟨by (with_reducible repeat (first | refine q13 ?_ _ | refine q15 ?_ | refine q12 ?_ _)); exact BK240.out⟩, ⟨by (with_reducible repeat (first | refine q13 ?_ _ | refine q15 ?_ | refine q12 ?_ _)); exact BK241.out⟩, ⟨by repeat (first | (with_reducible first | exact HB.out | apply q10 | apply q9 | apply q11 | refine q14 ?_ GE239.out | refine q14 ?_ GE240.out | refine q14 ?_ GE241.out) | exact HB.out)⟩⟩
    ·rw [if_neg c13] at H
     have c13b0 : decide (a3_0 < 0) = false := decide_eq_false c13
     clear c13
     (first | rw [c13b0] | (simp only [i64_w, i32_w]; rw [c13b0]) | skip)
     by_cases c22 : a3_0 > 4096
     ·rw [if_pos c22] at H
      have c22b0 : decide (4096 < a3_0) = true := decide_eq_true c22
      clear c22
      have H' := Aside0.mk H
      clear H
      have hnb23 := NB240_239.out
      have hnc23 := NB239_240.out
      have hnb24 := NB240_241.out
      have hnc24 := NB241_240.out
      have hcz25_0 : w8.cell? ⟨gb240, 0, none⟩ = some (.int .i64 a2_0) := (q16 BK240.out 0).trans rfl
      have hcz25_1 : w8.cell? ⟨gb240, 1, none⟩ = some (.int .i64 a2_1) := (q16 BK240.out 1).trans rfl
      have hcz25_2 : w8.cell? ⟨gb240, 2, none⟩ = some (.int .i64 a2_2) := (q16 BK240.out 2).trans rfl
      have hfz25_0 := q0 BK240.out 0
      have hfz25_1 := q0 BK240.out 1
      have hfz25_2 := q0 BK240.out 2
      go_wp2_with (first | ((with_reducible refine q37 (f := 43) rfl ?_); refine goesL_ (some 13) rfl rfl Try.func43 (by kernel_rfl) rfl #[.agg #[.int .i64 a2_0, .int .i64 a2_1, .int .i64 a2_2]] rfl (by (try simp only [List.map_toArray, List.map_cons, List.map_nil]); first | done | rfl | (simp only [List.length_drop, List.length_take]; rfl)) ?_; (with_reducible refine (crosstreeref10_Number.calls a2_0 a2_1 a2_2 true _ A9.out).mono ?_); rintro e w26 ⟨rfl, hb⟩; refine ⟨_, rfl, ?_⟩; have n0_ := Aside0.mk (Kd.V_below (by (with_reducible repeat (first | apply Kd.V_alloc | apply Kd.V_drewN | apply Kd.V_drew)); exact HO0.out) hb); have n1_ := Aside0.mk (q19 (g := gb239) (o := .cells #[.int .i64 a1_0, .int .i64 a1_1, .int .i64 a1_2] 23 (0, 0)) (by (with_reducible repeat (first | refine q13 ?_ _ | refine q15 ?_ | refine q12 ?_ _)); exact BK239.out) hb); have n2_ := Aside0.mk (q19 (g := gb240) (o := .cells #[.int .i64 a2_0, .int .i64 a2_1, .int .i64 a2_2] 23 (0, 0)) (by (with_reducible repeat (first | refine q13 ?_ _ | refine q15 ?_ | refine q12 ?_ _)); exact BK240.out) hb); have n3_ := Aside0.mk (q19 (g := gb241) (o := .cells #[.int .i64 a3_0, .int .i64 a3_1, .int .i64 a3_2] 23 (0, 0)) (by (with_reducible repeat (first | refine q13 ?_ _ | refine q15 ?_ | refine q12 ?_ _)); exact BK241.out) hb); have n4_ := Aside0.mk (q20 (by repeat (first | (with_reducible first | exact HB.out | apply q10 | apply q9 | apply q11 | refine q14 ?_ GE239.out | refine q14 ?_ GE240.out | refine q14 ?_ GE241.out) | exact HB.out)) hb); clear HO0; clear BK239; clear BK240; clear BK241; clear HB; have HO0 := n0_; have BK239 := n1_; have BK240 := n2_; have BK241 := n3_; have HB := n4_; clear n0_ n1_ n2_ n3_ n4_; (try clear hb); (try clear hb2); (try clear hk); (try clear hi); have hnb27 := NB241_239.out; have hnc27 := NB239_241.out; have hcz28_0 : w26.cell? ⟨gb241, 0, none⟩ = some (.int .i64 a3_0) := (q16 BK241.out 0).trans rfl; have hcz28_1 : w26.cell? ⟨gb241, 1, none⟩ = some (.int .i64 a3_1) := (q16 BK241.out 1).trans rfl; have hcz28_2 : w26.cell? ⟨gb241, 2, none⟩ = some (.int .i64 a3_2) := (q16 BK241.out 2).trans rfl; have hfz28_0 := q0 BK241.out 0; have hfz28_1 := q0 BK241.out 1; have hfz28_2 := q0 BK241.out 2) | (go_at_call 43; (with_reducible refine (crosstreeref10_Number.calls a3_0 a3_1 a3_2 true _ A11.out).mono ?_); rintro e w29 ⟨rfl, hb⟩; have n0_ := Aside0.mk (Kd.V_below (by (with_reducible repeat (first | apply Kd.V_alloc | apply Kd.V_drewN | apply Kd.V_drew)); exact HO0.out) hb); have n1_ := Aside0.mk (q19 (g := gb239) (o := .cells #[.int .i64 a1_0, .int .i64 a1_1, .int .i64 a1_2] 23 (0, 0)) (by (with_reducible repeat (first | refine q13 ?_ _ | refine q15 ?_ | refine q12 ?_ _)); exact BK239.out) hb); have n2_ := Aside0.mk (q19 (g := gb240) (o := .cells #[.int .i64 a2_0, .int .i64 a2_1, .int .i64 a2_2] 23 (0, 0)) (by (with_reducible repeat (first | refine q13 ?_ _ | refine q15 ?_ | refine q12 ?_ _)); exact BK240.out) hb); have n3_ := Aside0.mk (q19 (g := gb241) (o := .cells #[.int .i64 a3_0, .int .i64 a3_1, .int .i64 a3_2] 23 (0, 0)) (by (with_reducible repeat (first | refine q13 ?_ _ | refine q15 ?_ | refine q12 ?_ _)); exact BK241.out) hb); have n4_ := Aside0.mk (q20 (by repeat (first | (with_reducible first | exact HB.out | apply q10 | apply q9 | apply q11 | refine q14 ?_ GE239.out | refine q14 ?_ GE240.out | refine q14 ?_ GE241.out) | exact HB.out)) hb); clear HO0; clear BK239; clear BK240; clear BK241; clear HB; have HO0 := n0_; have BK239 := n1_; have BK240 := n2_; have BK241 := n3_; have HB := n4_; clear n0_ n1_ n2_ n3_ n4_; (try clear hb); (try clear hb2); (try clear hk); (try clear hi); have hcz30_0 : w29.cell? ⟨gb241, 0, none⟩ = some (.int .i64 a3_0) := (q16 BK241.out 0).trans rfl; have hcz30_1 : w29.cell? ⟨gb241, 1, none⟩ = some (.int .i64 a3_1) := (q16 BK241.out 1).trans rfl; have hcz30_2 : w29.cell? ⟨gb241, 2, none⟩ = some (.int .i64 a3_2) := (q16 BK241.out 2).trans rfl; have hfz30_0 := q0 BK241.out 0; have hfz30_1 := q0 BK241.out 1; have hfz30_2 := q0 BK241.out 2))
      go_meet
      case rel => exact ⟨_, (true), (by first | rfl | (simp; done) | (simp [*]; done)), H', ⟨by first | omega | exact Nat.le_refl _⟩, ⟨by (with_reducible repeat (first | apply Kd.V_alloc | apply Kd.V_drewN | apply Kd.V_drew)); exact Kd.V_mono HO0.out (fun _ hk => ⟨hk.1.1.1, ⟨hk.1.1.2, ⟨hk.1.2, hk.2⟩⟩⟩)⟩, ⟨by (with_reducible repeat (first | refine q13 ?_ _ | refine q15 ?_ | refine q12 ?_ _)); exact BK239.out⟩, ⟨by (with_reducible repeat (first | refine q13 ?_ _ | refine q15 ?_ | refine q12 ?_ _)); exact BK240.out⟩, ⟨by (with_reducible repeat (first | refine q13 ?_ _ | refine q15 ?_ | refine q12 ?_ _)); exact BK241.out⟩, ⟨by repeat (first | (with_reducible first | exact HB.out | apply q10 | apply q9 | apply q11 | refine q14 ?_ GE239.out | refine q14 ?_ GE240.out | refine q14 ?_ GE241.out) | exact HB.out)⟩⟩
     ·rw [if_neg c22] at H
      have c22b0 : decide (4096 < a3_0) = false := decide_eq_false c22
      clear c22
      replace H := Option.bind_eq_some_iff.mp H
      obtain ⟨t244, A310, H⟩ := H
      replace H : (crosstreeref10_Fill.j0 k l0 (!t244) a1_0 a1_1 a1_2 a2_0 a2_1 a2_2 a3_0 a3_1 a3_2) = some (r1, r2) := H
      have A31 := Aside0.mk A310
      clear A310
      have H' := Aside0.mk H
      clear H
      have hnb32 := NB240_239.out
      have hnc32 := NB239_240.out
      have hnb33 := NB240_241.out
      have hnc33 := NB241_240.out
      have hcz34_0 : w8.cell? ⟨gb240, 0, none⟩ = some (.int .i64 a2_0) := (q16 BK240.out 0).trans rfl
      have hcz34_1 : w8.cell? ⟨gb240, 1, none⟩ = some (.int .i64 a2_1) := (q16 BK240.out 1).trans rfl
      have hcz34_2 : w8.cell? ⟨gb240, 2, none⟩ = some (.int .i64 a2_2) := (q16 BK240.out 2).trans rfl
      have hfz34_0 := q0 BK240.out 0
      have hfz34_1 := q0 BK240.out 1
      have hfz34_2 := q0 BK240.out 2
      go_wp2_with (first | ((with_reducible refine q37 (f := 43) rfl ?_); refine goesL_ (some 13) rfl rfl Try.func43 (by kernel_rfl) rfl #[.agg #[.int .i64 a2_0, .int .i64 a2_1, .int .i64 a2_2]] rfl (by (try simp only [List.map_toArray, List.map_cons, List.map_nil]); first | done | rfl | (simp only [List.length_drop, List.length_take]; rfl)) ?_; (with_reducible refine (crosstreeref10_Number.calls a2_0 a2_1 a2_2 true _ A9.out).mono ?_); rintro e w35 ⟨rfl, hb⟩; refine ⟨_, rfl, ?_⟩; have n0_ := Aside0.mk (Kd.V_below (by (with_reducible repeat (first | apply Kd.V_alloc | apply Kd.V_drewN | apply Kd.V_drew)); exact HO0.out) hb); have n1_ := Aside0.mk (q19 (g := gb239) (o := .cells #[.int .i64 a1_0, .int .i64 a1_1, .int .i64 a1_2] 23 (0, 0)) (by (with_reducible repeat (first | refine q13 ?_ _ | refine q15 ?_ | refine q12 ?_ _)); exact BK239.out) hb); have n2_ := Aside0.mk (q19 (g := gb240) (o := .cells #[.int .i64 a2_0, .int .i64 a2_1, .int .i64 a2_2] 23 (0, 0)) (by (with_reducible repeat (first | refine q13 ?_ _ | refine q15 ?_ | refine q12 ?_ _)); exact BK240.out) hb); have n3_ := Aside0.mk (q19 (g := gb241) (o := .cells #[.int .i64 a3_0, .int .i64 a3_1, .int .i64 a3_2] 23 (0, 0)) (by (with_reducible repeat (first | refine q13 ?_ _ | refine q15 ?_ | refine q12 ?_ _)); exact BK241.out) hb); have n4_ := Aside0.mk (q20 (by repeat (first | (with_reducible first | exact HB.out | apply q10 | apply q9 | apply q11 | refine q14 ?_ GE239.out | refine q14 ?_ GE240.out | refine q14 ?_ GE241.out) | exact HB.out)) hb); clear HO0; clear BK239; clear BK240; clear BK241; clear HB; have HO0 := n0_; have BK239 := n1_; have BK240 := n2_; have BK241 := n3_; have HB := n4_; clear n0_ n1_ n2_ n3_ n4_; (try clear hb); (try clear hb2); (try clear hk); (try clear hi); have hnb36 := NB241_239.out; have hnc36 := NB239_241.out; have hcz37_0 : w35.cell? ⟨gb241, 0, none⟩ = some (.int .i64 a3_0) := (q16 BK241.out 0).trans rfl; have hcz37_1 : w35.cell? ⟨gb241, 1, none⟩ = some (.int .i64 a3_1) := (q16 BK241.out 1).trans rfl; have hcz37_2 : w35.cell? ⟨gb241, 2, none⟩ = some (.int .i64 a3_2) := (q16 BK241.out 2).trans rfl; have hfz37_0 := q0 BK241.out 0; have hfz37_1 := q0 BK241.out 1; have hfz37_2 := q0 BK241.out 2) | (go_at_call 43; (with_reducible refine (crosstreeref10_Number.calls a3_0 a3_1 a3_2 true _ A11.out).mono ?_); rintro e w38 ⟨rfl, hb⟩; have n0_ := Aside0.mk (Kd.V_below (by (with_reducible repeat (first | apply Kd.V_alloc | apply Kd.V_drewN | apply Kd.V_drew)); exact HO0.out) hb); have n1_ := Aside0.mk (q19 (g := gb239) (o := .cells #[.int .i64 a1_0, .int .i64 a1_1, .int .i64 a1_2] 23 (0, 0)) (by (with_reducible repeat (first | refine q13 ?_ _ | refine q15 ?_ | refine q12 ?_ _)); exact BK239.out) hb); have n2_ := Aside0.mk (q19 (g := gb240) (o := .cells #[.int .i64 a2_0, .int .i64 a2_1, .int .i64 a2_2] 23 (0, 0)) (by (with_reducible repeat (first | refine q13 ?_ _ | refine q15 ?_ | refine q12 ?_ _)); exact BK240.out) hb); have n3_ := Aside0.mk (q19 (g := gb241) (o := .cells #[.int .i64 a3_0, .int .i64 a3_1, .int .i64 a3_2] 23 (0, 0)) (by (with_reducible repeat (first | refine q13 ?_ _ | refine q15 ?_ | refine q12 ?_ _)); exact BK241.out) hb); have n4_ := Aside0.mk (q20 (by repeat (first | (with_reducible first | exact HB.out | apply q10 | apply q9 | apply q11 | refine q14 ?_ GE239.out | refine q14 ?_ GE240.out | refine q14 ?_ GE241.out) | exact HB.out)) hb); clear HO0; clear BK239; clear BK240; clear BK241; clear HB; have HO0 := n0_; have BK239 := n1_; have BK240 := n2_; have BK241 := n3_; have HB := n4_; clear n0_ n1_ n2_ n3_ n4_; (try clear hb); (try clear hb2); (try clear hk); (try clear hi); have hcz39_0 : w38.cell? ⟨gb241, 0, none⟩ = some (.int .i64 a3_0) := (q16 BK241.out 0).trans rfl; have hcz39_1 : w38.cell? ⟨gb241, 1, none⟩ = some (.int .i64 a3_1) := (q16 BK241.out 1).trans rfl; have hcz39_2 : w38.cell? ⟨gb241, 2, none⟩ = some (.int .i64 a3_2) := (q16 BK241.out 2).trans rfl; have hfz39_0 := q0 BK241.out 0; have hfz39_1 := q0 BK241.out 1; have hfz39_2 := q0 BK241.out 2; have hcz40_0 : w38.cell? ⟨gb239, 0, none⟩ = some (.int .i64 a1_0) := (q16 BK239.out 0).trans rfl; have hcz40_1 : w38.cell? ⟨gb239, 1, none⟩ = some (.int .i64 a1_1) := (q16 BK239.out 1).trans rfl; have hcz40_2 : w38.cell? ⟨gb239, 2, none⟩ = some (.int .i64 a1_2) := (q16 BK239.out 2).trans rfl; have hfz40_0 := q0 BK239.out 0; have hfz40_1 := q0 BK239.out 1; have hfz40_2 := q0 BK239.out 2) | (go_at_call 42; (with_reducible refine (crosstreeref10_May.calls _ _ l0 a1_0 a1_1 a1_2 a3_0 t244 _ ?side1 ?side2 A31.out).mono ?_); (case side1 => repeat (first | exact (Kd.V_reads' HO0.out).2.2 | (with_reducible refine Kd.C_alloc ?_ _) | (with_reducible refine Kd.C_drewN ?_ _) | (with_reducible refine Kd.C_drew ?_))); (case side2 => exact (Kd.V_reads' HO0.out).2.1); rintro e w41 ⟨rfl, hb⟩; have n0_ := Aside0.mk (Kd.V_below (by (with_reducible repeat (first | apply Kd.V_alloc | apply Kd.V_drewN | apply Kd.V_drew)); exact HO0.out) hb); have n1_ := Aside0.mk (q19 (g := gb239) (o := .cells #[.int .i64 a1_0, .int .i64 a1_1, .int .i64 a1_2] 23 (0, 0)) (by (with_reducible repeat (first | refine q13 ?_ _ | refine q15 ?_ | refine q12 ?_ _)); exact BK239.out) hb); have n2_ := Aside0.mk (q19 (g := gb240) (o := .cells #[.int .i64 a2_0, .int .i64 a2_1, .int .i64 a2_2] 23 (0, 0)) (by (with_reducible repeat (first | refine q13 ?_ _ | refine q15 ?_ | refine q12 ?_ _)); exact BK240.out) hb); have n3_ := Aside0.mk (q19 (g := gb241) (o := .cells #[.int .i64 a3_0, .int .i64 a3_1, .int .i64 a3_2] 23 (0, 0)) (by (with_reducible repeat (first | refine q13 ?_ _ | refine q15 ?_ | refine q12 ?_ _)); exact BK241.out) hb); have n4_ := Aside0.mk (q20 (by repeat (first | (with_reducible first | exact HB.out | apply q10 | apply q9 | apply q11 | refine q14 ?_ GE239.out | refine q14 ?_ GE240.out | refine q14 ?_ GE241.out) | exact HB.out)) hb); clear HO0; clear BK239; clear BK240; clear BK241; clear HB; have HO0 := n0_; have BK239 := n1_; have BK240 := n2_; have BK241 := n3_; have HB := n4_; clear n0_ n1_ n2_ n3_ n4_; (try clear hb); (try clear hb2); (try clear hk); (try clear hi)))
      go_meet
      case rel => exact ⟨_, (!t244), (by first | rfl | (simp; done) | (simp [*]; done)), H', ⟨by first | omega | exact Nat.le_refl _⟩, ⟨by (with_reducible repeat (first | apply Kd.V_alloc | apply Kd.V_drewN | apply Kd.V_drew)); exact Kd.V_mono HO0.out (fun _ hk => ⟨hk.1.1.1, ⟨hk.1.1.2, ⟨hk.1.2, hk.2⟩⟩⟩)⟩, ⟨by (with_reducible repeat (first | refine q13 ?_ _ | refine q15 ?_ | refine q12 ?_ _)); exact BK239.out⟩, ⟨by (with_reducible repeat (first | refine q13 ?_ _ | refine q15 ?_ | refine q12 ?_ _)); exact BK240.out⟩, ⟨by (with_reducible repeat (first | refine q13 ?_ _ | refine q15 ?_ | refine q12 ?_ _)); exact BK241.out⟩, ⟨by repeat (first | (with_reducible first | exact HB.out | apply q10 | apply q9 | apply q11 | refine q14 ?_ GE239.out | refine q14 ?_ GE240.out | refine q14 ?_ GE241.out) | exact HB.out)⟩⟩
   ·replace c12 := Bool.eq_false_iff.mpr c12
    subst c12
    have H1 : (crosstreeref10_Fill.j0 k l0 true a1_0 a1_1 a1_2 a2_0 a2_1 a2_2 a3_0 a3_1 a3_2) = some (r1, r2) := by rw [if_neg (show ¬ (false = true) by decide)] at H; exact H
    clear H
    have H := H1
    clear H1
    have H' := Aside0.mk H
    clear H
    have hnb42 := NB240_239.out
    have hnc42 := NB239_240.out
    have hnb43 := NB240_241.out
    have hnc43 := NB241_240.out
    have hcz44_0 : w8.cell? ⟨gb240, 0, none⟩ = some (.int .i64 a2_0) := (q16 BK240.out 0).trans rfl
    have hcz44_1 : w8.cell? ⟨gb240, 1, none⟩ = some (.int .i64 a2_1) := (q16 BK240.out 1).trans rfl
    have hcz44_2 : w8.cell? ⟨gb240, 2, none⟩ = some (.int .i64 a2_2) := (q16 BK240.out 2).trans rfl
    have hfz44_0 := q0 BK240.out 0
    have hfz44_1 := q0 BK240.out 1
    have hfz44_2 := q0 BK240.out 2
    go_wp2_with (first | ((with_reducible refine q37 (f := 43) rfl ?_); refine goesL_ (some 13) rfl rfl Try.func43 (by kernel_rfl) rfl #[.agg #[.int .i64 a2_0, .int .i64 a2_1, .int .i64 a2_2]] rfl (by (try simp only [List.map_toArray, List.map_cons, List.map_nil]); first | done | rfl | (simp only [List.length_drop, List.length_take]; rfl)) ?_; (with_reducible refine (crosstreeref10_Number.calls a2_0 a2_1 a2_2 true _ A9.out).mono ?_); rintro e w45 ⟨rfl, hb⟩; refine ⟨_, rfl, ?_⟩; have n0_ := Aside0.mk (Kd.V_below (by (with_reducible repeat (first | apply Kd.V_alloc | apply Kd.V_drewN | apply Kd.V_drew)); exact HO0.out) hb); have n1_ := Aside0.mk (q19 (g := gb239) (o := .cells #[.int .i64 a1_0, .int .i64 a1_1, .int .i64 a1_2] 23 (0, 0)) (by (with_reducible repeat (first | refine q13 ?_ _ | refine q15 ?_ | refine q12 ?_ _)); exact BK239.out) hb); have n2_ := Aside0.mk (q19 (g := gb240) (o := .cells #[.int .i64 a2_0, .int .i64 a2_1, .int .i64 a2_2] 23 (0, 0)) (by (with_reducible repeat (first | refine q13 ?_ _ | refine q15 ?_ | refine q12 ?_ _)); exact BK240.out) hb); have n3_ := Aside0.mk (q19 (g := gb241) (o := .cells #[.int .i64 a3_0, .int .i64 a3_1, .int .i64 a3_2] 23 (0, 0)) (by (with_reducible repeat (first | refine q13 ?_ _ | refine q15 ?_ | refine q12 ?_ _)); exact BK241.out) hb); have n4_ := Aside0.mk (q20 (by repeat (first | (with_reducible first | exact HB.out | apply q10 | apply q9 | apply q11 | refine q14 ?_ GE239.out | refine q14 ?_ GE240.out | refine q14 ?_ GE241.out) | exact HB.out)) hb); clear HO0; clear BK239; clear BK240; clear BK241; clear HB; have HO0 := n0_; have BK239 := n1_; have BK240 := n2_; have BK241 := n3_; have HB := n4_; clear n0_ n1_ n2_ n3_ n4_; (try clear hb); (try clear hb2); (try clear hk); (try clear hi); have hnb46 := NB241_239.out; have hnc46 := NB239_241.out; have hcz47_0 : w45.cell? ⟨gb241, 0, none⟩ = some (.int .i64 a3_0) := (q16 BK241.out 0).trans rfl; have hcz47_1 : w45.cell? ⟨gb241, 1, none⟩ = some (.int .i64 a3_1) := (q16 BK241.out 1).trans rfl; have hcz47_2 : w45.cell? ⟨gb241, 2, none⟩ = some (.int .i64 a3_2) := (q16 BK241.out 2).trans rfl; have hfz47_0 := q0 BK241.out 0; have hfz47_1 := q0 BK241.out 1; have hfz47_2 := q0 BK241.out 2) | (go_at_call 43; (with_reducible refine (crosstreeref10_Number.calls a3_0 a3_1 a3_2 false _ A11.out).mono ?_); rintro e w48 ⟨rfl, hb⟩; have n0_ := Aside0.mk (Kd.V_below (by (with_reducible repeat (first | apply Kd.V_alloc | apply Kd.V_drewN | apply Kd.V_drew)); exact HO0.out) hb); have n1_ := Aside0.mk (q19 (g := gb239) (o := .cells #[.int .i64 a1_0, .int .i64 a1_1, .int .i64 a1_2] 23 (0, 0)) (by (with_reducible repeat (first | refine q13 ?_ _ | refine q15 ?_ | refine q12 ?_ _)); exact BK239.out) hb); have n2_ := Aside0.mk (q19 (g := gb240) (o := .cells #[.int .i64 a2_0, .int .i64 a2_1, .int .i64 a2_2] 23 (0, 0)) (by (with_reducible repeat (first | refine q13 ?_ _ | refine q15 ?_ | refine q12 ?_ _)); exact BK240.out) hb); have n3_ := Aside0.mk (q19 (g := gb241) (o := .cells #[.int .i64 a3_0, .int .i64 a3_1, .int .i64 a3_2] 23 (0, 0)) (by (with_reducible repeat (first | refine q13 ?_ _ | refine q15 ?_ | refine q12 ?_ _)); exact BK241.out) hb); have n4_ := Aside0.mk (q20 (by repeat (first | (with_reducible first | exact HB.out | apply q10 | apply q9 | apply q11 | refine q14 ?_ GE239.out | refine q14 ?_ GE240.out | refine q14 ?_ GE241.out) | exact HB.out)) hb); clear HO0; clear BK239; clear BK240; clear BK241; clear HB; have HO0 := n0_; have BK239 := n1_; have BK240 := n2_; have BK241 := n3_; have HB := n4_; clear n0_ n1_ n2_ n3_ n4_; (try clear hb); (try clear hb2); (try clear hk); (try clear hi)))
    go_meet
    case rel => exact ⟨_, (true), (by first | rfl | (simp; done) | (simp [*]; done)), H', ⟨by first | omega | exact Nat.le_refl _⟩, ⟨by (with_reducible repeat (first | apply Kd.V_alloc | apply Kd.V_drewN | apply Kd.V_drew)); exact Kd.V_mono HO0.out (fun _ hk => ⟨hk.1.1.1, ⟨hk.1.1.2, ⟨hk.1.2, hk.2⟩⟩⟩)⟩, ⟨by (with_reducible repeat (first | refine q13 ?_ _ | refine q15 ?_ | refine q12 ?_ _)); exact BK239.out⟩, ⟨by (with_reducible repeat (first | refine q13 ?_ _ | refine q15 ?_ | refine q12 ?_ _)); exact BK240.out⟩, ⟨by (with_reducible repeat (first | refine q13 ?_ _ | refine q15 ?_ | refine q12 ?_ _)); exact BK241.out⟩, ⟨by repeat (first | (with_reducible first | exact HB.out | apply q10 | apply q9 | apply q11 | refine q14 ?_ GE239.out | refine q14 ?_ GE240.out | refine q14 ?_ GE241.out) | exact HB.out)⟩⟩
  ·replace c10 := Bool.eq_false_iff.mpr c10
   subst c10
   have H1 : (crosstreeref10_Fill.j0 k l0 true a1_0 a1_1 a1_2 a2_0 a2_1 a2_2 a3_0 a3_1 a3_2) = some (r1, r2) := by rw [if_neg (show ¬ (false = true) by decide)] at H; exact H
   clear H
   have H := H1
   clear H1
   have H' := Aside0.mk H
   clear H
   have hnb49 := NB240_239.out
   have hnc49 := NB239_240.out
   have hnb50 := NB240_241.out
   have hnc50 := NB241_240.out
   have hcz51_0 : w8.cell? ⟨gb240, 0, none⟩ = some (.int .i64 a2_0) := (q16 BK240.out 0).trans rfl
   have hcz51_1 : w8.cell? ⟨gb240, 1, none⟩ = some (.int .i64 a2_1) := (q16 BK240.out 1).trans rfl
   have hcz51_2 : w8.cell? ⟨gb240, 2, none⟩ = some (.int .i64 a2_2) := (q16 BK240.out 2).trans rfl
   have hfz51_0 := q0 BK240.out 0
   have hfz51_1 := q0 BK240.out 1
   have hfz51_2 := q0 BK240.out 2
   go_wp2_with (first | ((with_reducible refine q37 (f := 43) rfl ?_); refine goesL_ (some 13) rfl rfl Try.func43 (by kernel_rfl) rfl #[.agg #[.int .i64 a2_0, .int .i64 a2_1, .int .i64 a2_2]] rfl (by (try simp only [List.map_toArray, List.map_cons, List.map_nil]); first | done | rfl | (simp only [List.length_drop, List.length_take]; rfl)) ?_; (with_reducible refine (crosstreeref10_Number.calls a2_0 a2_1 a2_2 false _ A9.out).mono ?_); rintro e w52 ⟨rfl, hb⟩; refine ⟨_, rfl, ?_⟩; have n0_ := Aside0.mk (Kd.V_below (by (with_reducible repeat (first | apply Kd.V_alloc | apply Kd.V_drewN | apply Kd.V_drew)); exact HO0.out) hb); have n1_ := Aside0.mk (q19 (g := gb239) (o := .cells #[.int .i64 a1_0, .int .i64 a1_1, .int .i64 a1_2] 23 (0, 0)) (by (with_reducible repeat (first | refine q13 ?_ _ | refine q15 ?_ | refine q12 ?_ _)); exact BK239.out) hb); have n2_ := Aside0.mk (q19 (g := gb240) (o := .cells #[.int .i64 a2_0, .int .i64 a2_1, .int .i64 a2_2] 23 (0, 0)) (by (with_reducible repeat (first | refine q13 ?_ _ | refine q15 ?_ | refine q12 ?_ _)); exact BK240.out) hb); have n3_ := Aside0.mk (q19 (g := gb241) (o := .cells #[.int .i64 a3_0, .int .i64 a3_1, .int .i64 a3_2] 23 (0, 0)) (by (with_reducible repeat (first | refine q13 ?_ _ | refine q15 ?_ | refine q12 ?_ _)); exact BK241.out) hb); have n4_ := Aside0.mk (q20 (by repeat (first | (with_reducible first | exact HB.out | apply q10 | apply q9 | apply q11 | refine q14 ?_ GE239.out | refine q14 ?_ GE240.out | refine q14 ?_ GE241.out) | exact HB.out)) hb); clear HO0; clear BK239; clear BK240; clear BK241; clear HB; have HO0 := n0_; have BK239 := n1_; have BK240 := n2_; have BK241 := n3_; have HB := n4_; clear n0_ n1_ n2_ n3_ n4_; (try clear hb); (try clear hb2); (try clear hk); (try clear hi)))
   go_meet
   case rel => exact ⟨_, (true), (by first | rfl | (simp; done) | (simp [*]; done)), H', ⟨by first | omega | exact Nat.le_refl _⟩, ⟨by (with_reducible repeat (first | apply Kd.V_alloc | apply Kd.V_drewN | apply Kd.V_drew)); exact Kd.V_mono HO0.out (fun _ hk => ⟨hk.1.1.1, ⟨hk.1.1.2, ⟨hk.1.2, hk.2⟩⟩⟩)⟩, ⟨by (with_reducible repeat (first | refine q13 ?_ _ | refine q15 ?_ | refine q12 ?_ _)); exact BK239.out⟩, ⟨by (with_reducible repeat (first | refine q13 ?_ _ | refine q15 ?_ | refine q12 ?_ _)); exact BK240.out⟩, ⟨by (with_reducible repeat (first | refine q13 ?_ _ | refine q15 ?_ | refine q12 ?_ _)); exact BK241.out⟩, ⟨by repeat (first | (with_reducible first | exact HB.out | apply q10 | apply q9 | apply q11 | refine q14 ?_ GE239.out | refine q14 ?_ GE240.out | refine q14 ?_ GE241.out) | exact HB.out)⟩⟩
 case rest =>
  clear HC5
  try clear c1
  try clear c2
  try clear p2
  try clear c3
  try clear c4
  try clear c5
  try clear c10
  try clear c12
  try clear c13
  try clear c13b0
  try clear c14
  try clear c15
  try clear c18
  try clear c22
  try clear c22b0
  try clear c23
  try clear c24
  try clear c27
  try clear c28
  try clear c32
  try clear c33
  try clear c36
  try clear c42
  try clear c43
  try clear c46
  try clear c49
  try clear c50
  try clear hcz16_0
  try clear hcz16_1
  try clear hcz16_2
  try clear hcz19_0
  try clear hcz19_1
  try clear hcz19_2
  try clear hcz21_0
  try clear hcz21_1
  try clear hcz21_2
  try clear hcz25_0
  try clear hcz25_1
  try clear hcz25_2
  try clear hcz28_0
  try clear hcz28_1
  try clear hcz28_2
  try clear hcz30_0
  try clear hcz30_1
  try clear hcz30_2
  try clear hcz34_0
  try clear hcz34_1
  try clear hcz34_2
  try clear hcz37_0
  try clear hcz37_1
  try clear hcz37_2
  try clear hcz39_0
  try clear hcz39_1
  try clear hcz39_2
  try clear hcz40_0
  try clear hcz40_1
  try clear hcz40_2
  try clear hcz44_0
  try clear hcz44_1
  try clear hcz44_2
  try clear hcz47_0
  try clear hcz47_1
  try clear hcz47_2
  try clear hcz51_0
  try clear hcz51_1
  try clear hcz51_2
  try clear hfz16_0
  try clear hfz16_1
  try clear hfz16_2
  try clear hfz19_0
  try clear hfz19_1
  try clear hfz19_2
  try clear hfz21_0
  try clear hfz21_1
  try clear hfz21_2
  try clear hfz25_0
  try clear hfz25_1
  try clear hfz25_2
  try clear hfz28_0
  try clear hfz28_1
  try clear hfz28_2
  try clear hfz30_0
  try clear hfz30_1
  try clear hfz30_2
  try clear hfz34_0
  try clear hfz34_1
  try clear hfz34_2
  try clear hfz37_0
  try clear hfz37_1
  try clear hfz37_2
  try clear hfz39_0
  try clear hfz39_1
  try clear hfz39_2
  try clear hfz40_0
  try clear hfz40_1
  try clear hfz40_2
  try clear hfz44_0
  try clear hfz44_1
  try clear hfz44_2
  try clear hfz47_0
  try clear hfz47_1
  try clear hfz47_2
  try clear hfz51_0
  try clear hfz51_1
  try clear hfz51_2
  obtain ⟨kq, x37_4, rfl, HA, HJ4, HO_0, BK239, BK240, BK241, HB⟩ := hcut
  cases kq with
  | zero => exact absurd HA.out (by simp [crosstreeref10_Fill.j0])
  | succ kj4 =>
   have H := HA.out
   clear HA
   simp only [crosstreeref10_Fill.j0] at H
   by_cases c53 : x37_4 = true
   ·subst c53
    have H1 : (some (l0, 9)) = some (r1, r2) := by rw [if_pos rfl] at H; exact H
    clear H
    have H := H1
    clear H1
    simp only [Option.some.injEq, Prod.mk.injEq] at H
    obtain ⟨rfl, rfl⟩ := H
    go_wp2
    go_ret2
    exact ⟨_, by first | rfl | (simp [q26, q25] <;> rfl) | (simp [*, q26, q25] <;> rfl), by (with_reducible repeat (first | apply Kd.V_alloc | apply Kd.V_drewN | apply Kd.V_drew)); exact Kd.V_mono HO_0.out (fun _ hk => hk.1), by repeat (first | (with_reducible first | exact HB.out | apply q10 | apply q9 | apply q11 | refine q14 ?_ GE239.out | refine q14 ?_ GE240.out | refine q14 ?_ GE241.out) | exact HB.out)⟩
   ·replace c53 := Bool.eq_false_iff.mpr c53
    subst c53
    have H1 : (crosstreeref10_Fill.l0 kj4 l0 ([] : List (S42)) 0 a1_0 a1_1 a1_2 a2_0 a2_1 a2_2 a3_0 a3_1 a3_2) = some (r1, r2) := by rw [if_neg (show ¬ (false = true) by decide)] at H; exact H
    clear H
    have H := H1
    clear H1
    have H' := Aside0.mk H
    clear H
    go_wp2
    go_loopg [10, 11] kj4 (fun kq v10 v11 w' => ∃ (x10_2 : List (S42)) (x11_2 : Int), v11 = .int .i64 x11_2 ∧ Aside0 (crosstreeref10_Fill.l0 kq l0 x10_2 x11_2 a1_0 a1_1 a1_2 a2_0 a2_1 a2_2 a3_0 a3_1 a3_2 = some (r1, r2)) ∧ Aside0 (kq ≤ kj4) ∧ Aside0 (Kd.V k69 69 w' w.heap.size (fun k_ => (P0_ k_ ∨ w.heap.size ≤ k_) ∧ some k_ ≠ (v10 : Value).ownBlock ∧ k_ ≠ gb239 ∧ k_ ≠ gb240 ∧ k_ ≠ gb241) (.slice A0 l0.length c0) l0) ∧ Aside0 (Kd.R k42 42 w' w.heap.size (fun k_ => (w.heap.size ≤ k_)) v10 x10_2) ∧ Aside0 (w'.heap[gb239]? = some (.cells #[.int .i64 a1_0, .int .i64 a1_1, .int .i64 a1_2] 23 (0, 0))) ∧ Aside0 (w'.heap[gb240]? = some (.cells #[.int .i64 a2_0, .int .i64 a2_1, .int .i64 a2_2] 23 (0, 0))) ∧ Aside0 (w'.heap[gb241]? = some (.cells #[.int .i64 a3_0, .int .i64 a3_1, .int .i64 a3_2] 23 (0, 0))) ∧ Aside0 (Below w.heap.size w w'))
    case atStart => exact ⟨(([] : List (S42))), (0), (by first | rfl | (simp; done) | (simp [*]; done)), H', ⟨Nat.le_refl _⟩, ⟨by (with_reducible repeat (first | apply Kd.V_alloc | apply Kd.V_drewN | apply Kd.V_drew)); exact Kd.V_mono HO_0.out (fun _ hk => ⟨hk.1, ⟨(by simp [Value.ownBlock]), ⟨hk.2.1, ⟨hk.2.2.1, hk.2.2.2⟩⟩⟩⟩)⟩, ⟨by first | exact Kd.R_nil _ _ _ _ _ | exact Kd.N_nil _ _ _ _ _ | exact Kd.V_nil _ _ _ _ _ | exact Kd.Q_nil _ _ _ _ _ | exact Kd.S_nil _ _ _ _ _⟩, ⟨by (with_reducible repeat (first | refine q13 ?_ _ | refine q15 ?_ | refine q12 ?_ _)); exact BK239.out⟩, ⟨by (with_reducible repeat (first | refine q13 ?_ _ | refine q15 ?_ | refine q12 ?_ _)); exact BK240.out⟩, ⟨by (with_reducible repeat (first | refine q13 ?_ _ | refine q15 ?_ | refine q12 ?_ _)); exact BK241.out⟩, ⟨by repeat (first | (with_reducible first | exact HB.out | apply q10 | apply q9 | apply q11 | refine q14 ?_ GE239.out | refine q14 ?_ GE240.out | refine q14 ?_ GE241.out) | exact HB.out)⟩⟩
    case round =>
     clear H'
     try clear c1
     try clear c2
     try clear p2
     try clear c3
     try clear c4
     try clear c5
     try clear c10
     try clear c12
     try clear c13
     try clear c13b0
     try clear c14
     try clear c15
     try clear c18
     try clear c22
     try clear c22b0
     try clear c23
     try clear c24
     try clear c27
     try clear c28
     try clear c32
     try clear c33
     try clear c36
     try clear c42
     try clear c43
     try clear c46
     try clear c49
     try clear c50
     try clear c53
     try clear hcz16_0
     try clear hcz16_1
     try clear hcz16_2
     try clear hcz19_0
     try clear hcz19_1
     try clear hcz19_2
     try clear hcz21_0
     try clear hcz21_1
     try clear hcz21_2
     try clear hcz25_0
     try clear hcz25_1
     try clear hcz25_2
     try clear hcz28_0
     try clear hcz28_1
     try clear hcz28_2
     try clear hcz30_0
     try clear hcz30_1
     try clear hcz30_2
     try clear hcz34_0
     try clear hcz34_1
     try clear hcz34_2
     try clear hcz37_0
     try clear hcz37_1
     try clear hcz37_2
     try clear hcz39_0
     try clear hcz39_1
     try clear hcz39_2
     try clear hcz40_0
     try clear hcz40_1
     try clear hcz40_2
     try clear hcz44_0
     try clear hcz44_1
     try clear hcz44_2
     try clear hcz47_0
     try clear hcz47_1
     try clear hcz47_2
     try clear hcz51_0
     try clear hcz51_1
     try clear hcz51_2
     try clear hfz16_0
     try clear hfz16_1
     try clear hfz16_2
     try clear hfz19_0
     try clear hfz19_1
     try clear hfz19_2
     try clear hfz21_0
     try clear hfz21_1
     try clear hfz21_2
     try clear hfz25_0
     try clear hfz25_1
     try clear hfz25_2
     try clear hfz28_0
     try clear hfz28_1
     try clear hfz28_2
     try clear hfz30_0
     try clear hfz30_1
     try clear hfz30_2
     try clear hfz34_0
     try clear hfz34_1
     try clear hfz34_2
     try clear hfz37_0
     try clear hfz37_1
     try clear hfz37_2
     try clear hfz39_0
     try clear hfz39_1
     try clear hfz39_2
     try clear hfz40_0
     try clear hfz40_1
     try clear hfz40_2
     try clear hfz44_0
     try clear hfz44_1
     try clear hfz44_2
     try clear hfz47_0
     try clear hfz47_1
     try clear hfz47_2
     try clear hfz51_0
     try clear hfz51_1
     try clear hfz51_2
     try clear p2
     obtain ⟨x10_2, x11_2, rfl, HA, HK2, HO_0, HO_10, BK239, BK240, BK241, HB⟩ := hrel
     cases gk with
     | zero => exact absurd HA.out (by simp [crosstreeref10_Fill.l0])
     | succ k2 =>
      have H := HA.out
      clear HA
      simp only [crosstreeref10_Fill.l0] at H
      by_cases c54 : x11_2 < a3_0
      ·rw [if_pos c54] at H
       have c54b0 : decide (x11_2 < a3_0) = true := decide_eq_true c54
       clear c54
       by_cases c55 : x10_2.length < 3518437208883
       ·rw [if_pos c55] at H
        have LMc55 := Aside0.mk c55
        clear c55
        obtain ⟨y245, hy245⟩ : ∃ y_ : List (S42), y_ = (x10_2 ++ [(⟨1, (Int.tmod (IntKind.u64.wrap (a2_0)) 256) % 256, (⟨0, 0, 0⟩ : S23)⟩ : S42)]) := ⟨_, rfl⟩
        replace H : (crosstreeref10_Fill.l0 k2 l0 y245 (wrap64 (x11_2 + 1)) a1_0 a1_1 a1_2 a2_0 a2_1 a2_2 a3_0 a3_1 a3_2) = some (r1, r2) := by first | (rw [hy245]; with_reducible exact H) | (have H2_ := (Option.bind_some _ _).symm.trans H; rw [hy245]; with_reducible exact H2_) | (have H2_ := (Option.bind_some _ _).symm.trans H; with_reducible exact H2_) | with_reducible exact H | (rw [hy245]; exact H) | exact H
        have Ny245 := Aside0.mk hy245
        clear hy245
        have H' := Aside0.mk H
        clear H
        have hnb56 := NB241_239.out
        have hnc56 := NB239_241.out
        have hnb57 := NB241_240.out
        have hnc57 := NB240_241.out
        have hcz58_0 : wr.cell? ⟨gb241, 0, none⟩ = some (.int .i64 a3_0) := (q16 BK241.out 0).trans rfl
        have hcz58_1 : wr.cell? ⟨gb241, 1, none⟩ = some (.int .i64 a3_1) := (q16 BK241.out 1).trans rfl
        have hcz58_2 : wr.cell? ⟨gb241, 2, none⟩ = some (.int .i64 a3_2) := (q16 BK241.out 2).trans rfl
        have hfz58_0 := q0 BK241.out 0
        have hfz58_1 := q0 BK241.out 1
        have hfz58_2 := q0 BK241.out 2
        have hnb59 := NB240_239.out
        have hnc59 := NB239_240.out
        have hcz60_0 : wr.cell? ⟨gb240, 0, none⟩ = some (.int .i64 a2_0) := (q16 BK240.out 0).trans rfl
        have hcz60_1 : wr.cell? ⟨gb240, 1, none⟩ = some (.int .i64 a2_1) := (q16 BK240.out 1).trans rfl
        have hcz60_2 : wr.cell? ⟨gb240, 2, none⟩ = some (.int .i64 a2_2) := (q16 BK240.out 2).trans rfl
        have hfz60_0 := q0 BK240.out 0
        have hfz60_1 := q0 BK240.out 1
        have hfz60_2 := q0 BK240.out 2
        go_wp2_with (first | ((with_reducible refine gate_builtin (b := .append) (xs := #[.tmp 45, .tmp 52]) rfl ?_); at_builtin; refine Kd.R_append k42 (w0 := w) w.heap.size rfl (.tmp 45) (.tmp 52) 38 42 (.agg #[(.int .i64 0), (.int .u8 0), (.int .i64 0), (.int .i64 0), (.int .i64 0)]) 40 rfl Try.underlying38 info42 rfl (by decide) (by omega) u10 x10_2 (⟨1, (Int.tmod (IntKind.u64.wrap (a2_0)) 256) % 256, (⟨0, 0, 0⟩ : S23)⟩ : S42) [.int .i64 1, .int .u8 ((Int.tmod (IntKind.u64.wrap (a2_0)) 256) % 256), .int .i64 0, .int .i64 0, .int .i64 0] (fun k_ => (w.heap.size ≤ k_)) (fun _ => False) rfl rfl ?aP (fun _ hk => hk.elim) ?aF ?aO ?aB ?aS ?aL ?_; (case aP => exact k42_mkM _ _ _ (⟨1, (Int.tmod (IntKind.u64.wrap (a2_0)) 256) % 256, (⟨0, 0, 0⟩ : S23)⟩ : S42)); (case aB => exact (by repeat (first | (with_reducible first | exact HB.out | apply q10 | apply q9 | apply q11 | refine q14 ?_ GE239.out | refine q14 ?_ GE240.out | refine q14 ?_ GE241.out) | exact HB.out))); (case aF => exact (fun k_ hk => (Nat.le_trans (q21 (by repeat (first | (with_reducible first | exact HB.out | apply q10 | apply q9 | apply q11 | refine q14 ?_ GE239.out | refine q14 ?_ GE240.out | refine q14 ?_ GE241.out) | exact HB.out))) hk))); (case aO => exact (by (with_reducible repeat (first | apply Kd.R_alloc | apply Kd.R_drewN | apply Kd.R_drew)); exact HO_10.out)); (case aS => exact (q21 (by repeat (first | (with_reducible first | exact HB.out | apply q10 | apply q9 | apply q11 | refine q14 ?_ GE239.out | refine q14 ?_ GE240.out | refine q14 ?_ GE241.out) | exact HB.out)))); (case aL => have := LMc55.out; omega); intro v246 w61 ho hb hg hat; rw [← Ny245.out] at ho; have n0_ := Aside0.mk (Kd.V_afterv (ok := (fun k_ => (P0_ k_ ∨ w.heap.size ≤ k_) ∧ k_ ≠ gb239 ∧ k_ ≠ gb240 ∧ k_ ≠ gb241)) (by (with_reducible repeat (first | apply Kd.V_alloc | apply Kd.V_drewN | apply Kd.V_drew)); exact Kd.V_mono HO_0.out (fun _ hk => ⟨⟨hk.1, ⟨hk.2.2.1, ⟨hk.2.2.2.1, hk.2.2.2.2⟩⟩⟩, hk.2.1⟩)) hg hat); have n1_ := Aside0.mk (q45 (g := gb239) (o := .cells #[.int .i64 a1_0, .int .i64 a1_1, .int .i64 a1_2] 23 (0, 0)) (by (with_reducible repeat (first | refine q13 ?_ _ | refine q15 ?_ | refine q12 ?_ _)); exact BK239.out) hg (Kd.R_ne HO_10.out BK239.out (by decide))); have n2_ := Aside0.mk (q45 (g := gb240) (o := .cells #[.int .i64 a2_0, .int .i64 a2_1, .int .i64 a2_2] 23 (0, 0)) (by (with_reducible repeat (first | refine q13 ?_ _ | refine q15 ?_ | refine q12 ?_ _)); exact BK240.out) hg (Kd.R_ne HO_10.out BK240.out (by decide))); have n3_ := Aside0.mk (q45 (g := gb241) (o := .cells #[.int .i64 a3_0, .int .i64 a3_1, .int .i64 a3_2] 23 (0, 0)) (by (with_reducible repeat (first | refine q13 ?_ _ | refine q15 ?_ | refine q12 ?_ _)); exact BK241.out) hg (Kd.R_ne HO_10.out BK241.out (by decide))); have n4_ := Aside0.mk (hb); have n5_ := Aside0.mk (ho); clear HO_0; clear BK239; clear BK240; clear BK241; clear HB; clear HO_10; have HO_0 := n0_; have BK239 := n1_; have BK240 := n2_; have BK241 := n3_; have HB := n4_; have HO247 := n5_; clear n0_ n1_ n2_ n3_ n4_ n5_; clear ho hb hg hat))
        go_roundg k2
        case measure => have := HJ4.out; have := HK2.out; omega
        case rel => exact ⟨(y245), (wrap64 (x11_2 + 1)), (by first | rfl | (simp; done) | (simp [*]; done)), H', ⟨by have := HJ4.out; have := HK2.out; omega⟩, ⟨by (with_reducible repeat (first | apply Kd.V_alloc | apply Kd.V_drewN | apply Kd.V_drew)); exact Kd.V_mono HO_0.out (fun _ hk => ⟨hk.1.1, ⟨hk.2, ⟨hk.1.2.1, ⟨hk.1.2.2.1, hk.1.2.2.2⟩⟩⟩⟩)⟩, ⟨by (with_reducible repeat (first | apply Kd.R_alloc | apply Kd.R_drewN | apply Kd.R_drew)); exact HO247.out⟩, ⟨by (with_reducible repeat (first | refine q13 ?_ _ | refine q15 ?_ | refine q12 ?_ _)); exact BK239.out⟩, ⟨by (with_reducible repeat (first | refine q13 ?_ _ | refine q15 ?_ | refine q12 ?_ _)); exact BK240.out⟩, ⟨by (with_reducible repeat (first | refine q13 ?_ _ | refine q15 ?_ | refine q12 ?_ _)); exact BK241.out⟩, ⟨by repeat (first | (with_reducible first | exact HB.out | apply q10 | apply q9 | apply q11 | refine q14 ?_ GE239.out | refine q14 ?_ GE240.out | refine q14 ?_ GE241.out) | exact HB.out)⟩⟩
       ·rw [if_neg c55] at H
        exact absurd H (by simp)
      ·rw [if_neg c54] at H
       have c54b0 : decide (x11_2 < a3_0) = false := decide_eq_false c54
       clear c54
       replace H := Option.bind_eq_some_iff.mp H
       obtain ⟨t248, A620, H⟩ := H
       replace H : (some (t248, 0)) = some (r1, r2) := H
       have A62 := Aside0.mk A620
       clear A620
       simp only [Option.some.injEq, Prod.mk.injEq] at H
       obtain ⟨rfl, rfl⟩ := H
       have hnb63 := NB241_239.out
       have hnc63 := NB239_241.out
       have hnb64 := NB241_240.out
       have hnc64 := NB240_241.out
       have hcz65_0 : wr.cell? ⟨gb241, 0, none⟩ = some (.int .i64 a3_0) := (q16 BK241.out 0).trans rfl
       have hcz65_1 : wr.cell? ⟨gb241, 1, none⟩ = some (.int .i64 a3_1) := (q16 BK241.out 1).trans rfl
       have hcz65_2 : wr.cell? ⟨gb241, 2, none⟩ = some (.int .i64 a3_2) := (q16 BK241.out 2).trans rfl
       have hfz65_0 := q0 BK241.out 0
       have hfz65_1 := q0 BK241.out 1
       have hfz65_2 := q0 BK241.out 2
       have hnb66 := NB239_240.out
       have hnc66 := NB240_239.out
       have hcz67_0 : wr.cell? ⟨gb239, 0, none⟩ = some (.int .i64 a1_0) := (q16 BK239.out 0).trans rfl
       have hcz67_1 : wr.cell? ⟨gb239, 1, none⟩ = some (.int .i64 a1_1) := (q16 BK239.out 1).trans rfl
       have hcz67_2 : wr.cell? ⟨gb239, 2, none⟩ = some (.int .i64 a1_2) := (q16 BK239.out 2).trans rfl
       have hfz67_0 := q0 BK239.out 0
       have hfz67_1 := q0 BK239.out 1
       have hfz67_2 := q0 BK239.out 2
       obtain ⟨Ao68, co68, eo68⟩ := Kd.R_slice HO_10.out
       subst eo68
       go_wp2_with (first | ((with_reducible refine q37 (f := 41) rfl ?_); refine goesL_ (some 57) rfl rfl Try.func41 (by kernel_rfl) rfl #[.slice A0 l0.length c0, .agg #[.int .i64 a1_0, .int .i64 a1_1, .int .i64 a1_2], .slice Ao68 x10_2.length co68] rfl (by (try simp only [List.map_toArray, List.map_cons, List.map_nil]); first | done | rfl | (simp only [List.length_drop, List.length_take]; rfl)) ?_; (with_reducible refine (crosstreeref10_Lay.calls k2 (fun k_ => ((P0_ k_ ∨ w.heap.size ≤ k_) ∧ (some k_ ≠ (.slice Ao68 x10_2.length co68 : Value).ownBlock ∧ (k_ ≠ gb239 ∧ (k_ ≠ gb240 ∧ k_ ≠ gb241))))) _ _ l0 a1_0 a1_1 a1_2 _ _ x10_2 t248 _ ?side1 ?side2 ?side3 A62.out).mono ?_); (case side1 => exact HO_0.out); (case side2 => repeat (first | exact (Kd.R_reads' HO_10.out).2.2 | (with_reducible refine Kd.C_alloc ?_ _) | (with_reducible refine Kd.C_drewN ?_ _) | (with_reducible refine Kd.C_drew ?_))); (case side3 => exact (Kd.R_reads' HO_10.out).2.1); rintro e w69 ⟨v249, rfl, ho0, hb⟩; refine ⟨_, rfl, ?_⟩; have n0_ := Aside0.mk (Kd.V_elder' (by (with_reducible repeat (first | apply Kd.V_alloc | apply Kd.V_drewN | apply Kd.V_drew)); exact HO_0.out) (Kd.N_base ho0) hb); have n1_ := Aside0.mk (Kd.R_below (by (with_reducible repeat (first | apply Kd.R_alloc | apply Kd.R_drewN | apply Kd.R_drew)); exact HO_10.out) hb); have n2_ := Aside0.mk (Kd.N_lower (Kd.N_mono (ok' := fun k_ => (P0_ k_ ∨ w.heap.size ≤ k_) ∧ some k_ ≠ (.slice Ao68 x10_2.length co68 : Value).ownBlock ∧ k_ ≠ gb239 ∧ k_ ≠ gb240 ∧ k_ ≠ gb241) ho0 (fun k_ hk_ => ⟨Or.elim hk_ (fun hs_ => hs_.1) (fun hn_ => (.inr (Nat.le_trans (q21 (by repeat (first | (with_reducible first | exact HB.out | apply q10 | apply q9 | apply q11 | refine q14 ?_ GE239.out | refine q14 ?_ GE240.out | refine q14 ?_ GE241.out) | exact HB.out))) hn_))), Or.elim hk_ (fun hs_ => hs_.2.1) (fun hn_ => (Kd.fresh' (Kd.R_lt (by (with_reducible repeat (first | apply Kd.R_alloc | apply Kd.R_drewN | apply Kd.R_drew)); exact HO_10.out)) k_ hn_)), Or.elim hk_ (fun hs_ => hs_.2.2.1) (fun hn_ => (Kd.freshB (g := gb239) (o := .cells #[.int .i64 a1_0, .int .i64 a1_1, .int .i64 a1_2] 23 (0, 0)) (by (with_reducible repeat (first | refine q13 ?_ _ | refine q15 ?_ | refine q12 ?_ _)); exact BK239.out) k_ hn_)), Or.elim hk_ (fun hs_ => hs_.2.2.2.1) (fun hn_ => (Kd.freshB (g := gb240) (o := .cells #[.int .i64 a2_0, .int .i64 a2_1, .int .i64 a2_2] 23 (0, 0)) (by (with_reducible repeat (first | refine q13 ?_ _ | refine q15 ?_ | refine q12 ?_ _)); exact BK240.out) k_ hn_)), Or.elim hk_ (fun hs_ => hs_.2.2.2.2) (fun hn_ => (Kd.freshB (g := gb241) (o := .cells #[.int .i64 a3_0, .int .i64 a3_1, .int .i64 a3_2] 23 (0, 0)) (by (with_reducible repeat (first | refine q13 ?_ _ | refine q15 ?_ | refine q12 ?_ _)); exact BK241.out) k_ hn_))⟩)) (q21 (by repeat (first | (with_reducible first | exact HB.out | apply q10 | apply q9 | apply q11 | refine q14 ?_ GE239.out | refine q14 ?_ GE240.out | refine q14 ?_ GE241.out) | exact HB.out)))); have n3_ := Aside0.mk (q19 (g := gb239) (o := .cells #[.int .i64 a1_0, .int .i64 a1_1, .int .i64 a1_2] 23 (0, 0)) (by (with_reducible repeat (first | refine q13 ?_ _ | refine q15 ?_ | refine q12 ?_ _)); exact BK239.out) hb); have n4_ := Aside0.mk (q19 (g := gb240) (o := .cells #[.int .i64 a2_0, .int .i64 a2_1, .int .i64 a2_2] 23 (0, 0)) (by (with_reducible repeat (first | refine q13 ?_ _ | refine q15 ?_ | refine q12 ?_ _)); exact BK240.out) hb); have n5_ := Aside0.mk (q19 (g := gb241) (o := .cells #[.int .i64 a3_0, .int .i64 a3_1, .int .i64 a3_2] 23 (0, 0)) (by (with_reducible repeat (first | refine q13 ?_ _ | refine q15 ?_ | refine q12 ?_ _)); exact BK241.out) hb); have n6_ := Aside0.mk (q20 (by repeat (first | (with_reducible first | exact HB.out | apply q10 | apply q9 | apply q11 | refine q14 ?_ GE239.out | refine q14 ?_ GE240.out | refine q14 ?_ GE241.out) | exact HB.out)) hb); clear HO_0; clear HO_10; clear BK239; clear BK240; clear BK241; clear HB; have HO_0 := n0_; have HO_10 := n1_; have HO250 := n2_; have BK239 := n3_; have BK240 := n4_; have BK241 := n5_; have HB := n6_; clear n0_ n1_ n2_ n3_ n4_ n5_ n6_; (try clear hb); (try clear hb2); (try clear hk); (try clear hi); (try clear ho0)))
       go_ret2
       exact ⟨_, by first | rfl | (simp [q26, q25] <;> rfl) | (simp [*, q26, q25] <;> rfl), Kd.N_V (by (with_reducible repeat (first | apply Kd.N_alloc | apply Kd.N_drewN | apply Kd.N_drew)); exact Kd.N_mono HO250.out (fun _ hk => hk.1)), by repeat (first | (with_reducible first | exact HB.out | apply q10 | apply q9 | apply q11 | refine q14 ?_ GE239.out | refine q14 ?_ GE240.out | refine q14 ?_ GE241.out) | exact HB.out)⟩
end Go.Proofs.Yteogfjhmjlelnaa.H
namespace Go.Proofs.Yteogfjhmjlelnaa.H
open Go.RowKit Go.Proofs.YteogfjhmjlelnaaW.PrintWords Go.Proofs.YteogfjhmjlelnaaW.PrintLast Go.Proofs.YteogfjhmjlelnaaW.PrintMore
attribute [local go_sem] max2_int min2_int max_two min_two max_three min_three max_four min_four
set_option linter.unusedVariables false
set_option linter.unusedSimpArgs false
def crosstreeref10_Add.j0 : Nat → List (S69) → Int → Bool → Int → Int → Int → Option (Int × Int × Int × Int)
 | 0, _, _, _, _, _, _ => none
 | k + 1, x0, x2, x25, x255000, x255001, x255002 => if x25 = true then (some (0, 0, 0, 9)) else (if 0 ≤ (wrap64 (x255001 - 1)) then (if (wrap64 (x255001 - 1)) < (x0.length : Int) then (if x255000 < 0 then (some (0, 0, 0, 9)) else (if x255000 > (((q23 x0 (wrap64 (x255001 - 1))).f1).length : Int) then (some (0, 0, 0, 9)) else (if x2 > (((q23 x0 (wrap64 (x255001 - 1))).f1).length : Int) then (some (0, 0, 0, 9)) else (if x2 < (wrap64 (-(((q23 x0 (wrap64 (x255001 - 1))).f1).length : Int))) then (some (0, 0, 0, 9)) else (if (wrap64 (x255000 + x2)) < 0 then (some (0, 0, 0, 9)) else (if (wrap64 (x255000 + x2)) > (((q23 x0 (wrap64 (x255001 - 1))).f1).length : Int) then (some (0, 0, 0, 9)) else (some (wrap64 (x255000 + x2), x255001, 0, 0)))))))) else (none)) else (none))
def crosstreeref10_Add.f (k : Nat) (l0 : List (S69)) (a1_0 : Int) (a1_1 : Int) (a1_2 : Int) (a2 : Int) : Option (Int × Int × Int × Int) := (crosstreeref10_Number.f a1_0 a1_1 a1_2).bind fun t256 => (if t256 = true then (some (wrap64 (a1_0 + a2), 0, 0, 0)) else ((crosstreeref10_Pointer.f a1_0 a1_1 a1_2).bind fun t257 => (if t257 = true then ((crosstreeref10_Is.f l0 a1_1).bind fun t258 => (crosstreeref10_Add.j0 k l0 a2 (!t258) a1_0 a1_1 a1_2)) else (crosstreeref10_Add.j0 k l0 a2 true a1_0 a1_1 a1_2))))
theorem crosstreeref10_Add.mono_l : ∀ k, (∀ y0 y1 y2 y3 y4 y5, LeO (crosstreeref10_Add.j0 k y0 y1 y2 y3 y4 y5) (crosstreeref10_Add.j0 (k + 1) y0 y1 y2 y3 y4 y5))
 | 0 => fun _ _ _ _ _ _ r h => by simp [crosstreeref10_Add.j0] at h
 | k + 1 => by
  have ih0 := crosstreeref10_Add.mono_l k
  ·intro y0 y1 y2 y3 y4 y5
   unfold crosstreeref10_Add.j0
   repeat' first
   | (with_reducible exact ih0 _ _ _ _ _ _)
   | (with_reducible exact LeO.refl _)
   | (with_reducible exact LeO.none _)
   | (with_reducible refine LeO.ite ?_ ?_)
   | (with_reducible refine LeO.bind ?_ (fun _ => ?_))
   | exact ih0 _ _ _ _ _ _
   | exact LeO.none _
   | refine LeO.ite ?_ ?_
   | refine LeO.bind ?_ (fun _ => ?_)
theorem crosstreeref10_Add.mono : ∀ a0 a1 a2 a3 a4 k, LeO (crosstreeref10_Add.f k a0 a1 a2 a3 a4) (crosstreeref10_Add.f (k + 1) a0 a1 a2 a3 a4) := by
 intro a0 a1 a2 a3 a4 k
 have ih0 := crosstreeref10_Add.mono_l k
 unfold crosstreeref10_Add.f
 repeat' first
   | (with_reducible exact ih0 _ _ _ _ _ _)
   | (with_reducible exact LeO.refl _)
   | (with_reducible exact LeO.none _)
   | (with_reducible refine LeO.ite ?_ ?_)
   | (with_reducible refine LeO.bind ?_ (fun _ => ?_))
   | exact ih0 _ _ _ _ _ _
   | exact LeO.none _
   | refine LeO.ite ?_ ?_
   | refine LeO.bind ?_ (fun _ => ?_)
set_option maxHeartbeats 8000000 in
set_option maxRecDepth 100000 in
theorem crosstreeref10_Add.calls (k : Nat) (A0 : Option Addr) (c0 : Nat) (l0 : List (S69)) (a1_0 : Int) (a1_1 : Int) (a1_2 : Int) (a2 : Int) (r1 : Int) (r2 : Int) (r3 : Int) (r4 : Int) (w : World) (hr0 : Kd.C k69 w A0 l0.length l0) (hc0 : l0.length ≤ c0) (h : crosstreeref10_Add.f k l0 a1_0 a1_1 a1_2 a2 = some (r1, r2, r3, r4)) :
  Calls Try.prog 30 #[.slice A0 l0.length c0, .agg #[.int .i64 a1_0, .int .i64 a1_1, .int .i64 a1_2], .int .i64 a2] w fun e w' => e = .returned (.tuple #[.agg #[.int .i64 r1, .int .i64 r2, .int .i64 r3], .int .i64 r4]) ∧ Below w.heap.size w w' := by
 have hu23 := Try.underlying23
 have HR0 := Aside0.mk hr0
 have HC0 := Aside0.mk hc0
 clear hr0 hc0
 have HB := Aside0.mk (Below.refl w.heap.size w)
 have H : ((crosstreeref10_Number.f a1_0 a1_1 a1_2).bind fun t256 => (if t256 = true then (some (wrap64 (a1_0 + a2), 0, 0, 0)) else ((crosstreeref10_Pointer.f a1_0 a1_1 a1_2).bind fun t257 => (if t257 = true then ((crosstreeref10_Is.f l0 a1_1).bind fun t258 => (crosstreeref10_Add.j0 k l0 a2 (!t258) a1_0 a1_1 a1_2)) else (crosstreeref10_Add.j0 k l0 a2 true a1_0 a1_1 a1_2))))) = some (r1, r2, r3, r4) := h
 clear h
 replace H := Option.bind_eq_some_iff.mp H
 obtain ⟨t256, A40, H⟩ := H
 replace H : (if t256 = true then (some (wrap64 (a1_0 + a2), 0, 0, 0)) else ((crosstreeref10_Pointer.f a1_0 a1_1 a1_2).bind fun t257 => (if t257 = true then ((crosstreeref10_Is.f l0 a1_1).bind fun t258 => (crosstreeref10_Add.j0 k l0 a2 (!t258) a1_0 a1_1 a1_2)) else (crosstreeref10_Add.j0 k l0 a2 true a1_0 a1_1 a1_2)))) = some (r1, r2, r3, r4) := H
 have A4 := Aside0.mk A40
 clear A40
 by_cases c5 : t256 = true
 ·subst c5
  have H1 : (some (wrap64 (a1_0 + a2), 0, 0, 0)) = some (r1, r2, r3, r4) := by rw [if_pos rfl] at H; exact H
  clear H
  have H := H1
  clear H1
  simp only [Option.some.injEq, Prod.mk.injEq] at H
  obtain ⟨rfl, rfl, rfl, rfl⟩ := H
  go_enter Try.func30, Try.ntmps30
  go_wp2_with (first | ((with_reducible refine q32 (N := 4) rfl ?_); refine q29 ?hg (N := 4) ?hd (cs := #[.int .i64 a1_0, .int .i64 a1_1, .int .i64 a1_2]) (t := 23) ?hr ?_; (case hd => rfl); (case hg => rfl); (case hr => first | (go_simp; done) | (go_simp; rfl)); intro gb254 hg w6 hbox hb; have n0_ := Aside0.mk (q20 (by repeat (first | (with_reducible first | exact HB.out | apply q10 | apply q9 | apply q11) | exact HB.out)) hb); have n1_ := Aside0.mk (hbox); have n2_ := Aside0.mk ((by rw [hg]; exact (q21 (by repeat (first | (with_reducible first | exact HB.out | apply q10 | apply q9 | apply q11) | exact HB.out))) : w.heap.size ≤ gb254)); have n3_ := Aside0.mk ((by rw [hg]; exact (q21 (by repeat (first | (with_reducible first | exact HB.out | apply q10 | apply q9 | apply q11) | exact HB.out))) : w.heap.size ≤ gb254)); clear HB; have HB := n0_; have BK254 := n1_; have GW254 := n2_; have GE254 := n3_; clear n0_ n1_ n2_ n3_; clear hb hbox hg) | ((with_reducible refine q32 (N := 6) rfl ?_); refine q29 ?hg (N := 6) ?hd (cs := #[.int .i64 0, .int .i64 0, .int .i64 0]) (t := 23) ?hr ?_; (case hd => rfl); (case hg => rfl); (case hr => first | (go_simp; done) | (go_simp; rfl)); intro gb255 hg w7 hbox hb; have n0_ := Aside0.mk (q19 (g := gb254) (o := .cells #[.int .i64 a1_0, .int .i64 a1_1, .int .i64 a1_2] 23 (0, 0)) (by (with_reducible repeat (first | refine q13 ?_ _ | refine q15 ?_ | refine q12 ?_ _)); exact BK254.out) hb); have n1_ := Aside0.mk (q20 (by repeat (first | (with_reducible first | exact HB.out | apply q10 | apply q9 | apply q11 | refine q14 ?_ GE254.out) | exact HB.out)) hb); have n2_ := Aside0.mk (hbox); have n3_ := Aside0.mk ((by rw [hg]; exact (q21 (by repeat (first | (with_reducible first | exact HB.out | apply q10 | apply q9 | apply q11 | refine q14 ?_ GE254.out) | exact HB.out))) : w.heap.size ≤ gb255)); have n4_ := Aside0.mk ((by rw [hg]; exact (q21 (by repeat (first | (with_reducible first | exact HB.out | apply q10 | apply q9 | apply q11 | refine q14 ?_ GE254.out) | exact HB.out))) : w.heap.size ≤ gb255)); have n5_ := Aside0.mk ((by rw [hg]; exact Nat.ne_of_lt (q30 (g := gb254) (o := .cells #[.int .i64 a1_0, .int .i64 a1_1, .int .i64 a1_2] 23 (0, 0)) (by (with_reducible repeat (first | refine q13 ?_ _ | refine q15 ?_ | refine q12 ?_ _)); exact BK254.out)) : gb254 ≠ gb255)); have n6_ := Aside0.mk ((by rw [hg]; exact Nat.ne_of_gt (q30 (g := gb254) (o := .cells #[.int .i64 a1_0, .int .i64 a1_1, .int .i64 a1_2] 23 (0, 0)) (by (with_reducible repeat (first | refine q13 ?_ _ | refine q15 ?_ | refine q12 ?_ _)); exact BK254.out)) : gb255 ≠ gb254)); clear BK254; clear HB; have BK254 := n0_; have HB := n1_; have BK255 := n2_; have GW255 := n3_; have GE255 := n4_; have NB254_255 := n5_; have NB255_254 := n6_; clear n0_ n1_ n2_ n3_ n4_ n5_ n6_; clear hb hbox hg; have hnb8 := NB254_255.out; have hnc8 := NB255_254.out; have hcz9_0 : w7.cell? ⟨gb254, 0, none⟩ = some (.int .i64 a1_0) := (q16 BK254.out 0).trans rfl; have hcz9_1 : w7.cell? ⟨gb254, 1, none⟩ = some (.int .i64 a1_1) := (q16 BK254.out 1).trans rfl; have hcz9_2 : w7.cell? ⟨gb254, 2, none⟩ = some (.int .i64 a1_2) := (q16 BK254.out 2).trans rfl; have hfz9_0 := q0 BK254.out 0; have hfz9_1 := q0 BK254.out 1; have hfz9_2 := q0 BK254.out 2) | ((with_reducible refine q37 (f := 43) rfl ?_); refine goesL_ (some 10) rfl rfl Try.func43 (by kernel_rfl) rfl #[.agg #[.int .i64 a1_0, .int .i64 a1_1, .int .i64 a1_2]] rfl (by (try simp only [List.map_toArray, List.map_cons, List.map_nil]); first | done | rfl | (simp only [List.length_drop, List.length_take]; rfl)) ?_; (with_reducible refine (crosstreeref10_Number.calls a1_0 a1_1 a1_2 true _ A4.out).mono ?_); rintro e w10 ⟨rfl, hb⟩; refine ⟨_, rfl, ?_⟩; have n0_ := Aside0.mk (q19 (g := gb254) (o := .cells #[.int .i64 a1_0, .int .i64 a1_1, .int .i64 a1_2] 23 (0, 0)) (by (with_reducible repeat (first | refine q13 ?_ _ | refine q15 ?_ | refine q12 ?_ _)); exact BK254.out) hb); have n1_ := Aside0.mk (q19 (g := gb255) (o := .cells #[.int .i64 0, .int .i64 0, .int .i64 0] 23 (0, 0)) (by (with_reducible repeat (first | refine q13 ?_ _ | refine q15 ?_ | refine q12 ?_ _)); exact BK255.out) hb); have n2_ := Aside0.mk (q20 (by repeat (first | (with_reducible first | exact HB.out | apply q10 | apply q9 | apply q11 | refine q14 ?_ GE254.out | refine q14 ?_ GE255.out) | exact HB.out)) hb); clear BK254; clear BK255; clear HB; have BK254 := n0_; have BK255 := n1_; have HB := n2_; clear n0_ n1_ n2_; (try clear hb); (try clear hb2); (try clear hk); (try clear hi); have hcz11_0 : w10.cell? ⟨gb254, 0, none⟩ = some (.int .i64 a1_0) := (q16 BK254.out 0).trans rfl; have hcz11_1 : w10.cell? ⟨gb254, 1, none⟩ = some (.int .i64 a1_1) := (q16 BK254.out 1).trans rfl; have hcz11_2 : w10.cell? ⟨gb254, 2, none⟩ = some (.int .i64 a1_2) := (q16 BK254.out 2).trans rfl; have hfz11_0 := q0 BK254.out 0; have hfz11_1 := q0 BK254.out 1; have hfz11_2 := q0 BK254.out 2; have hcz12_0 : w10.cell? ⟨gb255, 0, none⟩ = some (.int .i64 0) := (q16 BK255.out 0).trans rfl; have hcz12_1 : w10.cell? ⟨gb255, 1, none⟩ = some (.int .i64 0) := (q16 BK255.out 1).trans rfl; have hcz12_2 : w10.cell? ⟨gb255, 2, none⟩ = some (.int .i64 0) := (q16 BK255.out 2).trans rfl; have hfz12_0 := q0 BK255.out 0; have hfz12_1 := q0 BK255.out 1; have hfz12_2 := q0 BK255.out 2))
  refine bodyPost_ret (q41 rfl _ _ gb255 23 #[.int .i64 (wrap64 (a1_0 + a2)), .int .i64 0, .int .i64 0] (0, 0) _ rfl (by (with_reducible repeat (first | refine q13 ?_ _ | refine q15 ?_ | refine q12 ?_ _)); refine q28 (cs := #[.int .i64 (wrap64 (a1_0 + a2)), .int .i64 0, .int .i64 0]) ?_ 2 _ rfl; (with_reducible repeat (first | refine q13 ?_ _ | refine q15 ?_ | refine q12 ?_ _)); refine q28 (cs := #[.int .i64 (wrap64 (a1_0 + a2)), .int .i64 0, .int .i64 0]) ?_ 1 _ rfl; (with_reducible repeat (first | refine q13 ?_ _ | refine q15 ?_ | refine q12 ?_ _)); refine q28 (cs := #[.int .i64 0, .int .i64 0, .int .i64 0]) ?_ 0 _ rfl; (with_reducible repeat (first | refine q13 ?_ _ | refine q15 ?_ | refine q12 ?_ _)); exact BK255.out) Try.underlying23 rfl (by kernel_rfl)) rfl ?_
  exact ⟨by first | rfl | (simp [q26, q25] <;> rfl) | (simp [*, q26, q25] <;> rfl), by repeat (first | (with_reducible first | exact HB.out | apply q10 | apply q9 | apply q11 | refine q14 ?_ GE254.out | refine q14 ?_ GE255.out) | exact HB.out)⟩
 ·replace c5 := Bool.eq_false_iff.mpr c5
  subst c5
  have H1 : ((crosstreeref10_Pointer.f a1_0 a1_1 a1_2).bind fun t257 => (if t257 = true then ((crosstreeref10_Is.f l0 a1_1).bind fun t258 => (crosstreeref10_Add.j0 k l0 a2 (!t258) a1_0 a1_1 a1_2)) else (crosstreeref10_Add.j0 k l0 a2 true a1_0 a1_1 a1_2))) = some (r1, r2, r3, r4) := by rw [if_neg (show ¬ (false = true) by decide)] at H; exact H
  clear H
  have H := H1
  clear H1
  have HC13 := Aside0.mk H
  clear H
  go_enter Try.func30, Try.ntmps30
  go_upto_region 3 with (first | ((with_reducible refine q32 (N := 4) rfl ?_); refine q29 ?hg (N := 4) ?hd (cs := #[.int .i64 a1_0, .int .i64 a1_1, .int .i64 a1_2]) (t := 23) ?hr ?_; (case hd => rfl); (case hg => rfl); (case hr => first | (go_simp; done) | (go_simp; rfl)); intro gb254 hg w14 hbox hb; have n0_ := Aside0.mk (q20 (by repeat (first | (with_reducible first | exact HB.out | apply q10 | apply q9 | apply q11) | exact HB.out)) hb); have n1_ := Aside0.mk (hbox); have n2_ := Aside0.mk ((by rw [hg]; exact (q21 (by repeat (first | (with_reducible first | exact HB.out | apply q10 | apply q9 | apply q11) | exact HB.out))) : w.heap.size ≤ gb254)); have n3_ := Aside0.mk ((by rw [hg]; exact (q21 (by repeat (first | (with_reducible first | exact HB.out | apply q10 | apply q9 | apply q11) | exact HB.out))) : w.heap.size ≤ gb254)); clear HB; have HB := n0_; have BK254 := n1_; have GW254 := n2_; have GE254 := n3_; clear n0_ n1_ n2_ n3_; clear hb hbox hg) | ((with_reducible refine q32 (N := 6) rfl ?_); refine q29 ?hg (N := 6) ?hd (cs := #[.int .i64 0, .int .i64 0, .int .i64 0]) (t := 23) ?hr ?_; (case hd => rfl); (case hg => rfl); (case hr => first | (go_simp; done) | (go_simp; rfl)); intro gb255 hg w15 hbox hb; have n0_ := Aside0.mk (q19 (g := gb254) (o := .cells #[.int .i64 a1_0, .int .i64 a1_1, .int .i64 a1_2] 23 (0, 0)) (by (with_reducible repeat (first | refine q13 ?_ _ | refine q15 ?_ | refine q12 ?_ _)); exact BK254.out) hb); have n1_ := Aside0.mk (q20 (by repeat (first | (with_reducible first | exact HB.out | apply q10 | apply q9 | apply q11 | refine q14 ?_ GE254.out) | exact HB.out)) hb); have n2_ := Aside0.mk (hbox); have n3_ := Aside0.mk ((by rw [hg]; exact (q21 (by repeat (first | (with_reducible first | exact HB.out | apply q10 | apply q9 | apply q11 | refine q14 ?_ GE254.out) | exact HB.out))) : w.heap.size ≤ gb255)); have n4_ := Aside0.mk ((by rw [hg]; exact (q21 (by repeat (first | (with_reducible first | exact HB.out | apply q10 | apply q9 | apply q11 | refine q14 ?_ GE254.out) | exact HB.out))) : w.heap.size ≤ gb255)); have n5_ := Aside0.mk ((by rw [hg]; exact Nat.ne_of_lt (q30 (g := gb254) (o := .cells #[.int .i64 a1_0, .int .i64 a1_1, .int .i64 a1_2] 23 (0, 0)) (by (with_reducible repeat (first | refine q13 ?_ _ | refine q15 ?_ | refine q12 ?_ _)); exact BK254.out)) : gb254 ≠ gb255)); have n6_ := Aside0.mk ((by rw [hg]; exact Nat.ne_of_gt (q30 (g := gb254) (o := .cells #[.int .i64 a1_0, .int .i64 a1_1, .int .i64 a1_2] 23 (0, 0)) (by (with_reducible repeat (first | refine q13 ?_ _ | refine q15 ?_ | refine q12 ?_ _)); exact BK254.out)) : gb255 ≠ gb254)); clear BK254; clear HB; have BK254 := n0_; have HB := n1_; have BK255 := n2_; have GW255 := n3_; have GE255 := n4_; have NB254_255 := n5_; have NB255_254 := n6_; clear n0_ n1_ n2_ n3_ n4_ n5_ n6_; clear hb hbox hg; have hnb16 := NB254_255.out; have hnc16 := NB255_254.out; have hcz17_0 : w15.cell? ⟨gb254, 0, none⟩ = some (.int .i64 a1_0) := (q16 BK254.out 0).trans rfl; have hcz17_1 : w15.cell? ⟨gb254, 1, none⟩ = some (.int .i64 a1_1) := (q16 BK254.out 1).trans rfl; have hcz17_2 : w15.cell? ⟨gb254, 2, none⟩ = some (.int .i64 a1_2) := (q16 BK254.out 2).trans rfl; have hfz17_0 := q0 BK254.out 0; have hfz17_1 := q0 BK254.out 1; have hfz17_2 := q0 BK254.out 2) | ((with_reducible refine q37 (f := 43) rfl ?_); refine goesL_ (some 10) rfl rfl Try.func43 (by kernel_rfl) rfl #[.agg #[.int .i64 a1_0, .int .i64 a1_1, .int .i64 a1_2]] rfl (by (try simp only [List.map_toArray, List.map_cons, List.map_nil]); first | done | rfl | (simp only [List.length_drop, List.length_take]; rfl)) ?_; (with_reducible refine (crosstreeref10_Number.calls a1_0 a1_1 a1_2 false _ A4.out).mono ?_); rintro e w18 ⟨rfl, hb⟩; refine ⟨_, rfl, ?_⟩; have n0_ := Aside0.mk (q19 (g := gb254) (o := .cells #[.int .i64 a1_0, .int .i64 a1_1, .int .i64 a1_2] 23 (0, 0)) (by (with_reducible repeat (first | refine q13 ?_ _ | refine q15 ?_ | refine q12 ?_ _)); exact BK254.out) hb); have n1_ := Aside0.mk (q19 (g := gb255) (o := .cells #[.int .i64 0, .int .i64 0, .int .i64 0] 23 (0, 0)) (by (with_reducible repeat (first | refine q13 ?_ _ | refine q15 ?_ | refine q12 ?_ _)); exact BK255.out) hb); have n2_ := Aside0.mk (q20 (by repeat (first | (with_reducible first | exact HB.out | apply q10 | apply q9 | apply q11 | refine q14 ?_ GE254.out | refine q14 ?_ GE255.out) | exact HB.out)) hb); clear BK254; clear BK255; clear HB; have BK254 := n0_; have BK255 := n1_; have HB := n2_; clear n0_ n1_ n2_; (try clear hb); (try clear hb2); (try clear hk); (try clear hi)))
  (try simp only [Act.put, List.setIfInBounds_toArray, List.set_cons_zero, List.set_cons_succ])
  go_cut [25] (fun v25 wc => ∃ (kq : Nat) (x25_12 : Bool), v25 = .bool x25_12 ∧ Aside0 (crosstreeref10_Add.j0 kq l0 a2 x25_12 a1_0 a1_1 a1_2 = some (r1, r2, r3, r4)) ∧ Aside0 (kq ≤ k) ∧ Aside0 (wc.heap[gb254]? = some (.cells #[.int .i64 a1_0, .int .i64 a1_1, .int .i64 a1_2] 23 (0, 0))) ∧ Aside0 (wc.heap[gb255]? = some (.cells #[.int .i64 0, .int .i64 0, .int .i64 0] 23 (0, 0))) ∧ Aside0 (Below w.heap.size w wc))
  case first =>
   have H := HC13.out
   clear HC13
   replace H := Option.bind_eq_some_iff.mp H
   obtain ⟨t257, A190, H⟩ := H
   replace H : (if t257 = true then ((crosstreeref10_Is.f l0 a1_1).bind fun t258 => (crosstreeref10_Add.j0 k l0 a2 (!t258) a1_0 a1_1 a1_2)) else (crosstreeref10_Add.j0 k l0 a2 true a1_0 a1_1 a1_2)) = some (r1, r2, r3, r4) := H
   have A19 := Aside0.mk A190
   clear A190
   by_cases c20 : t257 = true
   ·subst c20
    have H1 : ((crosstreeref10_Is.f l0 a1_1).bind fun t258 => (crosstreeref10_Add.j0 k l0 a2 (!t258) a1_0 a1_1 a1_2)) = some (r1, r2, r3, r4) := by rw [if_pos rfl] at H; exact H
    clear H
    have H := H1
    clear H1
    replace H := Option.bind_eq_some_iff.mp H
    obtain ⟨t258, A210, H⟩ := H
    replace H : (crosstreeref10_Add.j0 k l0 a2 (!t258) a1_0 a1_1 a1_2) = some (r1, r2, r3, r4) := H
    have A21 := Aside0.mk A210
    clear A210
    have H' := Aside0.mk H
    clear H
    have hnb22 := NB254_255.out
    have hnc22 := NB255_254.out
    have hcz23_0 : w18.cell? ⟨gb254, 0, none⟩ = some (.int .i64 a1_0) := (q16 BK254.out 0).trans rfl
    have hcz23_1 : w18.cell? ⟨gb254, 1, none⟩ = some (.int .i64 a1_1) := (q16 BK254.out 1).trans rfl
    have hcz23_2 : w18.cell? ⟨gb254, 2, none⟩ = some (.int .i64 a1_2) := (q16 BK254.out 2).trans rfl
    have hfz23_0 := q0 BK254.out 0
    have hfz23_1 := q0 BK254.out 1
    have hfz23_2 := q0 BK254.out 2
    go_wp2_with (first | ((with_reducible refine q37 (f := 40) rfl ?_); refine goesL_ (some 17) rfl rfl Try.func40 (by kernel_rfl) rfl #[.agg #[.int .i64 a1_0, .int .i64 a1_1, .int .i64 a1_2]] rfl (by (try simp only [List.map_toArray, List.map_cons, List.map_nil]); first | done | rfl | (simp only [List.length_drop, List.length_take]; rfl)) ?_; (with_reducible refine (crosstreeref10_Pointer.calls a1_0 a1_1 a1_2 true _ A19.out).mono ?_); rintro e w24 ⟨rfl, hb⟩; refine ⟨_, rfl, ?_⟩; have n0_ := Aside0.mk (q19 (g := gb254) (o := .cells #[.int .i64 a1_0, .int .i64 a1_1, .int .i64 a1_2] 23 (0, 0)) (by (with_reducible repeat (first | refine q13 ?_ _ | refine q15 ?_ | refine q12 ?_ _)); exact BK254.out) hb); have n1_ := Aside0.mk (q19 (g := gb255) (o := .cells #[.int .i64 0, .int .i64 0, .int .i64 0] 23 (0, 0)) (by (with_reducible repeat (first | refine q13 ?_ _ | refine q15 ?_ | refine q12 ?_ _)); exact BK255.out) hb); have n2_ := Aside0.mk (q20 (by repeat (first | (with_reducible first | exact HB.out | apply q10 | apply q9 | apply q11 | refine q14 ?_ GE254.out | refine q14 ?_ GE255.out) | exact HB.out)) hb); clear BK254; clear BK255; clear HB; have BK254 := n0_; have BK255 := n1_; have HB := n2_; clear n0_ n1_ n2_; (try clear hb); (try clear hb2); (try clear hk); (try clear hi); have hcz25_0 : w24.cell? ⟨gb254, 0, none⟩ = some (.int .i64 a1_0) := (q16 BK254.out 0).trans rfl; have hcz25_1 : w24.cell? ⟨gb254, 1, none⟩ = some (.int .i64 a1_1) := (q16 BK254.out 1).trans rfl; have hcz25_2 : w24.cell? ⟨gb254, 2, none⟩ = some (.int .i64 a1_2) := (q16 BK254.out 2).trans rfl; have hfz25_0 := q0 BK254.out 0; have hfz25_1 := q0 BK254.out 1; have hfz25_2 := q0 BK254.out 2) | (go_at_call 31; (with_reducible refine (crosstreeref10_Is.calls _ _ l0 a1_1 t258 _ ?side1 ?side2 A21.out).mono ?_); (case side1 => repeat (first | exact (Kd.C_below HR0.out HB.out) | (with_reducible refine Kd.C_alloc ?_ _) | (with_reducible refine Kd.C_drewN ?_ _) | (with_reducible refine Kd.C_drew ?_))); (case side2 => exact HC0.out); rintro e w' ⟨rfl, ⟨nd, rfl⟩⟩))
    go_meet
    case rel => exact ⟨_, (!t258), (by first | rfl | (simp; done) | (simp [*]; done)), H', ⟨by first | omega | exact Nat.le_refl _⟩, ⟨by (with_reducible repeat (first | refine q13 ?_ _ | refine q15 ?_ | refine q12 ?_ _)); exact BK254.out⟩, ⟨by (with_reducible repeat (first | refine q13 ?_ _ | refine q15 ?_ | refine q12 ?_ _)); exact BK255.out⟩, ⟨by repeat (first | (with_reducible first | exact HB.out | apply q10 | apply q9 | apply q11 | refine q14 ?_ GE254.out | refine q14 ?_ GE255.out) | exact HB.out)⟩⟩
   ·replace c20 := Bool.eq_false_iff.mpr c20
    subst c20
    have H1 : (crosstreeref10_Add.j0 k l0 a2 true a1_0 a1_1 a1_2) = some (r1, r2, r3, r4) := by rw [if_neg (show ¬ (false = true) by decide)] at H; exact H
    clear H
    have H := H1
    clear H1
    have H' := Aside0.mk H
    clear H
    have hnb26 := NB254_255.out
    have hnc26 := NB255_254.out
    have hcz27_0 : w18.cell? ⟨gb254, 0, none⟩ = some (.int .i64 a1_0) := (q16 BK254.out 0).trans rfl
    have hcz27_1 : w18.cell? ⟨gb254, 1, none⟩ = some (.int .i64 a1_1) := (q16 BK254.out 1).trans rfl
    have hcz27_2 : w18.cell? ⟨gb254, 2, none⟩ = some (.int .i64 a1_2) := (q16 BK254.out 2).trans rfl
    have hfz27_0 := q0 BK254.out 0
    have hfz27_1 := q0 BK254.out 1
    have hfz27_2 := q0 BK254.out 2
    go_wp2_with (first | ((with_reducible refine q37 (f := 40) rfl ?_); refine goesL_ (some 17) rfl rfl Try.func40 (by kernel_rfl) rfl #[.agg #[.int .i64 a1_0, .int .i64 a1_1, .int .i64 a1_2]] rfl (by (try simp only [List.map_toArray, List.map_cons, List.map_nil]); first | done | rfl | (simp only [List.length_drop, List.length_take]; rfl)) ?_; (with_reducible refine (crosstreeref10_Pointer.calls a1_0 a1_1 a1_2 false _ A19.out).mono ?_); rintro e w28 ⟨rfl, hb⟩; refine ⟨_, rfl, ?_⟩; have n0_ := Aside0.mk (q19 (g := gb254) (o := .cells #[.int .i64 a1_0, .int .i64 a1_1, .int .i64 a1_2] 23 (0, 0)) (by (with_reducible repeat (first | refine q13 ?_ _ | refine q15 ?_ | refine q12 ?_ _)); exact BK254.out) hb); have n1_ := Aside0.mk (q19 (g := gb255) (o := .cells #[.int .i64 0, .int .i64 0, .int .i64 0] 23 (0, 0)) (by (with_reducible repeat (first | refine q13 ?_ _ | refine q15 ?_ | refine q12 ?_ _)); exact BK255.out) hb); have n2_ := Aside0.mk (q20 (by repeat (first | (with_reducible first | exact HB.out | apply q10 | apply q9 | apply q11 | refine q14 ?_ GE254.out | refine q14 ?_ GE255.out) | exact HB.out)) hb); clear BK254; clear BK255; clear HB; have BK254 := n0_; have BK255 := n1_; have HB := n2_; clear n0_ n1_ n2_; (try clear hb); (try clear hb2); (try clear hk); (try clear hi)))
    go_meet
    case rel => exact ⟨_, (true), (by first | rfl | (simp; done) | (simp [*]; done)), H', ⟨by first | omega | exact Nat.le_refl _⟩, ⟨by (with_reducible repeat (first | refine q13 ?_ _ | refine q15 ?_ | refine q12 ?_ _)); exact BK254.out⟩, ⟨by (with_reducible repeat (first | refine q13 ?_ _ | refine q15 ?_ | refine q12 ?_ _)); exact BK255.out⟩, ⟨by repeat (first | (with_reducible first | exact HB.out | apply q10 | apply q9 | apply q11 | refine q14 ?_ GE254.out | refine q14 ?_ GE255.out) | exact HB.out)⟩⟩
  case rest =>
   clear HC13
   try clear c1
   try clear c2
   try clear p2
   try clear c3
   try clear c4
   try clear c5
   try clear p6
   try clear c8
   try clear c16
   try clear c20
   try clear c22
   try clear c26
   try clear hcz11_0
   try clear hcz11_1
   try clear hcz11_2
   try clear hcz12_0
   try clear hcz12_1
   try clear hcz12_2
   try clear hcz17_0
   try clear hcz17_1
   try clear hcz17_2
   try clear hcz23_0
   try clear hcz23_1
   try clear hcz23_2
   try clear hcz25_0
   try clear hcz25_1
   try clear hcz25_2
   try clear hcz27_0
   try clear hcz27_1
   try clear hcz27_2
   try clear hcz9_0
   try clear hcz9_1
   try clear hcz9_2
   try clear hfz11_0
   try clear hfz11_1
   try clear hfz11_2
   try clear hfz12_0
   try clear hfz12_1
   try clear hfz12_2
   try clear hfz17_0
   try clear hfz17_1
   try clear hfz17_2
   try clear hfz23_0
   try clear hfz23_1
   try clear hfz23_2
   try clear hfz25_0
   try clear hfz25_1
   try clear hfz25_2
   try clear hfz27_0
   try clear hfz27_1
   try clear hfz27_2
   try clear hfz9_0
   try clear hfz9_1
   try clear hfz9_2
   obtain ⟨kq, x25_12, rfl, HA, HJ12, BK254, BK255, HB⟩ := hcut
   cases kq with
   | zero => exact absurd HA.out (by simp [crosstreeref10_Add.j0])
   | succ kj12 =>
    have H := HA.out
    clear HA
    simp only [crosstreeref10_Add.j0] at H
    by_cases c29 : x25_12 = true
    ·subst c29
     have H1 : (some (0, 0, 0, 9)) = some (r1, r2, r3, r4) := by rw [if_pos rfl] at H; exact H
     clear H
     have H := H1
     clear H1
     simp only [Option.some.injEq, Prod.mk.injEq] at H
     obtain ⟨rfl, rfl, rfl, rfl⟩ := H
     have hnb30 := NB255_254.out
     have hnc30 := NB254_255.out
     have hcz31_0 : wc.cell? ⟨gb255, 0, none⟩ = some (.int .i64 0) := (q16 BK255.out 0).trans rfl
     have hcz31_1 : wc.cell? ⟨gb255, 1, none⟩ = some (.int .i64 0) := (q16 BK255.out 1).trans rfl
     have hcz31_2 : wc.cell? ⟨gb255, 2, none⟩ = some (.int .i64 0) := (q16 BK255.out 2).trans rfl
     have hfz31_0 := q0 BK255.out 0
     have hfz31_1 := q0 BK255.out 1
     have hfz31_2 := q0 BK255.out 2
     go_wp2
     refine bodyPost_ret (q41 rfl _ _ gb255 23 #[.int .i64 0, .int .i64 0, .int .i64 0] (0, 0) _ rfl (by (with_reducible repeat (first | refine q13 ?_ _ | refine q15 ?_ | refine q12 ?_ _)); refine q28 (cs := #[.int .i64 0, .int .i64 0, .int .i64 0]) ?_ 2 _ rfl; (with_reducible repeat (first | refine q13 ?_ _ | refine q15 ?_ | refine q12 ?_ _)); refine q28 (cs := #[.int .i64 0, .int .i64 0, .int .i64 0]) ?_ 1 _ rfl; (with_reducible repeat (first | refine q13 ?_ _ | refine q15 ?_ | refine q12 ?_ _)); refine q28 (cs := #[.int .i64 0, .int .i64 0, .int .i64 0]) ?_ 0 _ rfl; (with_reducible repeat (first | refine q13 ?_ _ | refine q15 ?_ | refine q12 ?_ _)); exact BK255.out) Try.underlying23 rfl (by kernel_rfl)) rfl ?_
     exact ⟨by first | rfl | (simp [q26, q25] <;> rfl) | (simp [*, q26, q25] <;> rfl), by repeat (first | (with_reducible first | exact HB.out | apply q10 | apply q9 | apply q11 | refine q14 ?_ GE254.out | refine q14 ?_ GE255.out) | exact HB.out)⟩
    ·replace c29 := Bool.eq_false_iff.mpr c29
     subst c29
     have H1 : (if 0 ≤ (wrap64 (a1_1 - 1)) then (if (wrap64 (a1_1 - 1)) < (l0.length : Int) then (if a1_0 < 0 then (some (0, 0, 0, 9)) else (if a1_0 > (((q23 l0 (wrap64 (a1_1 - 1))).f1).length : Int) then (some (0, 0, 0, 9)) else (if a2 > (((q23 l0 (wrap64 (a1_1 - 1))).f1).length : Int) then (some (0, 0, 0, 9)) else (if a2 < (wrap64 (-(((q23 l0 (wrap64 (a1_1 - 1))).f1).length : Int))) then (some (0, 0, 0, 9)) else (if (wrap64 (a1_0 + a2)) < 0 then (some (0, 0, 0, 9)) else (if (wrap64 (a1_0 + a2)) > (((q23 l0 (wrap64 (a1_1 - 1))).f1).length : Int) then (some (0, 0, 0, 9)) else (some (wrap64 (a1_0 + a2), a1_1, 0, 0)))))))) else (none)) else (none)) = some (r1, r2, r3, r4) := by rw [if_neg (show ¬ (false = true) by decide)] at H; exact H
     clear H
     have H := H1
     clear H1
     obtain ⟨ji32, hji32⟩ : ∃ j_ : Int, (wrap64 (a1_1 - 1)) = j_ := ⟨_, rfl⟩
     replace H : (if 0 ≤ (ji32) then (if (ji32) < (l0.length : Int) then (if a1_0 < 0 then (some (0, 0, 0, 9)) else (if a1_0 > (((q23 l0 (ji32)).f1).length : Int) then (some (0, 0, 0, 9)) else (if a2 > (((q23 l0 (ji32)).f1).length : Int) then (some (0, 0, 0, 9)) else (if a2 < (wrap64 (-(((q23 l0 (ji32)).f1).length : Int))) then (some (0, 0, 0, 9)) else (if (wrap64 (a1_0 + a2)) < 0 then (some (0, 0, 0, 9)) else (if (wrap64 (a1_0 + a2)) > (((q23 l0 (ji32)).f1).length : Int) then (some (0, 0, 0, 9)) else (some (wrap64 (a1_0 + a2), a1_1, 0, 0)))))))) else (none)) else (none)) = some (r1, r2, r3, r4) := by first | (rw [hji32] at H; exact H) | (simp only [hji32] at H ⊢; exact H)
     have hji32w : (IntKind.i64.wrap (a1_1 - 1)) = ji32 := (i64_w _).trans hji32
     by_cases c33 : 0 ≤ (ji32)
     ·rw [if_pos c33] at H
      have c33b0 : decide (0 ≤ (ji32)) = true := decide_eq_true c33
      clear c33
      by_cases c34 : (ji32) < (l0.length : Int)
      ·rw [if_pos c34] at H
       have c34b0 : decide ((ji32) < (l0.length : Int)) = true := decide_eq_true c34
       clear c34
       by_cases c35 : a1_0 < 0
       ·rw [if_pos c35] at H
        have c35b0 : decide (a1_0 < 0) = true := decide_eq_true c35
        clear c35
        simp only [Option.some.injEq, Prod.mk.injEq] at H
        obtain ⟨rfl, rfl, rfl, rfl⟩ := H
        have hnb36 := NB254_255.out
        have hnc36 := NB255_254.out
        have hcz37_0 : wc.cell? ⟨gb254, 0, none⟩ = some (.int .i64 a1_0) := (q16 BK254.out 0).trans rfl
        have hcz37_1 : wc.cell? ⟨gb254, 1, none⟩ = some (.int .i64 a1_1) := (q16 BK254.out 1).trans rfl
        have hcz37_2 : wc.cell? ⟨gb254, 2, none⟩ = some (.int .i64 a1_2) := (q16 BK254.out 2).trans rfl
        have hfz37_0 := q0 BK254.out 0
        have hfz37_1 := q0 BK254.out 1
        have hfz37_2 := q0 BK254.out 2
        have p259 : 0 ≤ ((ji32) : Int) := of_decide_eq_true (by first | (with_reducible assumption) | assumption)
        have q259 : (ji32) < (l0.length : Int) := of_decide_eq_true (by first | (with_reducible assumption) | assumption)
        obtain ⟨ad259, A259_1, c259_1, e259, hx259_0, hx259_1, hx259_2, hl259_1, hi259_1⟩ := at_T69 HR0.out (ji32) p259 q259
        cases e259
        replace hx259_0 := (HB.out.cell (World.block_lt_of_cell? w _ hx259_0)).trans hx259_0
        replace hx259_1 := (HB.out.cell (World.block_lt_of_cell? w _ hx259_1)).trans hx259_1
        replace hx259_2 := (HB.out.cell (World.block_lt_of_cell? w _ hx259_2)).trans hx259_2
        have HR259_1 := Aside0.mk hi259_1
        have HC259_1 := Aside0.mk hl259_1
        clear hi259_1 hl259_1
        replace p259 := eq_true p259
        replace q259 := eq_true q259
        have hcz38_0 : wc.cell? ⟨gb255, 0, none⟩ = some (.int .i64 0) := (q16 BK255.out 0).trans rfl
        have hcz38_1 : wc.cell? ⟨gb255, 1, none⟩ = some (.int .i64 0) := (q16 BK255.out 1).trans rfl
        have hcz38_2 : wc.cell? ⟨gb255, 2, none⟩ = some (.int .i64 0) := (q16 BK255.out 2).trans rfl
        have hfz38_0 := q0 BK255.out 0
        have hfz38_1 := q0 BK255.out 1
        have hfz38_2 := q0 BK255.out 2
        go_wp2
        refine bodyPost_ret (q41 rfl _ _ gb255 23 #[.int .i64 0, .int .i64 0, .int .i64 0] (0, 0) _ rfl (by (with_reducible repeat (first | refine q13 ?_ _ | refine q15 ?_ | refine q12 ?_ _)); refine q28 (cs := #[.int .i64 0, .int .i64 0, .int .i64 0]) ?_ 2 _ rfl; (with_reducible repeat (first | refine q13 ?_ _ | refine q15 ?_ | refine q12 ?_ _)); refine q28 (cs := #[.int .i64 0, .int .i64 0, .int .i64 0]) ?_ 1 _ rfl; (with_reducible repeat (first | refine q13 ?_ _ | refine q15 ?_ | refine q12 ?_ _)); refine q28 (cs := #[.int .i64 0, .int .i64 0, .int .i64 0]) ?_ 0 _ rfl; (with_reducible repeat (first | refine q13 ?_ _ | refine q15 ?_ | refine q12 ?_ _)); exact BK255.out) Try.underlying23 rfl (by kernel_rfl)) rfl ?_
        exact ⟨by first | rfl | (simp [q26, q25] <;> rfl) | (simp only [← hji32]; first | rfl | (simp [q26, q25] <;> rfl)) | (simp [*, q26, q25] <;> rfl), by repeat (first | (with_reducible first | exact HB.out | apply q10 | apply q9 | apply q11 | refine q14 ?_ GE254.out | refine q14 ?_ GE255.out) | exact HB.out)⟩
       ·rw [if_neg c35] at H
        have c35b0 : decide (a1_0 < 0) = false := decide_eq_false c35
        clear c35
        by_cases c39 : a1_0 > (((q23 l0 (ji32)).f1).length : Int)
        ·rw [if_pos c39] at H
         have c39b0 : decide ((((q23 l0 (ji32)).f1).length : Int) < a1_0) = true := decide_eq_true c39
         clear c39
         simp only [Option.some.injEq, Prod.mk.injEq] at H
         obtain ⟨rfl, rfl, rfl, rfl⟩ := H
         have hnb40 := NB254_255.out
         have hnc40 := NB255_254.out
         have hcz41_0 : wc.cell? ⟨gb254, 0, none⟩ = some (.int .i64 a1_0) := (q16 BK254.out 0).trans rfl
         have hcz41_1 : wc.cell? ⟨gb254, 1, none⟩ = some (.int .i64 a1_1) := (q16 BK254.out 1).trans rfl
         have hcz41_2 : wc.cell? ⟨gb254, 2, none⟩ = some (.int .i64 a1_2) := (q16 BK254.out 2).trans rfl
         have hfz41_0 := q0 BK254.out 0
         have hfz41_1 := q0 BK254.out 1
         have hfz41_2 := q0 BK254.out 2
         have p259 : 0 ≤ ((ji32) : Int) := of_decide_eq_true (by first | (with_reducible assumption) | assumption)
         have q259 : (ji32) < (l0.length : Int) := of_decide_eq_true (by first | (with_reducible assumption) | assumption)
         obtain ⟨ad259, A259_1, c259_1, e259, hx259_0, hx259_1, hx259_2, hl259_1, hi259_1⟩ := at_T69 HR0.out (ji32) p259 q259
         cases e259
         replace hx259_0 := (HB.out.cell (World.block_lt_of_cell? w _ hx259_0)).trans hx259_0
         replace hx259_1 := (HB.out.cell (World.block_lt_of_cell? w _ hx259_1)).trans hx259_1
         replace hx259_2 := (HB.out.cell (World.block_lt_of_cell? w _ hx259_2)).trans hx259_2
         have HR259_1 := Aside0.mk hi259_1
         have HC259_1 := Aside0.mk hl259_1
         clear hi259_1 hl259_1
         replace p259 := eq_true p259
         replace q259 := eq_true q259
         have hcz42_0 : wc.cell? ⟨gb255, 0, none⟩ = some (.int .i64 0) := (q16 BK255.out 0).trans rfl
         have hcz42_1 : wc.cell? ⟨gb255, 1, none⟩ = some (.int .i64 0) := (q16 BK255.out 1).trans rfl
         have hcz42_2 : wc.cell? ⟨gb255, 2, none⟩ = some (.int .i64 0) := (q16 BK255.out 2).trans rfl
         have hfz42_0 := q0 BK255.out 0
         have hfz42_1 := q0 BK255.out 1
         have hfz42_2 := q0 BK255.out 2
         go_wp2
         refine bodyPost_ret (q41 rfl _ _ gb255 23 #[.int .i64 0, .int .i64 0, .int .i64 0] (0, 0) _ rfl (by (with_reducible repeat (first | refine q13 ?_ _ | refine q15 ?_ | refine q12 ?_ _)); refine q28 (cs := #[.int .i64 0, .int .i64 0, .int .i64 0]) ?_ 2 _ rfl; (with_reducible repeat (first | refine q13 ?_ _ | refine q15 ?_ | refine q12 ?_ _)); refine q28 (cs := #[.int .i64 0, .int .i64 0, .int .i64 0]) ?_ 1 _ rfl; (with_reducible repeat (first | refine q13 ?_ _ | refine q15 ?_ | refine q12 ?_ _)); refine q28 (cs := #[.int .i64 0, .int .i64 0, .int .i64 0]) ?_ 0 _ rfl; (with_reducible repeat (first | refine q13 ?_ _ | refine q15 ?_ | refine q12 ?_ _)); exact BK255.out) Try.underlying23 rfl (by kernel_rfl)) rfl ?_
         exact ⟨by first | rfl | (simp [q26, q25] <;> rfl) | (simp only [← hji32]; first | rfl | (simp [q26, q25] <;> rfl)) | (simp [*, q26, q25] <;> rfl), by repeat (first | (with_reducible first | exact HB.out | apply q10 | apply q9 | apply q11 | refine q14 ?_ GE254.out | refine q14 ?_ GE255.out) | exact HB.out)⟩
        ·rw [if_neg c39] at H
         have c39b0 : decide ((((q23 l0 (ji32)).f1).length : Int) < a1_0) = false := decide_eq_false c39
         clear c39
         by_cases c43 : a2 > (((q23 l0 (ji32)).f1).length : Int)
         ·rw [if_pos c43] at H
          have c43b0 : decide ((((q23 l0 (ji32)).f1).length : Int) < a2) = true := decide_eq_true c43
          clear c43
          simp only [Option.some.injEq, Prod.mk.injEq] at H
          obtain ⟨rfl, rfl, rfl, rfl⟩ := H
          have hnb44 := NB254_255.out
          have hnc44 := NB255_254.out
          have hcz45_0 : wc.cell? ⟨gb254, 0, none⟩ = some (.int .i64 a1_0) := (q16 BK254.out 0).trans rfl
          have hcz45_1 : wc.cell? ⟨gb254, 1, none⟩ = some (.int .i64 a1_1) := (q16 BK254.out 1).trans rfl
          have hcz45_2 : wc.cell? ⟨gb254, 2, none⟩ = some (.int .i64 a1_2) := (q16 BK254.out 2).trans rfl
          have hfz45_0 := q0 BK254.out 0
          have hfz45_1 := q0 BK254.out 1
          have hfz45_2 := q0 BK254.out 2
          have p259 : 0 ≤ ((ji32) : Int) := of_decide_eq_true (by first | (with_reducible assumption) | assumption)
          have q259 : (ji32) < (l0.length : Int) := of_decide_eq_true (by first | (with_reducible assumption) | assumption)
          obtain ⟨ad259, A259_1, c259_1, e259, hx259_0, hx259_1, hx259_2, hl259_1, hi259_1⟩ := at_T69 HR0.out (ji32) p259 q259
          cases e259
          replace hx259_0 := (HB.out.cell (World.block_lt_of_cell? w _ hx259_0)).trans hx259_0
          replace hx259_1 := (HB.out.cell (World.block_lt_of_cell? w _ hx259_1)).trans hx259_1
          replace hx259_2 := (HB.out.cell (World.block_lt_of_cell? w _ hx259_2)).trans hx259_2
          have HR259_1 := Aside0.mk hi259_1
          have HC259_1 := Aside0.mk hl259_1
          clear hi259_1 hl259_1
          replace p259 := eq_true p259
          replace q259 := eq_true q259
          have hcz46_0 : wc.cell? ⟨gb255, 0, none⟩ = some (.int .i64 0) := (q16 BK255.out 0).trans rfl
          have hcz46_1 : wc.cell? ⟨gb255, 1, none⟩ = some (.int .i64 0) := (q16 BK255.out 1).trans rfl
          have hcz46_2 : wc.cell? ⟨gb255, 2, none⟩ = some (.int .i64 0) := (q16 BK255.out 2).trans rfl
          have hfz46_0 := q0 BK255.out 0
          have hfz46_1 := q0 BK255.out 1
          have hfz46_2 := q0 BK255.out 2
          go_wp2
          refine bodyPost_ret (q41 rfl _ _ gb255 23 #[.int .i64 0, .int .i64 0, .int .i64 0] (0, 0) _ rfl (by (with_reducible repeat (first | refine q13 ?_ _ | refine q15 ?_ | refine q12 ?_ _)); refine q28 (cs := #[.int .i64 0, .int .i64 0, .int .i64 0]) ?_ 2 _ rfl; (with_reducible repeat (first | refine q13 ?_ _ | refine q15 ?_ | refine q12 ?_ _)); refine q28 (cs := #[.int .i64 0, .int .i64 0, .int .i64 0]) ?_ 1 _ rfl; (with_reducible repeat (first | refine q13 ?_ _ | refine q15 ?_ | refine q12 ?_ _)); refine q28 (cs := #[.int .i64 0, .int .i64 0, .int .i64 0]) ?_ 0 _ rfl; (with_reducible repeat (first | refine q13 ?_ _ | refine q15 ?_ | refine q12 ?_ _)); exact BK255.out) Try.underlying23 rfl (by kernel_rfl)) rfl ?_
          exact ⟨by first | rfl | (simp [q26, q25] <;> rfl) | (simp only [← hji32]; first | rfl | (simp [q26, q25] <;> rfl)) | (simp [*, q26, q25] <;> rfl), by repeat (first | (with_reducible first | exact HB.out | apply q10 | apply q9 | apply q11 | refine q14 ?_ GE254.out | refine q14 ?_ GE255.out) | exact HB.out)⟩
         ·rw [if_neg c43] at H
          have c43b0 : decide ((((q23 l0 (ji32)).f1).length : Int) < a2) = false := decide_eq_false c43
          clear c43
          by_cases c47 : a2 < (wrap64 (-(((q23 l0 (ji32)).f1).length : Int)))
          ·rw [if_pos c47] at H
           have c47b0 : decide (a2 < (wrap64 (-(((q23 l0 (ji32)).f1).length : Int)))) = true := decide_eq_true c47
           clear c47
           simp only [Option.some.injEq, Prod.mk.injEq] at H
           obtain ⟨rfl, rfl, rfl, rfl⟩ := H
           have hnb48 := NB254_255.out
           have hnc48 := NB255_254.out
           have hcz49_0 : wc.cell? ⟨gb254, 0, none⟩ = some (.int .i64 a1_0) := (q16 BK254.out 0).trans rfl
           have hcz49_1 : wc.cell? ⟨gb254, 1, none⟩ = some (.int .i64 a1_1) := (q16 BK254.out 1).trans rfl
           have hcz49_2 : wc.cell? ⟨gb254, 2, none⟩ = some (.int .i64 a1_2) := (q16 BK254.out 2).trans rfl
           have hfz49_0 := q0 BK254.out 0
           have hfz49_1 := q0 BK254.out 1
           have hfz49_2 := q0 BK254.out 2
           have p259 : 0 ≤ ((ji32) : Int) := of_decide_eq_true (by first | (with_reducible assumption) | assumption)
           have q259 : (ji32) < (l0.length : Int) := of_decide_eq_true (by first | (with_reducible assumption) | assumption)
           obtain ⟨ad259, A259_1, c259_1, e259, hx259_0, hx259_1, hx259_2, hl259_1, hi259_1⟩ := at_T69 HR0.out (ji32) p259 q259
           cases e259
           replace hx259_0 := (HB.out.cell (World.block_lt_of_cell? w _ hx259_0)).trans hx259_0
           replace hx259_1 := (HB.out.cell (World.block_lt_of_cell? w _ hx259_1)).trans hx259_1
           replace hx259_2 := (HB.out.cell (World.block_lt_of_cell? w _ hx259_2)).trans hx259_2
           have HR259_1 := Aside0.mk hi259_1
           have HC259_1 := Aside0.mk hl259_1
           clear hi259_1 hl259_1
           replace p259 := eq_true p259
           replace q259 := eq_true q259
           have hcz50_0 : wc.cell? ⟨gb255, 0, none⟩ = some (.int .i64 0) := (q16 BK255.out 0).trans rfl
           have hcz50_1 : wc.cell? ⟨gb255, 1, none⟩ = some (.int .i64 0) := (q16 BK255.out 1).trans rfl
           have hcz50_2 : wc.cell? ⟨gb255, 2, none⟩ = some (.int .i64 0) := (q16 BK255.out 2).trans rfl
           have hfz50_0 := q0 BK255.out 0
           have hfz50_1 := q0 BK255.out 1
           have hfz50_2 := q0 BK255.out 2
           go_wp2
           refine bodyPost_ret (q41 rfl _ _ gb255 23 #[.int .i64 0, .int .i64 0, .int .i64 0] (0, 0) _ rfl (by (with_reducible repeat (first | refine q13 ?_ _ | refine q15 ?_ | refine q12 ?_ _)); refine q28 (cs := #[.int .i64 0, .int .i64 0, .int .i64 0]) ?_ 2 _ rfl; (with_reducible repeat (first | refine q13 ?_ _ | refine q15 ?_ | refine q12 ?_ _)); refine q28 (cs := #[.int .i64 0, .int .i64 0, .int .i64 0]) ?_ 1 _ rfl; (with_reducible repeat (first | refine q13 ?_ _ | refine q15 ?_ | refine q12 ?_ _)); refine q28 (cs := #[.int .i64 0, .int .i64 0, .int .i64 0]) ?_ 0 _ rfl; (with_reducible repeat (first | refine q13 ?_ _ | refine q15 ?_ | refine q12 ?_ _)); exact BK255.out) Try.underlying23 rfl (by kernel_rfl)) rfl ?_
           exact ⟨by first | rfl | (simp [q26, q25] <;> rfl) | (simp only [← hji32]; first | rfl | (simp [q26, q25] <;> rfl)) | (simp [*, q26, q25] <;> rfl), by repeat (first | (with_reducible first | exact HB.out | apply q10 | apply q9 | apply q11 | refine q14 ?_ GE254.out | refine q14 ?_ GE255.out) | exact HB.out)⟩
          ·rw [if_neg c47] at H
           have c47b0 : decide (a2 < (wrap64 (-(((q23 l0 (ji32)).f1).length : Int)))) = false := decide_eq_false c47
           clear c47
           by_cases c51 : (wrap64 (a1_0 + a2)) < 0
           ·rw [if_pos c51] at H
            have c51b0 : decide ((wrap64 (a1_0 + a2)) < 0) = true := decide_eq_true c51
            clear c51
            simp only [Option.some.injEq, Prod.mk.injEq] at H
            obtain ⟨rfl, rfl, rfl, rfl⟩ := H
            have hnb52 := NB254_255.out
            have hnc52 := NB255_254.out
            have hcz53_0 : wc.cell? ⟨gb254, 0, none⟩ = some (.int .i64 a1_0) := (q16 BK254.out 0).trans rfl
            have hcz53_1 : wc.cell? ⟨gb254, 1, none⟩ = some (.int .i64 a1_1) := (q16 BK254.out 1).trans rfl
            have hcz53_2 : wc.cell? ⟨gb254, 2, none⟩ = some (.int .i64 a1_2) := (q16 BK254.out 2).trans rfl
            have hfz53_0 := q0 BK254.out 0
            have hfz53_1 := q0 BK254.out 1
            have hfz53_2 := q0 BK254.out 2
            have p259 : 0 ≤ ((ji32) : Int) := of_decide_eq_true (by first | (with_reducible assumption) | assumption)
            have q259 : (ji32) < (l0.length : Int) := of_decide_eq_true (by first | (with_reducible assumption) | assumption)
            obtain ⟨ad259, A259_1, c259_1, e259, hx259_0, hx259_1, hx259_2, hl259_1, hi259_1⟩ := at_T69 HR0.out (ji32) p259 q259
            cases e259
            replace hx259_0 := (HB.out.cell (World.block_lt_of_cell? w _ hx259_0)).trans hx259_0
            replace hx259_1 := (HB.out.cell (World.block_lt_of_cell? w _ hx259_1)).trans hx259_1
            replace hx259_2 := (HB.out.cell (World.block_lt_of_cell? w _ hx259_2)).trans hx259_2
            have HR259_1 := Aside0.mk hi259_1
            have HC259_1 := Aside0.mk hl259_1
            clear hi259_1 hl259_1
            replace p259 := eq_true p259
            replace q259 := eq_true q259
            have hcz54_0 : wc.cell? ⟨gb255, 0, none⟩ = some (.int .i64 0) := (q16 BK255.out 0).trans rfl
            have hcz54_1 : wc.cell? ⟨gb255, 1, none⟩ = some (.int .i64 0) := (q16 BK255.out 1).trans rfl
            have hcz54_2 : wc.cell? ⟨gb255, 2, none⟩ = some (.int .i64 0) := (q16 BK255.out 2).trans rfl
            have hfz54_0 := q0 BK255.out 0
            have hfz54_1 := q0 BK255.out 1
            have hfz54_2 := q0 BK255.out 2
            go_wp2
            refine bodyPost_ret (q41 rfl _ _ gb255 23 #[.int .i64 0, .int .i64 0, .int .i64 0] (0, 0) _ rfl (by (with_reducible repeat (first | refine q13 ?_ _ | refine q15 ?_ | refine q12 ?_ _)); refine q28 (cs := #[.int .i64 0, .int .i64 0, .int .i64 0]) ?_ 2 _ rfl; (with_reducible repeat (first | refine q13 ?_ _ | refine q15 ?_ | refine q12 ?_ _)); refine q28 (cs := #[.int .i64 0, .int .i64 0, .int .i64 0]) ?_ 1 _ rfl; (with_reducible repeat (first | refine q13 ?_ _ | refine q15 ?_ | refine q12 ?_ _)); refine q28 (cs := #[.int .i64 0, .int .i64 0, .int .i64 0]) ?_ 0 _ rfl; (with_reducible repeat (first | refine q13 ?_ _ | refine q15 ?_ | refine q12 ?_ _)); exact BK255.out) Try.underlying23 rfl (by kernel_rfl)) rfl ?_
            exact ⟨by first | rfl | (simp [q26, q25] <;> rfl) | (simp only [← hji32]; first | rfl | (simp [q26, q25] <;> rfl)) | (simp [*, q26, q25] <;> rfl), by repeat (first | (with_reducible first | exact HB.out | apply q10 | apply q9 | apply q11 | refine q14 ?_ GE254.out | refine q14 ?_ GE255.out) | exact HB.out)⟩
           ·rw [if_neg c51] at H
            have c51b0 : decide ((wrap64 (a1_0 + a2)) < 0) = false := decide_eq_false c51
            clear c51
            by_cases c55 : (wrap64 (a1_0 + a2)) > (((q23 l0 (ji32)).f1).length : Int)
            ·rw [if_pos c55] at H
             have c55b0 : decide ((((q23 l0 (ji32)).f1).length : Int) < (wrap64 (a1_0 + a2))) = true := decide_eq_true c55
             clear c55
             simp only [Option.some.injEq, Prod.mk.injEq] at H
             obtain ⟨rfl, rfl, rfl, rfl⟩ := H
             have hnb56 := NB254_255.out
             have hnc56 := NB255_254.out
             have hcz57_0 : wc.cell? ⟨gb254, 0, none⟩ = some (.int .i64 a1_0) := (q16 BK254.out 0).trans rfl
             have hcz57_1 : wc.cell? ⟨gb254, 1, none⟩ = some (.int .i64 a1_1) := (q16 BK254.out 1).trans rfl
             have hcz57_2 : wc.cell? ⟨gb254, 2, none⟩ = some (.int .i64 a1_2) := (q16 BK254.out 2).trans rfl
             have hfz57_0 := q0 BK254.out 0
             have hfz57_1 := q0 BK254.out 1
             have hfz57_2 := q0 BK254.out 2
             have p259 : 0 ≤ ((ji32) : Int) := of_decide_eq_true (by first | (with_reducible assumption) | assumption)
             have q259 : (ji32) < (l0.length : Int) := of_decide_eq_true (by first | (with_reducible assumption) | assumption)
             obtain ⟨ad259, A259_1, c259_1, e259, hx259_0, hx259_1, hx259_2, hl259_1, hi259_1⟩ := at_T69 HR0.out (ji32) p259 q259
             cases e259
             replace hx259_0 := (HB.out.cell (World.block_lt_of_cell? w _ hx259_0)).trans hx259_0
             replace hx259_1 := (HB.out.cell (World.block_lt_of_cell? w _ hx259_1)).trans hx259_1
             replace hx259_2 := (HB.out.cell (World.block_lt_of_cell? w _ hx259_2)).trans hx259_2
             have HR259_1 := Aside0.mk hi259_1
             have HC259_1 := Aside0.mk hl259_1
             clear hi259_1 hl259_1
             replace p259 := eq_true p259
             replace q259 := eq_true q259
             have hcz58_0 : wc.cell? ⟨gb255, 0, none⟩ = some (.int .i64 0) := (q16 BK255.out 0).trans rfl
             have hcz58_1 : wc.cell? ⟨gb255, 1, none⟩ = some (.int .i64 0) := (q16 BK255.out 1).trans rfl
             have hcz58_2 : wc.cell? ⟨gb255, 2, none⟩ = some (.int .i64 0) := (q16 BK255.out 2).trans rfl
             have hfz58_0 := q0 BK255.out 0
             have hfz58_1 := q0 BK255.out 1
             have hfz58_2 := q0 BK255.out 2
             go_wp2
             refine bodyPost_ret (q41 rfl _ _ gb255 23 #[.int .i64 0, .int .i64 0, .int .i64 0] (0, 0) _ rfl (by (with_reducible repeat (first | refine q13 ?_ _ | refine q15 ?_ | refine q12 ?_ _)); refine q28 (cs := #[.int .i64 0, .int .i64 0, .int .i64 0]) ?_ 2 _ rfl; (with_reducible repeat (first | refine q13 ?_ _ | refine q15 ?_ | refine q12 ?_ _)); refine q28 (cs := #[.int .i64 0, .int .i64 0, .int .i64 0]) ?_ 1 _ rfl; (with_reducible repeat (first | refine q13 ?_ _ | refine q15 ?_ | refine q12 ?_ _)); refine q28 (cs := #[.int .i64 0, .int .i64 0, .int .i64 0]) ?_ 0 _ rfl; (with_reducible repeat (first | refine q13 ?_ _ | refine q15 ?_ | refine q12 ?_ _)); exact BK255.out) Try.underlying23 rfl (by kernel_rfl)) rfl ?_
             exact ⟨by first | rfl | (simp [q26, q25] <;> rfl) | (simp only [← hji32]; first | rfl | (simp [q26, q25] <;> rfl)) | (simp [*, q26, q25] <;> rfl), by repeat (first | (with_reducible first | exact HB.out | apply q10 | apply q9 | apply q11 | refine q14 ?_ GE254.out | refine q14 ?_ GE255.out) | exact HB.out)⟩
            ·rw [if_neg c55] at H
             have c55b0 : decide ((((q23 l0 (ji32)).f1).length : Int) < (wrap64 (a1_0 + a2))) = false := decide_eq_false c55
             clear c55
             simp only [Option.some.injEq, Prod.mk.injEq] at H
             obtain ⟨rfl, rfl, rfl, rfl⟩ := H
             have hnb59 := NB254_255.out
             have hnc59 := NB255_254.out
             have hcz60_0 : wc.cell? ⟨gb254, 0, none⟩ = some (.int .i64 a1_0) := (q16 BK254.out 0).trans rfl
             have hcz60_1 : wc.cell? ⟨gb254, 1, none⟩ = some (.int .i64 a1_1) := (q16 BK254.out 1).trans rfl
             have hcz60_2 : wc.cell? ⟨gb254, 2, none⟩ = some (.int .i64 a1_2) := (q16 BK254.out 2).trans rfl
             have hfz60_0 := q0 BK254.out 0
             have hfz60_1 := q0 BK254.out 1
             have hfz60_2 := q0 BK254.out 2
             have p259 : 0 ≤ ((ji32) : Int) := of_decide_eq_true (by first | (with_reducible assumption) | assumption)
             have q259 : (ji32) < (l0.length : Int) := of_decide_eq_true (by first | (with_reducible assumption) | assumption)
             obtain ⟨ad259, A259_1, c259_1, e259, hx259_0, hx259_1, hx259_2, hl259_1, hi259_1⟩ := at_T69 HR0.out (ji32) p259 q259
             cases e259
             replace hx259_0 := (HB.out.cell (World.block_lt_of_cell? w _ hx259_0)).trans hx259_0
             replace hx259_1 := (HB.out.cell (World.block_lt_of_cell? w _ hx259_1)).trans hx259_1
             replace hx259_2 := (HB.out.cell (World.block_lt_of_cell? w _ hx259_2)).trans hx259_2
             have HR259_1 := Aside0.mk hi259_1
             have HC259_1 := Aside0.mk hl259_1
             clear hi259_1 hl259_1
             replace p259 := eq_true p259
             replace q259 := eq_true q259
             have hcz61_0 : wc.cell? ⟨gb255, 0, none⟩ = some (.int .i64 0) := (q16 BK255.out 0).trans rfl
             have hcz61_1 : wc.cell? ⟨gb255, 1, none⟩ = some (.int .i64 0) := (q16 BK255.out 1).trans rfl
             have hcz61_2 : wc.cell? ⟨gb255, 2, none⟩ = some (.int .i64 0) := (q16 BK255.out 2).trans rfl
             have hfz61_0 := q0 BK255.out 0
             have hfz61_1 := q0 BK255.out 1
             have hfz61_2 := q0 BK255.out 2
             go_wp2
             refine bodyPost_ret (q41 rfl _ _ gb255 23 #[.int .i64 (wrap64 (a1_0 + a2)), .int .i64 a1_1, .int .i64 0] (0, 0) _ rfl (by (with_reducible repeat (first | refine q13 ?_ _ | refine q15 ?_ | refine q12 ?_ _)); refine q28 (cs := #[.int .i64 (wrap64 (a1_0 + a2)), .int .i64 a1_1, .int .i64 0]) ?_ 2 _ rfl; (with_reducible repeat (first | refine q13 ?_ _ | refine q15 ?_ | refine q12 ?_ _)); refine q28 (cs := #[.int .i64 (wrap64 (a1_0 + a2)), .int .i64 0, .int .i64 0]) ?_ 1 _ rfl; (with_reducible repeat (first | refine q13 ?_ _ | refine q15 ?_ | refine q12 ?_ _)); refine q28 (cs := #[.int .i64 0, .int .i64 0, .int .i64 0]) ?_ 0 _ rfl; (with_reducible repeat (first | refine q13 ?_ _ | refine q15 ?_ | refine q12 ?_ _)); exact BK255.out) Try.underlying23 rfl (by kernel_rfl)) rfl ?_
             exact ⟨by first | rfl | (simp [q26, q25] <;> rfl) | (simp only [← hji32]; first | rfl | (simp [q26, q25] <;> rfl)) | (simp [*, q26, q25] <;> rfl), by repeat (first | (with_reducible first | exact HB.out | apply q10 | apply q9 | apply q11 | refine q14 ?_ GE254.out | refine q14 ?_ GE255.out) | exact HB.out)⟩
      ·rw [if_neg c34] at H
       exact absurd H (by simp)
     ·rw [if_neg c33] at H
      exact absurd H (by simp)
end Go.Proofs.Yteogfjhmjlelnaa.H
