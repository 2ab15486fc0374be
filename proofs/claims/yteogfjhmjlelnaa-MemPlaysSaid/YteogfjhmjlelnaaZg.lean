/- Merged texts (by slim.py): what the law's proof names. -/
import Derived.Test.YteogfjhmjlelnaaZf
namespace Go.Proofs.Yteogfjhmjlelnaa.H
open Go.RowKit Go.Proofs.YteogfjhmjlelnaaW.PrintWords Go.Proofs.YteogfjhmjlelnaaW.PrintLast Go.Proofs.YteogfjhmjlelnaaW.PrintMore
attribute [local go_sem] max2_int min2_int max_two min_two max_three min_three max_four min_four
set_option linter.unusedVariables false
set_option linter.unusedSimpArgs false
theorem crosstreeref10_Alloc.mono_l : ∀ k, (∀ y0 y1 y2 y3 y4, LeO (crosstreeref10_Alloc.j0 k y0 y1 y2 y3 y4) (crosstreeref10_Alloc.j0 (k + 1) y0 y1 y2 y3 y4)) ∧ (∀ y0 y1 y2 y3 y4 y5 y6, LeO (crosstreeref10_Alloc.l0 k y0 y1 y2 y3 y4 y5 y6) (crosstreeref10_Alloc.l0 (k + 1) y0 y1 y2 y3 y4 y5 y6))
 | 0 => ⟨fun _ _ _ _ _ r h => by simp [crosstreeref10_Alloc.j0] at h, fun _ _ _ _ _ _ _ r h => by simp [crosstreeref10_Alloc.l0] at h⟩
 | k + 1 => by
  obtain ⟨ih0, ih1⟩ := crosstreeref10_Alloc.mono_l k
  refine ⟨?_, ?_⟩
  ·intro y0 y1 y2 y3 y4
   unfold crosstreeref10_Alloc.j0
   repeat' first
   | (with_reducible exact ih0 _ _ _ _ _)
   | (with_reducible exact ih1 _ _ _ _ _ _ _)
   | (with_reducible exact LeO.refl _)
   | (with_reducible exact LeO.none _)
   | (with_reducible refine LeO.ite ?_ ?_)
   | (with_reducible refine LeO.bind ?_ (fun _ => ?_))
   | exact ih0 _ _ _ _ _
   | exact ih1 _ _ _ _ _ _ _
   | exact LeO.none _
   | refine LeO.ite ?_ ?_
   | refine LeO.bind ?_ (fun _ => ?_)
  ·intro y0 y1 y2 y3 y4 y5 y6
   unfold crosstreeref10_Alloc.l0
   repeat' first
   | (with_reducible exact ih0 _ _ _ _ _)
   | (with_reducible exact ih1 _ _ _ _ _ _ _)
   | (with_reducible exact LeO.refl _)
   | (with_reducible exact LeO.none _)
   | (with_reducible refine LeO.ite ?_ ?_)
   | (with_reducible refine LeO.bind ?_ (fun _ => ?_))
   | exact ih0 _ _ _ _ _
   | exact ih1 _ _ _ _ _ _ _
   | exact LeO.none _
   | refine LeO.ite ?_ ?_
   | refine LeO.bind ?_ (fun _ => ?_)
theorem crosstreeref10_Alloc.mono : ∀ a0 a1 a2 a3 k, LeO (crosstreeref10_Alloc.f k a0 a1 a2 a3) (crosstreeref10_Alloc.f (k + 1) a0 a1 a2 a3) := by
 intro a0 a1 a2 a3 k
 obtain ⟨ih0, ih1⟩ := crosstreeref10_Alloc.mono_l k
 unfold crosstreeref10_Alloc.f
 repeat' first
   | (with_reducible exact ih0 _ _ _ _ _)
   | (with_reducible exact ih1 _ _ _ _ _ _ _)
   | (with_reducible exact LeO.refl _)
   | (with_reducible exact LeO.none _)
   | (with_reducible refine LeO.ite ?_ ?_)
   | (with_reducible refine LeO.bind ?_ (fun _ => ?_))
   | exact ih0 _ _ _ _ _
   | exact ih1 _ _ _ _ _ _ _
   | exact LeO.none _
   | refine LeO.ite ?_ ?_
   | refine LeO.bind ?_ (fun _ => ?_)
def crosstreeref10_Alloc.T11 : Bool × List (List Nat × List Nat) := (true, [([], []), ([], []), ([0, 1], [0, 1]), ([], []), ([3], [3]), ([2, 4, 2], [2, 4]), ([], []), ([6], [6]), ([7], [7]), ([5, 5, 0, 1, 2, 3, 4, 5], [5]), ([8, 9, 0, 1, 2, 3, 4, 5, 6, 7, 8, 9], [8]), ([10, 0, 1, 2, 3, 4, 5, 6, 7, 8, 9, 10], [])])
def crosstreeref10_Alloc.B11 : List Nat := [0, 0, 3, 0, 8, 31, 0, 64, 192, 63, 1023, 2047]
theorem crosstreeref10_Alloc.tab11 : rtab .any (opsOf Try.f23 11) = crosstreeref10_Alloc.T11 := by kernel_rfl
theorem crosstreeref10_Alloc.bits11 : waitsOk crosstreeref10_Alloc.T11.2 crosstreeref10_Alloc.B11 = true := by kernel_rfl
set_option maxHeartbeats 8000000 in
set_option maxRecDepth 100000 in
theorem crosstreeref10_Alloc.calls (k : Nat) (P0_ : Nat → Prop) (A0 : Option Addr) (c0 : Nat) (l0 : List (S69)) (a1 : Int) (a2 : Int) (a3 : Bool) (r1 : List (S69)) (r2 : Int) (r3 : Int) (w : World) (hs0 : Kd.V k69 69 w w.heap.size (fun k_ => P0_ k_) (.slice A0 l0.length c0) l0) (h : crosstreeref10_Alloc.f k l0 a1 a2 a3 = some (r1, r2, r3)) :
  Calls Try.prog 23 #[.slice A0 l0.length c0, .int .i64 a1, .int .i64 a2, .bool a3] w fun e w' => ∃ v0_ : Value, e = .returned (.tuple #[v0_, .int .i64 r2, .int .i64 r3]) ∧ Kd.V k69 69 w' w.heap.size (fun k_ => (P0_ k_ ∨ w.heap.size ≤ k_)) v0_ r1 ∧ Below w.heap.size w w' := by
 have hu69 := Try.underlying69
 have hu42 := Try.underlying42
 have HO0 := Aside0.mk (show Kd.V k69 69 w w.heap.size (fun k_ => (P0_ k_ ∨ w.heap.size ≤ k_)) (.slice A0 l0.length c0) l0 from Kd.V_mono hs0 (fun k_ hk => .inl hk))
 have HB := Aside0.mk (Below.refl w.heap.size w)
 have H : (if a2 < 0 then (crosstreeref10_Alloc.j0 k l0 a1 a2 a3 true) else (if a2 > 4096 then (crosstreeref10_Alloc.j0 k l0 a1 a2 a3 true) else (crosstreeref10_Alloc.j0 k l0 a1 a2 a3 (decide ((l0.length : Int) ≥ 2000))))) = some (r1, r2, r3) := h
 clear h
 have HC5 := Aside0.mk H
 clear H
 go_enter Try.func23, Try.ntmps23
 go_upto_region 1 with (fail)
 go_cut [24] (fun v24 wc => ∃ (kq : Nat) (x24_4 : Bool), v24 = .bool x24_4 ∧ Aside0 (crosstreeref10_Alloc.j0 kq l0 a1 a2 a3 x24_4 = some (r1, r2, r3)) ∧ Aside0 (kq ≤ k) ∧ Aside0 (Kd.V k69 69 wc w.heap.size (fun k_ => (P0_ k_ ∨ w.heap.size ≤ k_)) (.slice A0 l0.length c0) l0) ∧ Aside0 (Below w.heap.size w wc))
 case first =>
  have H := HC5.out
  clear HC5
  by_cases c6 : a2 < 0
  ·rw [if_pos c6] at H
   have c6b0 : decide (a2 < 0) = true := decide_eq_true c6
   clear c6
   (first | rw [c6b0] | (simp only [i64_w, i32_w]; rw [c6b0]) | skip)
   have H' := Aside0.mk H
   clear H
   go_wp2
   go_meet
   case rel => exact ⟨_, (true), (by first | rfl | (simp; done) | (simp [*]; done)), H', ⟨by first | omega | exact Nat.le_refl _⟩, ⟨by (with_reducible repeat (first | apply Kd.V_alloc | apply Kd.V_drewN | apply Kd.V_drew)); exact HO0.out⟩, ⟨by repeat (first | (with_reducible first | exact HB.out | apply q10 | apply q9 | apply q11) | exact HB.out)⟩⟩
  ·rw [if_neg c6] at H
   have c6b0 : decide (a2 < 0) = false := decide_eq_false c6
   clear c6
   (first | rw [c6b0] | (simp only [i64_w, i32_w]; rw [c6b0]) | skip)
   by_cases c7 : a2 > 4096
   ·rw [if_pos c7] at H
    have c7b0 : decide (4096 < a2) = true := decide_eq_true c7
    clear c7
    have H' := Aside0.mk H
    clear H
    go_wp2
    go_meet
    case rel => exact ⟨_, (true), (by first | rfl | (simp; done) | (simp [*]; done)), H', ⟨by first | omega | exact Nat.le_refl _⟩, ⟨by (with_reducible repeat (first | apply Kd.V_alloc | apply Kd.V_drewN | apply Kd.V_drew)); exact HO0.out⟩, ⟨by repeat (first | (with_reducible first | exact HB.out | apply q10 | apply q9 | apply q11) | exact HB.out)⟩⟩
   ·rw [if_neg c7] at H
    have c7b0 : decide (4096 < a2) = false := decide_eq_false c7
    clear c7
    have H' := Aside0.mk H
    clear H
    go_wp2
    go_meet
    case rel => exact ⟨_, (decide ((l0.length : Int) ≥ 2000)), (by first | rfl | (simp; done) | (simp [*]; done)), H', ⟨by first | omega | exact Nat.le_refl _⟩, ⟨by (with_reducible repeat (first | apply Kd.V_alloc | apply Kd.V_drewN | apply Kd.V_drew)); exact HO0.out⟩, ⟨by repeat (first | (with_reducible first | exact HB.out | apply q10 | apply q9 | apply q11) | exact HB.out)⟩⟩
 case rest =>
  clear HC5
  try clear c2
  try clear p2
  try clear c6
  try clear c6b0
  try clear c7
  try clear c7b0
  obtain ⟨kq, x24_4, rfl, HA, HJ4, HO_0, HB⟩ := hcut
  cases kq with
  | zero => exact absurd HA.out (by simp [crosstreeref10_Alloc.j0])
  | succ kj4 =>
   have H := HA.out
   clear HA
   simp only [crosstreeref10_Alloc.j0] at H
   by_cases c8 : x24_4 = true
   ·subst c8
    have H1 : (some (l0, 0, 5)) = some (r1, r2, r3) := by rw [if_pos rfl] at H; exact H
    clear H
    have H := H1
    clear H1
    simp only [Option.some.injEq, Prod.mk.injEq] at H
    obtain ⟨rfl, rfl, rfl⟩ := H
    go_wp2
    go_ret3
    exact ⟨_, by first | rfl | (simp [q26, q25] <;> rfl) | (simp [*, q26, q25] <;> rfl), by (with_reducible repeat (first | apply Kd.V_alloc | apply Kd.V_drewN | apply Kd.V_drew)); exact HO_0.out, by repeat (first | (with_reducible first | exact HB.out | apply q10 | apply q9 | apply q11) | exact HB.out)⟩
   ·replace c8 := Bool.eq_false_iff.mpr c8
    subst c8
    have H1 : (crosstreeref10_Alloc.l0 kj4 l0 a2 a3 0 a1 ([] : List (S42)) false) = some (r1, r2, r3) := by rw [if_neg (show ¬ (false = true) by decide)] at H; exact H
    clear H
    have H := H1
    clear H1
    have H' := Aside0.mk H
    clear H
    go_wp2_with (first | ((with_reducible refine q32 (N := 11) rfl ?_); (try (refine gate_guard (by rfl) ?_; dsimp only)); refine q29 ?hg (N := 11) ?hd (cs := #[.int .i64 0, .slice none 0 0, .bool false]) (t := 69) ?hr ?_; (case hd => rfl); (case hg => rfl); (case hr => first | (go_simp; done) | (go_simp; rfl)); intro gb121 hg w9 hbox hb; have n0_ := Aside0.mk (Kd.V_below (Kd.V_elderB (by (with_reducible repeat (first | apply Kd.V_alloc | apply Kd.V_drewN | apply Kd.V_drew)); exact HO_0.out) gb121 (Nat.le_of_eq hg.symm)) hb); have n1_ := Aside0.mk (q20 (by repeat (first | (with_reducible first | exact HB.out | apply q10 | apply q9 | apply q11) | exact HB.out)) hb); have n2_ := Aside0.mk (hbox); have n3_ := Aside0.mk ((by rw [hg]; exact (q21 (by repeat (first | (with_reducible first | exact HB.out | apply q10 | apply q9 | apply q11) | exact HB.out))) : w.heap.size ≤ gb121)); have n4_ := Aside0.mk ((by rw [hg]; exact (q21 (by repeat (first | (with_reducible first | exact HB.out | apply q10 | apply q9 | apply q11) | exact HB.out))) : w.heap.size ≤ gb121)); clear HO_0; clear HB; have HO_0 := n0_; have HB := n1_; have BK121 := n2_; have GW121 := n3_; have GE121 := n4_; clear n0_ n1_ n2_ n3_ n4_; clear hb hbox hg; have hcz10_0 : w9.cell? ⟨gb121, 0, none⟩ = some (.int .i64 0) := (q16 BK121.out 0).trans rfl; have hcz10_1 : w9.cell? ⟨gb121, 1, none⟩ = some (.slice none 0 0) := (q16 BK121.out 1).trans rfl; have hcz10_2 : w9.cell? ⟨gb121, 2, none⟩ = some (.bool false) := (q16 BK121.out 2).trans rfl; have hfz10_0 := q0 BK121.out 0; have hfz10_1 := q0 BK121.out 1; have hfz10_2 := q0 BK121.out 2))
    go_loopg [12] kj4 (fun kq v12 w' => ∃ (x12_2 : Int) (x122001_2 : List (S42)) (u122001 : Value), v12 = .int .i64 x12_2 ∧ Aside0 (crosstreeref10_Alloc.l0 kq l0 a2 a3 x12_2 a1 x122001_2 false = some (r1, r2, r3)) ∧ Aside0 (kq ≤ kj4) ∧ Aside0 (Kd.V k69 69 w' w.heap.size (fun k_ => (P0_ k_ ∨ w.heap.size ≤ k_) ∧ some k_ ≠ (u122001 : Value).ownBlock ∧ k_ ≠ gb121) (.slice A0 l0.length c0) l0) ∧ Aside0 (Kd.R k42 42 w' w.heap.size (fun k_ => (w.heap.size ≤ k_)) u122001 x122001_2) ∧ Aside0 (w'.heap[gb121]? = some (.cells #[.int .i64 a1, u122001, .bool false] 69 (0, 0))) ∧ Aside0 (Below w.heap.size w w'))
    case atStart => exact ⟨(0), (([] : List (S42))), (.slice none 0 0), (by first | rfl | (simp; done) | (simp [*]; done)), H', ⟨Nat.le_refl _⟩, ⟨by (with_reducible repeat (first | apply Kd.V_alloc | apply Kd.V_drewN | apply Kd.V_drew)); exact Kd.V_mono (Kd.V_far (p := ⟨gb121, 2, none⟩) (Kd.V_far (p := ⟨gb121, 1, none⟩) (Kd.V_far (p := ⟨gb121, 0, none⟩) (Kd.V_mono HO_0.out (fun k_ hk => (⟨hk, hk.2⟩ : _ ∧ k_ ≠ gb121))) (fun _ hk => hk.2) (.int .i64 a1)) (fun _ hk => hk.2) (.slice none 0 0)) (fun _ hk => hk.2) (.bool false)) (fun _ hk => ⟨hk.1.1, ⟨(by simp [Value.ownBlock]), hk.1.2⟩⟩)⟩, ⟨by first | exact Kd.R_nil _ _ _ _ _ | exact Kd.N_nil _ _ _ _ _ | exact Kd.V_nil _ _ _ _ _ | exact Kd.Q_nil _ _ _ _ _ | exact Kd.S_nil _ _ _ _ _⟩, ⟨by (with_reducible repeat (first | refine q13 ?_ _ | refine q15 ?_ | refine q12 ?_ _)); refine q28 (cs := #[.int .i64 a1, .slice none 0 0, .bool false]) ?_ 2 _ rfl; (with_reducible repeat (first | refine q13 ?_ _ | refine q15 ?_ | refine q12 ?_ _)); refine q28 (cs := #[.int .i64 a1, .slice none 0 0, .bool false]) ?_ 1 _ rfl; (with_reducible repeat (first | refine q13 ?_ _ | refine q15 ?_ | refine q12 ?_ _)); refine q28 (cs := #[.int .i64 0, .slice none 0 0, .bool false]) ?_ 0 _ rfl; (with_reducible repeat (first | refine q13 ?_ _ | refine q15 ?_ | refine q12 ?_ _)); exact BK121.out⟩, ⟨by repeat (first | (with_reducible first | exact HB.out | apply q10 | apply q9 | apply q11 | refine q14 ?_ GE121.out) | exact HB.out)⟩⟩
    case round =>
     clear H'
     try clear c2
     try clear p2
     try clear c6
     try clear c6b0
     try clear c7
     try clear c7b0
     try clear c8
     try clear hcz10_0
     try clear hcz10_1
     try clear hcz10_2
     try clear hfz10_0
     try clear hfz10_1
     try clear hfz10_2
     try clear p2
     obtain ⟨x12_2, x122001_2, u122001, rfl, HA, HK2, HO_0, HO_122001, BK121, HB⟩ := hrel
     cases gk with
     | zero => exact absurd HA.out (by simp [crosstreeref10_Alloc.l0])
     | succ k2 =>
      have H := HA.out
      clear HA
      simp only [crosstreeref10_Alloc.l0] at H
      by_cases c11 : x12_2 < a2
      ·rw [if_pos c11] at H
       have c11b0 : decide (x12_2 < a2) = true := decide_eq_true c11
       clear c11
       by_cases c12 : a3 = true
       ·subst c12
        have H1 : ((some (([(⟨1, 0, (⟨0, 0, 0⟩ : S23)⟩ : S42)] : List (S42)) : List (S42))).bind fun y123 => (if x122001_2.length + y123.length < 3518437208883 then (crosstreeref10_Alloc.l0 k2 l0 a2 true (wrap64 (x12_2 + 1)) a1 (x122001_2 ++ y123) false) else (none))) = some (r1, r2, r3) := by rw [if_pos rfl] at H; exact H
        clear H
        have H := H1
        clear H1
        obtain ⟨y123, hy123⟩ : ∃ y_ : List (S42), y_ = (([(⟨1, 0, (⟨0, 0, 0⟩ : S23)⟩ : S42)] : List (S42))) := ⟨_, rfl⟩
        replace H : (if x122001_2.length + y123.length < 3518437208883 then (crosstreeref10_Alloc.l0 k2 l0 a2 true (wrap64 (x12_2 + 1)) a1 (x122001_2 ++ y123) false) else (none)) = some (r1, r2, r3) := by first | (rw [hy123]; with_reducible exact H) | (have H2_ := (Option.bind_some _ _).symm.trans H; rw [hy123]; with_reducible exact H2_) | (have H2_ := (Option.bind_some _ _).symm.trans H; with_reducible exact H2_) | with_reducible exact H | (rw [hy123]; exact H) | exact H
        have Ny123 := Aside0.mk hy123
        clear hy123
        by_cases c13 : x122001_2.length + y123.length < 3518437208883
        ·rw [if_pos c13] at H
         have LMc13 := Aside0.mk c13
         clear c13
         obtain ⟨y126, hy126⟩ : ∃ y_ : List (S42), y_ = (x122001_2 ++ y123) := ⟨_, rfl⟩
         replace H : (crosstreeref10_Alloc.l0 k2 l0 a2 true (wrap64 (x12_2 + 1)) a1 y126 false) = some (r1, r2, r3) := by first | (rw [hy126]; with_reducible exact H) | (have H2_ := (Option.bind_some _ _).symm.trans H; rw [hy126]; with_reducible exact H2_) | (have H2_ := (Option.bind_some _ _).symm.trans H; with_reducible exact H2_) | with_reducible exact H | (rw [hy126]; exact H) | exact H
         have Ny126 := Aside0.mk hy126
         clear hy126
         have H' := Aside0.mk H
         clear H
         go_wp2_with (first | ((with_reducible refine q32 (N := 13) rfl ?_); (try (refine gate_guard (by rfl) ?_; dsimp only)); refine q29 ?hg (N := 13) ?hd (cs := #[.int .i64 0, .int .u8 0, .int .i64 0, .int .i64 0, .int .i64 0]) (t := 42) ?hr ?_; (case hd => rfl); (case hg => rfl); (case hr => first | (go_simp; done) | (go_simp; rfl)); intro gb122 hg w14 hbox hb; have n0_ := Aside0.mk (Kd.V_below (Kd.V_elderB (by (with_reducible repeat (first | apply Kd.V_alloc | apply Kd.V_drewN | apply Kd.V_drew)); exact HO_0.out) gb122 (Nat.le_of_eq hg.symm)) hb); have n1_ := Aside0.mk (Kd.R_below (Kd.R_elderB (by (with_reducible repeat (first | apply Kd.R_alloc | apply Kd.R_drewN | apply Kd.R_drew)); exact HO_122001.out) gb122 (Nat.le_of_eq hg.symm)) hb); have n2_ := Aside0.mk (q19 (g := gb121) (o := .cells #[.int .i64 a1, u122001, .bool false] 69 (0, 0)) (by (with_reducible repeat (first | refine q13 ?_ _ | refine q15 ?_ | refine q12 ?_ _)); exact BK121.out) hb); have n3_ := Aside0.mk (q20 (by repeat (first | (with_reducible first | exact HB.out | apply q10 | apply q9 | apply q11 | refine q14 ?_ GE121.out) | exact HB.out)) hb); have n4_ := Aside0.mk (hbox); have n5_ := Aside0.mk ((by rw [hg]; exact (q21 (by repeat (first | (with_reducible first | exact HB.out | apply q10 | apply q9 | apply q11 | refine q14 ?_ GE121.out) | exact HB.out))) : w.heap.size ≤ gb122)); have n6_ := Aside0.mk ((by rw [hg]; exact (q21 (by repeat (first | (with_reducible first | exact HB.out | apply q10 | apply q9 | apply q11 | refine q14 ?_ GE121.out) | exact HB.out))) : w.heap.size ≤ gb122)); have n7_ := Aside0.mk ((by rw [hg]; exact Nat.ne_of_lt (q30 (g := gb121) (o := .cells #[.int .i64 a1, u122001, .bool false] 69 (0, 0)) (by (with_reducible repeat (first | refine q13 ?_ _ | refine q15 ?_ | refine q12 ?_ _)); exact BK121.out)) : gb121 ≠ gb122)); have n8_ := Aside0.mk ((by rw [hg]; exact Nat.ne_of_gt (q30 (g := gb121) (o := .cells #[.int .i64 a1, u122001, .bool false] 69 (0, 0)) (by (with_reducible repeat (first | refine q13 ?_ _ | refine q15 ?_ | refine q12 ?_ _)); exact BK121.out)) : gb122 ≠ gb121)); clear HO_0; clear HO_122001; clear BK121; clear HB; have HO_0 := n0_; have HO_122001 := n1_; have BK121 := n2_; have HB := n3_; have BK122 := n4_; have GW122 := n5_; have GE122 := n6_; have NB121_122 := n7_; have NB122_121 := n8_; clear n0_ n1_ n2_ n3_ n4_ n5_ n6_ n7_ n8_; clear hb hbox hg; have hnb15 := NB122_121.out; have hnc15 := NB121_122.out; have hcz16_0 : w14.cell? ⟨gb122, 0, none⟩ = some (.int .i64 0) := (q16 BK122.out 0).trans rfl; have hcz16_1 : w14.cell? ⟨gb122, 1, none⟩ = some (.int .u8 0) := (q16 BK122.out 1).trans rfl; have hcz16_2 : w14.cell? ⟨gb122, 2, none⟩ = some (.int .i64 0) := (q16 BK122.out 2).trans rfl; have hcz16_3 : w14.cell? ⟨gb122, 3, none⟩ = some (.int .i64 0) := (q16 BK122.out 3).trans rfl; have hcz16_4 : w14.cell? ⟨gb122, 4, none⟩ = some (.int .i64 0) := (q16 BK122.out 4).trans rfl; have hfz16_0 := q0 BK122.out 0; have hfz16_1 := q0 BK122.out 1; have hfz16_2 := q0 BK122.out 2; have hfz16_3 := q0 BK122.out 3; have hfz16_4 := q0 BK122.out 4; have hcz17_0 : w14.cell? ⟨gb121, 0, none⟩ = some (.int .i64 a1) := (q16 BK121.out 0).trans rfl; have hcz17_1 : w14.cell? ⟨gb121, 1, none⟩ = some (u122001) := (q16 BK121.out 1).trans rfl; have hcz17_2 : w14.cell? ⟨gb121, 2, none⟩ = some (.bool false) := (q16 BK121.out 2).trans rfl; have hfz17_0 := q0 BK121.out 0; have hfz17_1 := q0 BK121.out 1; have hfz17_2 := q0 BK121.out 2) | ((with_reducible refine q32 (N := 39) rfl ?_); (try (refine gate_guard (by rfl) ?_; dsimp only)); refine Kd.R_lit k42 _ 42 ?hg (N := 39) ?hd (xs := ([(⟨1, 0, (⟨0, 0, 0⟩ : S23)⟩ : S42)] : List (S42))) (inner := [.int .i64 1, .int .u8 0, .int .i64 0, .int .i64 0, .int .i64 0]) (ok := fun _ => True) (okp := fun _ => True) ?hr ?hp (fun _ hk => hk) trivial (Below.refl _ _) (Nat.le_refl _) (by simp) ?_; (case hd => rfl); (case hg => rfl); (case hr => first | (go_simp; done) | (go_simp; rfl)); (case hp => exact (Reps.c5 (show Kd.M k42 _ _ _ (⟨1, 0, (⟨0, 0, 0⟩ : S23)⟩ : S42) [.int .i64 1, .int .u8 0, .int .i64 0, .int .i64 0, .int .i64 0] from (k42_mkM _ _ _ (⟨1, 0, (⟨0, 0, 0⟩ : S23)⟩ : S42) )) (Reps.none _ _))); intro v124 w18 ho19 hb hg_ hnew_; clear hg_ hnew_; (first | rw [← Ny123.out] at ho19 | (simp only [Int.reduceToNat] at ho19; rw [← Ny123.out] at ho19)); have n0_ := Aside0.mk (Kd.V_elder' (by (with_reducible repeat (first | apply Kd.V_alloc | apply Kd.V_drewN | apply Kd.V_drew)); exact (Kd.V_mono (Kd.V_far (p := ⟨gb122, 0, none⟩) (Kd.V_far (p := ⟨gb122, 4, none⟩) (Kd.V_far (p := ⟨gb122, 3, none⟩) (Kd.V_far (p := ⟨gb122, 2, none⟩) (Kd.V_far (p := ⟨gb122, 1, none⟩) (Kd.V_far (p := ⟨gb122, 0, none⟩) (Kd.V_mono HO_0.out (fun k_ hk => (⟨hk, hk.2⟩ : _ ∧ k_ ≠ gb122))) (fun _ hk => hk.2) (.int .i64 0)) (fun _ hk => hk.2) (.int .u8 0)) (fun _ hk => hk.2) (.int .i64 0)) (fun _ hk => hk.2) (.int .i64 0)) (fun _ hk => hk.2) (.int .i64 0)) (fun _ hk => hk.2) (.int .i64 1)) (fun _ h_ => h_.1))) (Kd.R_base ho19) hb); have n1_ := Aside0.mk (Kd.R_elder' (by (with_reducible repeat (first | apply Kd.R_alloc | apply Kd.R_drewN | apply Kd.R_drew)); exact (Kd.R_mono (Kd.R_far (p := ⟨gb122, 0, none⟩) (Kd.R_far (p := ⟨gb122, 4, none⟩) (Kd.R_far (p := ⟨gb122, 3, none⟩) (Kd.R_far (p := ⟨gb122, 2, none⟩) (Kd.R_far (p := ⟨gb122, 1, none⟩) (Kd.R_far (p := ⟨gb122, 0, none⟩) (Kd.R_mono HO_122001.out (fun k_ hk => (⟨hk, hk.2⟩ : _ ∧ k_ ≠ gb122))) (fun _ hk => hk.2) (.int .i64 0)) (fun _ hk => hk.2) (.int .u8 0)) (fun _ hk => hk.2) (.int .i64 0)) (fun _ hk => hk.2) (.int .i64 0)) (fun _ hk => hk.2) (.int .i64 0)) (fun _ hk => hk.2) (.int .i64 1)) (fun _ h_ => h_.1))) (Kd.R_base ho19) hb); have n2_ := Aside0.mk (Kd.R_lower (Kd.R_newB (Kd.R_new' (Kd.R_newM (M := fun k_ => (w.heap.size ≤ k_)) ho19 (q21 (by repeat (first | (with_reducible first | exact HB.out | apply q10 | apply q9 | apply q11 | refine q14 ?_ GE121.out | refine q14 ?_ GE122.out) | exact HB.out))) (fun k_ h_ => h_)) (Kd.R_lt (by (with_reducible repeat (first | apply Kd.R_alloc | apply Kd.R_drewN | apply Kd.R_drew)); exact (Kd.R_mono (Kd.R_far (p := ⟨gb122, 0, none⟩) (Kd.R_far (p := ⟨gb122, 4, none⟩) (Kd.R_far (p := ⟨gb122, 3, none⟩) (Kd.R_far (p := ⟨gb122, 2, none⟩) (Kd.R_far (p := ⟨gb122, 1, none⟩) (Kd.R_far (p := ⟨gb122, 0, none⟩) (Kd.R_mono HO_122001.out (fun k_ hk => (⟨hk, hk.2⟩ : _ ∧ k_ ≠ gb122))) (fun _ hk => hk.2) (.int .i64 0)) (fun _ hk => hk.2) (.int .u8 0)) (fun _ hk => hk.2) (.int .i64 0)) (fun _ hk => hk.2) (.int .i64 0)) (fun _ hk => hk.2) (.int .i64 0)) (fun _ hk => hk.2) (.int .i64 1)) (fun _ h_ => h_.1))))) (g := gb122) (o := .cells #[.int .i64 1, .int .u8 0, .int .i64 0, .int .i64 0, .int .i64 0] 42 (0, 0)) (by (with_reducible repeat (first | refine q13 ?_ _ | refine q15 ?_ | refine q12 ?_ _)); refine q28 (cs := #[.int .i64 0, .int .u8 0, .int .i64 0, .int .i64 0, .int .i64 0]) ?_ 0 _ rfl; (with_reducible repeat (first | refine q13 ?_ _ | refine q15 ?_ | refine q12 ?_ _)); refine q28 (cs := #[.int .i64 0, .int .u8 0, .int .i64 0, .int .i64 0, .int .i64 0]) ?_ 4 _ rfl; (with_reducible repeat (first | refine q13 ?_ _ | refine q15 ?_ | refine q12 ?_ _)); refine q28 (cs := #[.int .i64 0, .int .u8 0, .int .i64 0, .int .i64 0, .int .i64 0]) ?_ 3 _ rfl; (with_reducible repeat (first | refine q13 ?_ _ | refine q15 ?_ | refine q12 ?_ _)); refine q28 (cs := #[.int .i64 0, .int .u8 0, .int .i64 0, .int .i64 0, .int .i64 0]) ?_ 2 _ rfl; (with_reducible repeat (first | refine q13 ?_ _ | refine q15 ?_ | refine q12 ?_ _)); refine q28 (cs := #[.int .i64 0, .int .u8 0, .int .i64 0, .int .i64 0, .int .i64 0]) ?_ 1 _ rfl; (with_reducible repeat (first | refine q13 ?_ _ | refine q15 ?_ | refine q12 ?_ _)); refine q28 (cs := #[.int .i64 0, .int .u8 0, .int .i64 0, .int .i64 0, .int .i64 0]) ?_ 0 _ rfl; (with_reducible repeat (first | refine q13 ?_ _ | refine q15 ?_ | refine q12 ?_ _)); exact BK122.out)) (q21 (by repeat (first | (with_reducible first | exact HB.out | apply q10 | apply q9 | apply q11 | refine q14 ?_ GE121.out | refine q14 ?_ GE122.out) | exact HB.out)))); have n3_ := Aside0.mk (q19 (g := gb121) (o := .cells #[.int .i64 a1, u122001, .bool false] 69 (0, 0)) (by (with_reducible repeat (first | refine q13 ?_ _ | refine q15 ?_ | refine q12 ?_ _)); refine q40 ?_ NB121_122.out _; (with_reducible repeat (first | refine q13 ?_ _ | refine q15 ?_ | refine q12 ?_ _)); refine q40 ?_ NB121_122.out _; (with_reducible repeat (first | refine q13 ?_ _ | refine q15 ?_ | refine q12 ?_ _)); refine q40 ?_ NB121_122.out _; (with_reducible repeat (first | refine q13 ?_ _ | refine q15 ?_ | refine q12 ?_ _)); refine q40 ?_ NB121_122.out _; (with_reducible repeat (first | refine q13 ?_ _ | refine q15 ?_ | refine q12 ?_ _)); refine q40 ?_ NB121_122.out _; (with_reducible repeat (first | refine q13 ?_ _ | refine q15 ?_ | refine q12 ?_ _)); refine q40 ?_ NB121_122.out _; (with_reducible repeat (first | refine q13 ?_ _ | refine q15 ?_ | refine q12 ?_ _)); exact BK121.out) hb); have n4_ := Aside0.mk (q19 (g := gb122) (o := .cells #[.int .i64 1, .int .u8 0, .int .i64 0, .int .i64 0, .int .i64 0] 42 (0, 0)) (by (with_reducible repeat (first | refine q13 ?_ _ | refine q15 ?_ | refine q12 ?_ _)); refine q28 (cs := #[.int .i64 0, .int .u8 0, .int .i64 0, .int .i64 0, .int .i64 0]) ?_ 0 _ rfl; (with_reducible repeat (first | refine q13 ?_ _ | refine q15 ?_ | refine q12 ?_ _)); refine q28 (cs := #[.int .i64 0, .int .u8 0, .int .i64 0, .int .i64 0, .int .i64 0]) ?_ 4 _ rfl; (with_reducible repeat (first | refine q13 ?_ _ | refine q15 ?_ | refine q12 ?_ _)); refine q28 (cs := #[.int .i64 0, .int .u8 0, .int .i64 0, .int .i64 0, .int .i64 0]) ?_ 3 _ rfl; (with_reducible repeat (first | refine q13 ?_ _ | refine q15 ?_ | refine q12 ?_ _)); refine q28 (cs := #[.int .i64 0, .int .u8 0, .int .i64 0, .int .i64 0, .int .i64 0]) ?_ 2 _ rfl; (with_reducible repeat (first | refine q13 ?_ _ | refine q15 ?_ | refine q12 ?_ _)); refine q28 (cs := #[.int .i64 0, .int .u8 0, .int .i64 0, .int .i64 0, .int .i64 0]) ?_ 1 _ rfl; (with_reducible repeat (first | refine q13 ?_ _ | refine q15 ?_ | refine q12 ?_ _)); refine q28 (cs := #[.int .i64 0, .int .u8 0, .int .i64 0, .int .i64 0, .int .i64 0]) ?_ 0 _ rfl; (with_reducible repeat (first | refine q13 ?_ _ | refine q15 ?_ | refine q12 ?_ _)); exact BK122.out) hb); have n5_ := Aside0.mk (q20 (by repeat (first | (with_reducible first | exact HB.out | apply q10 | apply q9 | apply q11 | refine q14 ?_ GE121.out | refine q14 ?_ GE122.out) | exact HB.out)) hb); clear HO_0; clear HO_122001; clear BK121; clear BK122; clear HB; have HO_0 := n0_; have HO_122001 := n1_; have HO125 := n2_; have BK121 := n3_; have BK122 := n4_; have HB := n5_; clear n0_ n1_ n2_ n3_ n4_ n5_; clear hb ho19; obtain ⟨Ao21, co21, eo21⟩ := Kd.R_slice HO125.out; subst eo21) | ((with_reducible refine gate_builtin (b := .append) (xs := #[.tmp 37, .tmp 39]) rfl ?_); (try (refine gate_guard (by rfl) ?_; dsimp only)); at_builtin; refine Kd.R_append_rows k42 (w0 := w) w.heap.size rfl (.tmp 37) (.tmp 39) 38 42 (.agg #[(.int .i64 0), (.int .u8 0), (.int .i64 0), (.int .i64 0), (.int .i64 0)]) 40 rfl Try.underlying38 info42 rfl (by decide) (by omega) u122001 x122001_2 y123 _ _ _ (fun k_ => (w.heap.size ≤ k_) ∧ some k_ ≠ (.slice Ao21 y123.length co21 : Value).ownBlock ∧ k_ ≠ gb122) (fun _ => False) rfl rfl ?aO ?aR (fun _ _ h => h) (fun _ h => h.elim) ?aF ?aB ?aS ?aL ?_; (case aR => repeat (first | exact (Kd.R_reads' HO125.out).2.2 | (with_reducible refine Kd.C_alloc ?_ _) | (with_reducible refine Kd.C_drewN ?_ _) | (with_reducible refine Kd.C_drew ?_))); (case aB => exact (by repeat (first | (with_reducible first | exact HB.out | apply q10 | apply q9 | apply q11 | refine q14 ?_ GE121.out | refine q14 ?_ GE122.out) | exact HB.out))); (case aF => exact (fun k_ hk => ⟨(Nat.le_trans (q21 (by repeat (first | (with_reducible first | exact HB.out | apply q10 | apply q9 | apply q11 | refine q14 ?_ GE121.out | refine q14 ?_ GE122.out) | exact HB.out))) hk), Kd.fresh' (Kd.R_lt (by (with_reducible repeat (first | apply Kd.R_alloc | apply Kd.R_drewN | apply Kd.R_drew)); exact HO125.out)) k_ hk, Kd.freshB (g := gb122) (o := .cells #[.int .i64 1, .int .u8 0, .int .i64 0, .int .i64 0, .int .i64 0] 42 (0, 0)) (by (with_reducible repeat (first | refine q13 ?_ _ | refine q15 ?_ | refine q12 ?_ _)); exact BK122.out) k_ hk⟩)); (case aO => exact (by (with_reducible repeat (first | apply Kd.R_alloc | apply Kd.R_drewN | apply Kd.R_drew)); exact Kd.R_mono HO_122001.out (fun _ hk => ⟨hk.1.1, ⟨hk.2, hk.1.2⟩⟩))); (case aS => exact (q21 (by repeat (first | (with_reducible first | exact HB.out | apply q10 | apply q9 | apply q11 | refine q14 ?_ GE121.out | refine q14 ?_ GE122.out) | exact HB.out)))); (case aL => have := LMc13.out; omega); intro v127 w20 ho hb hg hat; rw [← Ny126.out] at ho; have n0_ := Aside0.mk (Kd.V_afterv (ok := (fun k_ => (P0_ k_ ∨ w.heap.size ≤ k_) ∧ some k_ ≠ (.slice Ao21 y123.length co21 : Value).ownBlock ∧ k_ ≠ gb121 ∧ k_ ≠ gb122)) (by (with_reducible repeat (first | apply Kd.V_alloc | apply Kd.V_drewN | apply Kd.V_drew)); exact Kd.V_mono HO_0.out (fun _ hk => ⟨⟨hk.1.1.1, ⟨hk.2, ⟨hk.1.1.2.2, hk.1.2⟩⟩⟩, hk.1.1.2.1⟩)) hg hat); have n1_ := Aside0.mk (q45 (g := gb121) (o := .cells #[.int .i64 a1, u122001, .bool false] 69 (0, 0)) (by (with_reducible repeat (first | refine q13 ?_ _ | refine q15 ?_ | refine q12 ?_ _)); exact BK121.out) hg (Kd.R_ne HO_122001.out BK121.out (by decide))); have n2_ := Aside0.mk (q45 (g := gb122) (o := .cells #[.int .i64 1, .int .u8 0, .int .i64 0, .int .i64 0, .int .i64 0] 42 (0, 0)) (by (with_reducible repeat (first | refine q13 ?_ _ | refine q15 ?_ | refine q12 ?_ _)); exact BK122.out) hg (Kd.R_away HO_122001.out (fun _ hk => hk.1.2))); have n3_ := Aside0.mk (Kd.R_after (ok := (fun k_ => (w.heap.size ≤ k_) ∧ k_ ≠ gb122)) (by (with_reducible repeat (first | apply Kd.R_alloc | apply Kd.R_drewN | apply Kd.R_drew)); exact Kd.R_mono HO125.out (fun _ hk => ⟨⟨hk.1.1.1, hk.2⟩, hk.1.2⟩)) hg hat); have n4_ := Aside0.mk (hb); have n5_ := Aside0.mk (ho); clear HO_0; clear BK121; clear BK122; clear HO125; clear HB; clear HO_122001; have HO_0 := n0_; have BK121 := n1_; have BK122 := n2_; have HO125 := n3_; have HB := n4_; have HO128 := n5_; clear n0_ n1_ n2_ n3_ n4_ n5_; clear ho hb hg hat; obtain ⟨Ao22, co22, eo22⟩ := Kd.R_slice HO128.out; subst eo22; have hcz23_0 : w20.cell? ⟨gb121, 0, none⟩ = some (.int .i64 a1) := (q16 BK121.out 0).trans rfl; have hcz23_1 : w20.cell? ⟨gb121, 1, none⟩ = some (u122001) := (q16 BK121.out 1).trans rfl; have hcz23_2 : w20.cell? ⟨gb121, 2, none⟩ = some (.bool false) := (q16 BK121.out 2).trans rfl; have hfz23_0 := q0 BK121.out 0; have hfz23_1 := q0 BK121.out 1; have hfz23_2 := q0 BK121.out 2))
         go_roundg k2
         case measure => have := HJ4.out; have := HK2.out; omega
         case rel => exact ⟨(wrap64 (x12_2 + 1)), (y126), (.slice Ao22 y126.length co22), (by first | rfl | (simp; done) | (simp [*]; done)), H', ⟨by have := HJ4.out; have := HK2.out; omega⟩, ⟨by (with_reducible repeat (first | apply Kd.V_alloc | apply Kd.V_drewN | apply Kd.V_drew)); exact Kd.V_mono (Kd.V_far (p := ⟨gb121, 1, none⟩) (Kd.V_mono HO_0.out (fun k_ hk => (⟨hk, hk.1.2.2.1⟩ : _ ∧ k_ ≠ gb121))) (fun _ hk => hk.2) (.slice Ao22 y126.length co22)) (fun _ hk => ⟨hk.1.1.1, ⟨hk.1.2, hk.1.1.2.2.1⟩⟩)⟩, ⟨by (with_reducible repeat (first | apply Kd.R_alloc | apply Kd.R_drewN | apply Kd.R_drew)); exact Kd.R_mono (Kd.R_far (p := ⟨gb121, 1, none⟩) (Kd.R_types HO128.out BK121.out (by decide)) (fun _ hk => hk.2) (.slice Ao22 y126.length co22)) (fun _ hk => hk.1.1)⟩, ⟨by (with_reducible repeat (first | refine q13 ?_ _ | refine q15 ?_ | refine q12 ?_ _)); refine q28 (cs := #[.int .i64 a1, u122001, .bool false]) ?_ 1 _ rfl; (with_reducible repeat (first | refine q13 ?_ _ | refine q15 ?_ | refine q12 ?_ _)); exact BK121.out⟩, ⟨by repeat (first | (with_reducible first | exact HB.out | apply q10 | apply q9 | apply q11 | refine q14 ?_ GE121.out | refine q14 ?_ GE122.out) | exact HB.out)⟩⟩
        ·rw [if_neg c13] at H
         exact absurd H (by simp)
       ·replace c12 := Bool.eq_false_iff.mpr c12
        subst c12
        have H1 : ((some (([(⟨0, 0, (⟨0, 0, 0⟩ : S23)⟩ : S42)] : List (S42)) : List (S42))).bind fun y129 => (if x122001_2.length + y129.length < 3518437208883 then (crosstreeref10_Alloc.l0 k2 l0 a2 false (wrap64 (x12_2 + 1)) a1 (x122001_2 ++ y129) false) else (none))) = some (r1, r2, r3) := by rw [if_neg (show ¬ (false = true) by decide)] at H; exact H
        clear H
        have H := H1
        clear H1
        obtain ⟨y129, hy129⟩ : ∃ y_ : List (S42), y_ = (([(⟨0, 0, (⟨0, 0, 0⟩ : S23)⟩ : S42)] : List (S42))) := ⟨_, rfl⟩
        replace H : (if x122001_2.length + y129.length < 3518437208883 then (crosstreeref10_Alloc.l0 k2 l0 a2 false (wrap64 (x12_2 + 1)) a1 (x122001_2 ++ y129) false) else (none)) = some (r1, r2, r3) := by first | (rw [hy129]; with_reducible exact H) | (have H2_ := (Option.bind_some _ _).symm.trans H; rw [hy129]; with_reducible exact H2_) | (have H2_ := (Option.bind_some _ _).symm.trans H; with_reducible exact H2_) | with_reducible exact H | (rw [hy129]; exact H) | exact H
        have Ny129 := Aside0.mk hy129
        clear hy129
        by_cases c24 : x122001_2.length + y129.length < 3518437208883
        ·rw [if_pos c24] at H
         have LMc24 := Aside0.mk c24
         clear c24
         obtain ⟨y132, hy132⟩ : ∃ y_ : List (S42), y_ = (x122001_2 ++ y129) := ⟨_, rfl⟩
         replace H : (crosstreeref10_Alloc.l0 k2 l0 a2 false (wrap64 (x12_2 + 1)) a1 y132 false) = some (r1, r2, r3) := by first | (rw [hy132]; with_reducible exact H) | (have H2_ := (Option.bind_some _ _).symm.trans H; rw [hy132]; with_reducible exact H2_) | (have H2_ := (Option.bind_some _ _).symm.trans H; with_reducible exact H2_) | with_reducible exact H | (rw [hy132]; exact H) | exact H
         have Ny132 := Aside0.mk hy132
         clear hy132
         have H' := Aside0.mk H
         clear H
         go_wp2_with (first | ((with_reducible refine q32 (N := 13) rfl ?_); (try (refine gate_guard (by rfl) ?_; dsimp only)); refine q29 ?hg (N := 13) ?hd (cs := #[.int .i64 0, .int .u8 0, .int .i64 0, .int .i64 0, .int .i64 0]) (t := 42) ?hr ?_; (case hd => rfl); (case hg => rfl); (case hr => first | (go_simp; done) | (go_simp; rfl)); intro gb122 hg w25 hbox hb; have n0_ := Aside0.mk (Kd.V_below (Kd.V_elderB (by (with_reducible repeat (first | apply Kd.V_alloc | apply Kd.V_drewN | apply Kd.V_drew)); exact HO_0.out) gb122 (Nat.le_of_eq hg.symm)) hb); have n1_ := Aside0.mk (Kd.R_below (Kd.R_elderB (by (with_reducible repeat (first | apply Kd.R_alloc | apply Kd.R_drewN | apply Kd.R_drew)); exact HO_122001.out) gb122 (Nat.le_of_eq hg.symm)) hb); have n2_ := Aside0.mk (q19 (g := gb121) (o := .cells #[.int .i64 a1, u122001, .bool false] 69 (0, 0)) (by (with_reducible repeat (first | refine q13 ?_ _ | refine q15 ?_ | refine q12 ?_ _)); exact BK121.out) hb); have n3_ := Aside0.mk (q20 (by repeat (first | (with_reducible first | exact HB.out | apply q10 | apply q9 | apply q11 | refine q14 ?_ GE121.out) | exact HB.out)) hb); have n4_ := Aside0.mk (hbox); have n5_ := Aside0.mk ((by rw [hg]; exact (q21 (by repeat (first | (with_reducible first | exact HB.out | apply q10 | apply q9 | apply q11 | refine q14 ?_ GE121.out) | exact HB.out))) : w.heap.size ≤ gb122)); have n6_ := Aside0.mk ((by rw [hg]; exact (q21 (by repeat (first | (with_reducible first | exact HB.out | apply q10 | apply q9 | apply q11 | refine q14 ?_ GE121.out) | exact HB.out))) : w.heap.size ≤ gb122)); have n7_ := Aside0.mk ((by rw [hg]; exact Nat.ne_of_lt (q30 (g := gb121) (o := .cells #[.int .i64 a1, u122001, .bool false] 69 (0, 0)) (by (with_reducible repeat (first | refine q13 ?_ _ | refine q15 ?_ | refine q12 ?_ _)); exact BK121.out)) : gb121 ≠ gb122)); have n8_ := Aside0.mk ((by rw [hg]; exact Nat.ne_of_gt (q30 (g := gb121) (o := .cells #[.int .i64 a1, u122001, .bool false] 69 (0, 0)) (by (with_reducible repeat (first | refine q13 ?_ _ | refine q15 ?_ | refine q12 ?_ _)); exact BK121.out)) : gb122 ≠ gb121)); clear HO_0; clear HO_122001; clear BK121; clear HB; have HO_0 := n0_; have HO_122001 := n1_; have BK121 := n2_; have HB := n3_; have BK122 := n4_; have GW122 := n5_; have GE122 := n6_; have NB121_122 := n7_; have NB122_121 := n8_; clear n0_ n1_ n2_ n3_ n4_ n5_ n6_ n7_ n8_; clear hb hbox hg; have hnb26 := NB122_121.out; have hnc26 := NB121_122.out; have hcz27_0 : w25.cell? ⟨gb122, 0, none⟩ = some (.int .i64 0) := (q16 BK122.out 0).trans rfl; have hcz27_1 : w25.cell? ⟨gb122, 1, none⟩ = some (.int .u8 0) := (q16 BK122.out 1).trans rfl; have hcz27_2 : w25.cell? ⟨gb122, 2, none⟩ = some (.int .i64 0) := (q16 BK122.out 2).trans rfl; have hcz27_3 : w25.cell? ⟨gb122, 3, none⟩ = some (.int .i64 0) := (q16 BK122.out 3).trans rfl; have hcz27_4 : w25.cell? ⟨gb122, 4, none⟩ = some (.int .i64 0) := (q16 BK122.out 4).trans rfl; have hfz27_0 := q0 BK122.out 0; have hfz27_1 := q0 BK122.out 1; have hfz27_2 := q0 BK122.out 2; have hfz27_3 := q0 BK122.out 3; have hfz27_4 := q0 BK122.out 4; have hcz28_0 : w25.cell? ⟨gb121, 0, none⟩ = some (.int .i64 a1) := (q16 BK121.out 0).trans rfl; have hcz28_1 : w25.cell? ⟨gb121, 1, none⟩ = some (u122001) := (q16 BK121.out 1).trans rfl; have hcz28_2 : w25.cell? ⟨gb121, 2, none⟩ = some (.bool false) := (q16 BK121.out 2).trans rfl; have hfz28_0 := q0 BK121.out 0; have hfz28_1 := q0 BK121.out 1; have hfz28_2 := q0 BK121.out 2) | ((with_reducible refine q32 (N := 39) rfl ?_); (try (refine gate_guard (by rfl) ?_; dsimp only)); refine Kd.R_lit k42 _ 42 ?hg (N := 39) ?hd (xs := ([(⟨0, 0, (⟨0, 0, 0⟩ : S23)⟩ : S42)] : List (S42))) (inner := [.int .i64 0, .int .u8 0, .int .i64 0, .int .i64 0, .int .i64 0]) (ok := fun _ => True) (okp := fun _ => True) ?hr ?hp (fun _ hk => hk) trivial (Below.refl _ _) (Nat.le_refl _) (by simp) ?_; (case hd => rfl); (case hg => rfl); (case hr => first | (go_simp; done) | (go_simp; rfl)); (case hp => exact (Reps.c5 (show Kd.M k42 _ _ _ (⟨0, 0, (⟨0, 0, 0⟩ : S23)⟩ : S42) [.int .i64 0, .int .u8 0, .int .i64 0, .int .i64 0, .int .i64 0] from (k42_mkM _ _ _ (⟨0, 0, (⟨0, 0, 0⟩ : S23)⟩ : S42) )) (Reps.none _ _))); intro v130 w29 ho30 hb hg_ hnew_; clear hg_ hnew_; (first | rw [← Ny129.out] at ho30 | (simp only [Int.reduceToNat] at ho30; rw [← Ny129.out] at ho30)); have n0_ := Aside0.mk (Kd.V_elder' (by (with_reducible repeat (first | apply Kd.V_alloc | apply Kd.V_drewN | apply Kd.V_drew)); exact (Kd.V_mono (Kd.V_far (p := ⟨gb122, 4, none⟩) (Kd.V_far (p := ⟨gb122, 3, none⟩) (Kd.V_far (p := ⟨gb122, 2, none⟩) (Kd.V_far (p := ⟨gb122, 1, none⟩) (Kd.V_far (p := ⟨gb122, 0, none⟩) (Kd.V_mono HO_0.out (fun k_ hk => (⟨hk, hk.2⟩ : _ ∧ k_ ≠ gb122))) (fun _ hk => hk.2) (.int .i64 0)) (fun _ hk => hk.2) (.int .u8 0)) (fun _ hk => hk.2) (.int .i64 0)) (fun _ hk => hk.2) (.int .i64 0)) (fun _ hk => hk.2) (.int .i64 0)) (fun _ h_ => h_.1))) (Kd.R_base ho30) hb); have n1_ := Aside0.mk (Kd.R_elder' (by (with_reducible repeat (first | apply Kd.R_alloc | apply Kd.R_drewN | apply Kd.R_drew)); exact (Kd.R_mono (Kd.R_far (p := ⟨gb122, 4, none⟩) (Kd.R_far (p := ⟨gb122, 3, none⟩) (Kd.R_far (p := ⟨gb122, 2, none⟩) (Kd.R_far (p := ⟨gb122, 1, none⟩) (Kd.R_far (p := ⟨gb122, 0, none⟩) (Kd.R_mono HO_122001.out (fun k_ hk => (⟨hk, hk.2⟩ : _ ∧ k_ ≠ gb122))) (fun _ hk => hk.2) (.int .i64 0)) (fun _ hk => hk.2) (.int .u8 0)) (fun _ hk => hk.2) (.int .i64 0)) (fun _ hk => hk.2) (.int .i64 0)) (fun _ hk => hk.2) (.int .i64 0)) (fun _ h_ => h_.1))) (Kd.R_base ho30) hb); have n2_ := Aside0.mk (Kd.R_lower (Kd.R_newB (Kd.R_new' (Kd.R_newM (M := fun k_ => (w.heap.size ≤ k_)) ho30 (q21 (by repeat (first | (with_reducible first | exact HB.out | apply q10 | apply q9 | apply q11 | refine q14 ?_ GE121.out | refine q14 ?_ GE122.out) | exact HB.out))) (fun k_ h_ => h_)) (Kd.R_lt (by (with_reducible repeat (first | apply Kd.R_alloc | apply Kd.R_drewN | apply Kd.R_drew)); exact (Kd.R_mono (Kd.R_far (p := ⟨gb122, 4, none⟩) (Kd.R_far (p := ⟨gb122, 3, none⟩) (Kd.R_far (p := ⟨gb122, 2, none⟩) (Kd.R_far (p := ⟨gb122, 1, none⟩) (Kd.R_far (p := ⟨gb122, 0, none⟩) (Kd.R_mono HO_122001.out (fun k_ hk => (⟨hk, hk.2⟩ : _ ∧ k_ ≠ gb122))) (fun _ hk => hk.2) (.int .i64 0)) (fun _ hk => hk.2) (.int .u8 0)) (fun _ hk => hk.2) (.int .i64 0)) (fun _ hk => hk.2) (.int .i64 0)) (fun _ hk => hk.2) (.int .i64 0)) (fun _ h_ => h_.1))))) (g := gb122) (o := .cells #[.int .i64 0, .int .u8 0, .int .i64 0, .int .i64 0, .int .i64 0] 42 (0, 0)) (by (with_reducible repeat (first | refine q13 ?_ _ | refine q15 ?_ | refine q12 ?_ _)); refine q28 (cs := #[.int .i64 0, .int .u8 0, .int .i64 0, .int .i64 0, .int .i64 0]) ?_ 4 _ rfl; (with_reducible repeat (first | refine q13 ?_ _ | refine q15 ?_ | refine q12 ?_ _)); refine q28 (cs := #[.int .i64 0, .int .u8 0, .int .i64 0, .int .i64 0, .int .i64 0]) ?_ 3 _ rfl; (with_reducible repeat (first | refine q13 ?_ _ | refine q15 ?_ | refine q12 ?_ _)); refine q28 (cs := #[.int .i64 0, .int .u8 0, .int .i64 0, .int .i64 0, .int .i64 0]) ?_ 2 _ rfl; (with_reducible repeat (first | refine q13 ?_ _ | refine q15 ?_ | refine q12 ?_ _)); refine q28 (cs := #[.int .i64 0, .int .u8 0, .int .i64 0, .int .i64 0, .int .i64 0]) ?_ 1 _ rfl; (with_reducible repeat (first | refine q13 ?_ _ | refine q15 ?_ | refine q12 ?_ _)); refine q28 (cs := #[.int .i64 0, .int .u8 0, .int .i64 0, .int .i64 0, .int .i64 0]) ?_ 0 _ rfl; (with_reducible repeat (first | refine q13 ?_ _ | refine q15 ?_ | refine q12 ?_ _)); exact BK122.out)) (q21 (by repeat (first | (with_reducible first | exact HB.out | apply q10 | apply q9 | apply q11 | refine q14 ?_ GE121.out | refine q14 ?_ GE122.out) | exact HB.out)))); have n3_ := Aside0.mk (q19 (g := gb121) (o := .cells #[.int .i64 a1, u122001, .bool false] 69 (0, 0)) (by (with_reducible repeat (first | refine q13 ?_ _ | refine q15 ?_ | refine q12 ?_ _)); refine q40 ?_ NB121_122.out _; (with_reducible repeat (first | refine q13 ?_ _ | refine q15 ?_ | refine q12 ?_ _)); refine q40 ?_ NB121_122.out _; (with_reducible repeat (first | refine q13 ?_ _ | refine q15 ?_ | refine q12 ?_ _)); refine q40 ?_ NB121_122.out _; (with_reducible repeat (first | refine q13 ?_ _ | refine q15 ?_ | refine q12 ?_ _)); refine q40 ?_ NB121_122.out _; (with_reducible repeat (first | refine q13 ?_ _ | refine q15 ?_ | refine q12 ?_ _)); refine q40 ?_ NB121_122.out _; (with_reducible repeat (first | refine q13 ?_ _ | refine q15 ?_ | refine q12 ?_ _)); exact BK121.out) hb); have n4_ := Aside0.mk (q19 (g := gb122) (o := .cells #[.int .i64 0, .int .u8 0, .int .i64 0, .int .i64 0, .int .i64 0] 42 (0, 0)) (by (with_reducible repeat (first | refine q13 ?_ _ | refine q15 ?_ | refine q12 ?_ _)); refine q28 (cs := #[.int .i64 0, .int .u8 0, .int .i64 0, .int .i64 0, .int .i64 0]) ?_ 4 _ rfl; (with_reducible repeat (first | refine q13 ?_ _ | refine q15 ?_ | refine q12 ?_ _)); refine q28 (cs := #[.int .i64 0, .int .u8 0, .int .i64 0, .int .i64 0, .int .i64 0]) ?_ 3 _ rfl; (with_reducible repeat (first | refine q13 ?_ _ | refine q15 ?_ | refine q12 ?_ _)); refine q28 (cs := #[.int .i64 0, .int .u8 0, .int .i64 0, .int .i64 0, .int .i64 0]) ?_ 2 _ rfl; (with_reducible repeat (first | refine q13 ?_ _ | refine q15 ?_ | refine q12 ?_ _)); refine q28 (cs := #[.int .i64 0, .int .u8 0, .int .i64 0, .int .i64 0, .int .i64 0]) ?_ 1 _ rfl; (with_reducible repeat (first | refine q13 ?_ _ | refine q15 ?_ | refine q12 ?_ _)); refine q28 (cs := #[.int .i64 0, .int .u8 0, .int .i64 0, .int .i64 0, .int .i64 0]) ?_ 0 _ rfl; (with_reducible repeat (first | refine q13 ?_ _ | refine q15 ?_ | refine q12 ?_ _)); exact BK122.out) hb); have n5_ := Aside0.mk (q20 (by repeat (first | (with_reducible first | exact HB.out | apply q10 | apply q9 | apply q11 | refine q14 ?_ GE121.out | refine q14 ?_ GE122.out) | exact HB.out)) hb); clear HO_0; clear HO_122001; clear BK121; clear BK122; clear HB; have HO_0 := n0_; have HO_122001 := n1_; have HO131 := n2_; have BK121 := n3_; have BK122 := n4_; have HB := n5_; clear n0_ n1_ n2_ n3_ n4_ n5_; clear hb ho30; obtain ⟨Ao32, co32, eo32⟩ := Kd.R_slice HO131.out; subst eo32) | ((with_reducible refine gate_builtin (b := .append) (xs := #[.tmp 37, .tmp 39]) rfl ?_); (try (refine gate_guard (by rfl) ?_; dsimp only)); at_builtin; refine Kd.R_append_rows k42 (w0 := w) w.heap.size rfl (.tmp 37) (.tmp 39) 38 42 (.agg #[(.int .i64 0), (.int .u8 0), (.int .i64 0), (.int .i64 0), (.int .i64 0)]) 40 rfl Try.underlying38 info42 rfl (by decide) (by omega) u122001 x122001_2 y129 _ _ _ (fun k_ => (w.heap.size ≤ k_) ∧ some k_ ≠ (.slice Ao32 y129.length co32 : Value).ownBlock ∧ k_ ≠ gb122) (fun _ => False) rfl rfl ?aO ?aR (fun _ _ h => h) (fun _ h => h.elim) ?aF ?aB ?aS ?aL ?_; (case aR => repeat (first | exact (Kd.R_reads' HO131.out).2.2 | (with_reducible refine Kd.C_alloc ?_ _) | (with_reducible refine Kd.C_drewN ?_ _) | (with_reducible refine Kd.C_drew ?_))); (case aB => exact (by repeat (first | (with_reducible first | exact HB.out | apply q10 | apply q9 | apply q11 | refine q14 ?_ GE121.out | refine q14 ?_ GE122.out) | exact HB.out))); (case aF => exact (fun k_ hk => ⟨(Nat.le_trans (q21 (by repeat (first | (with_reducible first | exact HB.out | apply q10 | apply q9 | apply q11 | refine q14 ?_ GE121.out | refine q14 ?_ GE122.out) | exact HB.out))) hk), Kd.fresh' (Kd.R_lt (by (with_reducible repeat (first | apply Kd.R_alloc | apply Kd.R_drewN | apply Kd.R_drew)); exact HO131.out)) k_ hk, Kd.freshB (g := gb122) (o := .cells #[.int .i64 0, .int .u8 0, .int .i64 0, .int .i64 0, .int .i64 0] 42 (0, 0)) (by (with_reducible repeat (first | refine q13 ?_ _ | refine q15 ?_ | refine q12 ?_ _)); exact BK122.out) k_ hk⟩)); (case aO => exact (by (with_reducible repeat (first | apply Kd.R_alloc | apply Kd.R_drewN | apply Kd.R_drew)); exact Kd.R_mono HO_122001.out (fun _ hk => ⟨hk.1.1, ⟨hk.2, hk.1.2⟩⟩))); (case aS => exact (q21 (by repeat (first | (with_reducible first | exact HB.out | apply q10 | apply q9 | apply q11 | refine q14 ?_ GE121.out | refine q14 ?_ GE122.out) | exact HB.out)))); (case aL => have := LMc24.out; omega); intro v133 w31 ho hb hg hat; rw [← Ny132.out] at ho; have n0_ := Aside0.mk (Kd.V_afterv (ok := (fun k_ => (P0_ k_ ∨ w.heap.size ≤ k_) ∧ some k_ ≠ (.slice Ao32 y129.length co32 : Value).ownBlock ∧ k_ ≠ gb121 ∧ k_ ≠ gb122)) (by (with_reducible repeat (first | apply Kd.V_alloc | apply Kd.V_drewN | apply Kd.V_drew)); exact Kd.V_mono HO_0.out (fun _ hk => ⟨⟨hk.1.1.1, ⟨hk.2, ⟨hk.1.1.2.2, hk.1.2⟩⟩⟩, hk.1.1.2.1⟩)) hg hat); have n1_ := Aside0.mk (q45 (g := gb121) (o := .cells #[.int .i64 a1, u122001, .bool false] 69 (0, 0)) (by (with_reducible repeat (first | refine q13 ?_ _ | refine q15 ?_ | refine q12 ?_ _)); exact BK121.out) hg (Kd.R_ne HO_122001.out BK121.out (by decide))); have n2_ := Aside0.mk (q45 (g := gb122) (o := .cells #[.int .i64 0, .int .u8 0, .int .i64 0, .int .i64 0, .int .i64 0] 42 (0, 0)) (by (with_reducible repeat (first | refine q13 ?_ _ | refine q15 ?_ | refine q12 ?_ _)); exact BK122.out) hg (Kd.R_away HO_122001.out (fun _ hk => hk.1.2))); have n3_ := Aside0.mk (Kd.R_after (ok := (fun k_ => (w.heap.size ≤ k_) ∧ k_ ≠ gb122)) (by (with_reducible repeat (first | apply Kd.R_alloc | apply Kd.R_drewN | apply Kd.R_drew)); exact Kd.R_mono HO131.out (fun _ hk => ⟨⟨hk.1.1.1, hk.2⟩, hk.1.2⟩)) hg hat); have n4_ := Aside0.mk (hb); have n5_ := Aside0.mk (ho); clear HO_0; clear BK121; clear BK122; clear HO131; clear HB; clear HO_122001; have HO_0 := n0_; have BK121 := n1_; have BK122 := n2_; have HO131 := n3_; have HB := n4_; have HO134 := n5_; clear n0_ n1_ n2_ n3_ n4_ n5_; clear ho hb hg hat; obtain ⟨Ao33, co33, eo33⟩ := Kd.R_slice HO134.out; subst eo33; have hcz34_0 : w31.cell? ⟨gb121, 0, none⟩ = some (.int .i64 a1) := (q16 BK121.out 0).trans rfl; have hcz34_1 : w31.cell? ⟨gb121, 1, none⟩ = some (u122001) := (q16 BK121.out 1).trans rfl; have hcz34_2 : w31.cell? ⟨gb121, 2, none⟩ = some (.bool false) := (q16 BK121.out 2).trans rfl; have hfz34_0 := q0 BK121.out 0; have hfz34_1 := q0 BK121.out 1; have hfz34_2 := q0 BK121.out 2))
         go_roundg k2
         case measure => have := HJ4.out; have := HK2.out; omega
         case rel => exact ⟨(wrap64 (x12_2 + 1)), (y132), (.slice Ao33 y132.length co33), (by first | rfl | (simp; done) | (simp [*]; done)), H', ⟨by have := HJ4.out; have := HK2.out; omega⟩, ⟨by (with_reducible repeat (first | apply Kd.V_alloc | apply Kd.V_drewN | apply Kd.V_drew)); exact Kd.V_mono (Kd.V_far (p := ⟨gb121, 1, none⟩) (Kd.V_mono HO_0.out (fun k_ hk => (⟨hk, hk.1.2.2.1⟩ : _ ∧ k_ ≠ gb121))) (fun _ hk => hk.2) (.slice Ao33 y132.length co33)) (fun _ hk => ⟨hk.1.1.1, ⟨hk.1.2, hk.1.1.2.2.1⟩⟩)⟩, ⟨by (with_reducible repeat (first | apply Kd.R_alloc | apply Kd.R_drewN | apply Kd.R_drew)); exact Kd.R_mono (Kd.R_far (p := ⟨gb121, 1, none⟩) (Kd.R_types HO134.out BK121.out (by decide)) (fun _ hk => hk.2) (.slice Ao33 y132.length co33)) (fun _ hk => hk.1.1)⟩, ⟨by (with_reducible repeat (first | refine q13 ?_ _ | refine q15 ?_ | refine q12 ?_ _)); refine q28 (cs := #[.int .i64 a1, u122001, .bool false]) ?_ 1 _ rfl; (with_reducible repeat (first | refine q13 ?_ _ | refine q15 ?_ | refine q12 ?_ _)); exact BK121.out⟩, ⟨by repeat (first | (with_reducible first | exact HB.out | apply q10 | apply q9 | apply q11 | refine q14 ?_ GE121.out | refine q14 ?_ GE122.out) | exact HB.out)⟩⟩
        ·rw [if_neg c24] at H
         exact absurd H (by simp)
      ·rw [if_neg c11] at H
       have c11b0 : decide (x12_2 < a2) = false := decide_eq_false c11
       clear c11
       obtain ⟨y135, hy135⟩ : ∃ y_ : List (S69), y_ = (([] : List (S69))) := ⟨_, rfl⟩
       replace H : (if y135.length + l0.length < 3518437208883 then ((some (y135 ++ l0 : List (S69))).bind fun y138 => ((some (([(⟨a1, x122001_2, false⟩ : S69)] : List (S69)) : List (S69))).bind fun y141 => (if y138.length + y141.length < 3518437208883 then (some ((y138 ++ y141), wrap64 ((l0.length : Int) + 1), 0)) else (none)))) else (none)) = some (r1, r2, r3) := by first | (rw [hy135]; with_reducible exact H) | (have H2_ := (Option.bind_some _ _).symm.trans H; rw [hy135]; with_reducible exact H2_) | (have H2_ := (Option.bind_some _ _).symm.trans H; with_reducible exact H2_) | with_reducible exact H | (rw [hy135]; exact H) | exact H
       have Ny135 := Aside0.mk hy135
       clear hy135
       by_cases c35 : y135.length + l0.length < 3518437208883
       ·rw [if_pos c35] at H
        have LMc35 := Aside0.mk c35
        clear c35
        obtain ⟨y138, hy138⟩ : ∃ y_ : List (S69), y_ = (y135 ++ l0) := ⟨_, rfl⟩
        replace H : ((some (([(⟨a1, x122001_2, false⟩ : S69)] : List (S69)) : List (S69))).bind fun y141 => (if y138.length + y141.length < 3518437208883 then (some ((y138 ++ y141), wrap64 ((l0.length : Int) + 1), 0)) else (none))) = some (r1, r2, r3) := by first | (rw [hy138]; with_reducible exact H) | (have H2_ := (Option.bind_some _ _).symm.trans H; rw [hy138]; with_reducible exact H2_) | (have H2_ := (Option.bind_some _ _).symm.trans H; with_reducible exact H2_) | with_reducible exact H | (rw [hy138]; exact H) | exact H
        have Ny138 := Aside0.mk hy138
        clear hy138
        obtain ⟨y141, hy141⟩ : ∃ y_ : List (S69), y_ = (([(⟨a1, x122001_2, false⟩ : S69)] : List (S69))) := ⟨_, rfl⟩
        replace H : (if y138.length + y141.length < 3518437208883 then (some ((y138 ++ y141), wrap64 ((l0.length : Int) + 1), 0)) else (none)) = some (r1, r2, r3) := by first | (rw [hy141]; with_reducible exact H) | (have H2_ := (Option.bind_some _ _).symm.trans H; rw [hy141]; with_reducible exact H2_) | (have H2_ := (Option.bind_some _ _).symm.trans H; with_reducible exact H2_) | with_reducible exact H | (rw [hy141]; exact H) | exact H
        have Ny141 := Aside0.mk hy141
        clear hy141
        by_cases c36 : y138.length + y141.length < 3518437208883
        ·rw [if_pos c36] at H
         have LMc36 := Aside0.mk c36
         clear c36
         obtain ⟨y144, hy144⟩ : ∃ y_ : List (S69), y_ = (y138 ++ y141) := ⟨_, rfl⟩
         replace H : (some (y144, wrap64 ((l0.length : Int) + 1), 0)) = some (r1, r2, r3) := by first | (rw [hy144]; with_reducible exact H) | (have H2_ := (Option.bind_some _ _).symm.trans H; rw [hy144]; with_reducible exact H2_) | (have H2_ := (Option.bind_some _ _).symm.trans H; with_reducible exact H2_) | with_reducible exact H | (rw [hy144]; exact H) | exact H
         have Ny144 := Aside0.mk hy144
         clear hy144
         simp only [Option.some.injEq, Prod.mk.injEq] at H
         obtain ⟨rfl, rfl, rfl⟩ := H
         obtain ⟨AoZ, coZ, eoZ⟩ := Kd.R_slice HO_122001.out
         subst eoZ
         try go_wp2
         have n0_ := Aside0.mk (Kd.V_drew HO_0.out)
         have n1_ := Aside0.mk (Kd.R_drew HO_122001.out)
         have n2_ := Aside0.mk (q15 BK121.out)
         have n3_ := Aside0.mk (q11 HB.out)
         clear HO_0
         clear HO_122001
         clear BK121
         clear HB
         have HO_0 := n0_
         have HO_122001 := n1_
         have BK121 := n2_
         have HB := n3_
         clear n0_ n1_ n2_ n3_
         refine start_ (n := 12) (S := fun w' => w'.cell? ⟨gb121, 0, none⟩ = some (.int .i64 a1) ∧ w'.cell? ⟨gb121, 1, none⟩ = some (.slice AoZ x122001_2.length coZ) ∧ w'.cell? ⟨gb121, 2, none⟩ = some (.bool false)) (ds := []) #[false, false, false, false, false, false, false, false, false, false, false, false] (by kernel_rfl) rfl rfl ⟨(q16 BK121.out 0).trans rfl, (q16 BK121.out 1).trans rfl, (q16 BK121.out 2).trans rfl⟩ (fun hHeld => ?_); refine with_tabW crosstreeref10_Alloc.tab11 crosstreeref10_Alloc.bits11 (fun HT_ HW_ => ?_)
         generalize wr.drew = w37 at HO_0 HO_122001 BK121 HB hHeld ⊢
         refine pure_ (i := 1) (N := some 43) (v := ?_) (a' := ?_) #[false, true, false, false, false, false, false, false, false, false, false, false] rfl rfl (any_of HT_.out (by kernel_rfl)) (fun _ _ _ h => h) (Or.inl ⟨by rfl, ?_⟩) ?_ ?_
         rotate_left
         ·intro w'
          go_simp
          with_reducible rfl
         rotate_left
         ·simp only [Act.put, List.setIfInBounds_toArray, List.set_cons_zero, List.set_cons_succ, i64_w, i32_w]
          rfl
         refine pure_ (i := 6) (N := some 48) (v := ?_) (a' := ?_) #[false, true, false, false, false, false, true, false, false, false, false, false] rfl rfl (any_of HT_.out (by kernel_rfl)) (fun _ _ _ h => h) (Or.inl ⟨by rfl, ?_⟩) ?_ ?_
         rotate_left
         ·intro w'
          go_simp
          with_reducible rfl
         rotate_left
         ·simp only [Act.put, List.setIfInBounds_toArray, List.set_cons_zero, List.set_cons_succ, i64_w, i32_w]
          rfl
         refine pure_ (i := 7) (N := some 49) (v := ?_) (a' := ?_) #[false, true, false, false, false, false, true, true, false, false, false, false] rfl rfl (any_of HT_.out (by kernel_rfl)) (fun _ _ _ h => h) (Or.inl ⟨by rfl, ?_⟩) ?_ ?_
         rotate_left
         ·intro w'
          go_simp
          with_reducible rfl
         rotate_left
         ·simp only [Act.put, List.setIfInBounds_toArray, List.set_cons_zero, List.set_cons_succ, i64_w, i32_w]
          rfl
         refine pure_ (i := 8) (N := some 50) (v := ?_) (a' := ?_) #[false, true, false, false, false, false, true, true, true, false, false, false] rfl rfl (any_of HT_.out (by kernel_rfl)) (fun _ _ _ h => h) (Or.inl ⟨by rfl, ?_⟩) ?_ ?_
         rotate_left
         ·intro w'
          go_simp
          with_reducible rfl
         rotate_left
         ·simp only [Act.put, List.setIfInBounds_toArray, List.set_cons_zero, List.set_cons_succ, i64_w, i32_w]
          rfl
         refine take_ (i := 3) (N := some 45) (v := ?_) (a' := ?_) #[false, true, false, true, false, false, true, true, true, false, false, false] rfl rfl (take_ofW HT_.out HW_.out (by kernel_rfl)) (fun _ _ _ h => h) (Or.inl ⟨by rfl, ?_⟩) hHeld ?_ ?_
         rotate_left
         ·rintro w' ⟨s0, s1, s2⟩
          go_simp
          with_reducible rfl
         rotate_left
         ·simp only [Act.put, List.setIfInBounds_toArray, List.set_cons_zero, List.set_cons_succ, i64_w, i32_w]
          rfl
         refine join_ (σ := Value × Value × Value) 4 #[true, true, true, true, true, false, true, true, true, false, false, false] (fun s_ => [(42, s_.1), (44, s_.2.1), (46, s_.2.2)]) (fun s_ w' => (w'.cell? ⟨gb121, 0, none⟩ = some (.int .i64 a1) ∧ w'.cell? ⟨gb121, 1, none⟩ = some (.slice AoZ x122001_2.length coZ) ∧ w'.cell? ⟨gb121, 2, none⟩ = some (.bool false)) ∧ (Kd.N k69 69 w' w.heap.size (fun k_ => (P0_ k_ ∨ w.heap.size ≤ k_) ∧ some k_ ≠ (s_.2.2 : Value).ownBlock ∧ k_ ≠ gb121) s_.2.1 y138) ∧ (Kd.N k69 69 w' w.heap.size (fun k_ => (P0_ k_ ∨ w.heap.size ≤ k_) ∧ some k_ ≠ (s_.2.1 : Value).ownBlock ∧ k_ ≠ gb121) s_.2.2 y141) ∧ (Kd.V k69 69 w' w.heap.size (fun k_ => (P0_ k_ ∨ w.heap.size ≤ k_) ∧ some k_ ≠ (s_.2.1 : Value).ownBlock ∧ some k_ ≠ (s_.2.2 : Value).ownBlock ∧ k_ ≠ gb121) (.slice A0 l0.length c0) l0) ∧ (w'.heap[gb121]? = some (.cells #[.int .i64 a1, .slice AoZ x122001_2.length coZ, .bool false] 69 (0, 0))) ∧ (Below w.heap.size w w')) ?_ ?_
         rotate_left
         ·intro hCont
          refine two_ (i := 0) (j := 4) (Ni := some 42) (Nj := some 46) #[true, true, false, true, false, false, true, true, true, false, false, false] #[false, true, false, true, true, false, true, true, true, false, false, false] rfl rfl rfl rfl (two_of HT_.out (by kernel_rfl)) (by decide) (by decide) (fun K hK => ?_) (fun K hK => ?_)
          ·skip
           refine Kd.N_lit_step k69 _ 69 ?hg (N' := 42) ?hd (xs := ([] : List (S69))) (inner := []) (ok := (fun k_ => (P0_ k_ ∨ w.heap.size ≤ k_) ∧ some k_ ≠ (.slice AoZ x122001_2.length coZ : Value).ownBlock ∧ k_ ≠ gb121)) (okp := (fun k_ => (P0_ k_ ∨ w.heap.size ≤ k_) ∧ some k_ ≠ (.slice AoZ x122001_2.length coZ : Value).ownBlock ∧ k_ ≠ gb121)) ?hr ?hp (fun _ hk => hk) ((show ∀ k_, w37.heap.size ≤ k_ → (fun k_ => (P0_ k_ ∨ w.heap.size ≤ k_) ∧ some k_ ≠ (.slice AoZ x122001_2.length coZ : Value).ownBlock ∧ k_ ≠ gb121) k_ from fun k_ hk => ⟨(.inr (Nat.le_trans (q21 (by repeat (first | (with_reducible first | exact HB.out | apply q10 | apply q9 | apply q11 | refine q14 ?_ GE121.out) | exact HB.out))) hk)), Kd.fresh' (Kd.R_lt (by (with_reducible repeat (first | apply Kd.R_alloc | apply Kd.R_drewN | apply Kd.R_drew)); exact HO_122001.out)) k_ hk, Kd.freshB (g := gb121) (o := .cells #[.int .i64 a1, (.slice AoZ x122001_2.length coZ), .bool false] 69 (0, 0)) (by (with_reducible repeat (first | refine q13 ?_ _ | refine q15 ?_ | refine q12 ?_ _)); exact BK121.out) k_ hk⟩) _ (Nat.le_refl _)) (Below.refl _ _) (Nat.le_refl _) (by simp) ?_; (case hd => rfl); (case hg => rfl); (case hr => first | (go_simp; done) | (go_simp; rfl)); (case hp => exact (Reps.none _ _))
           intro v136 w38 ho39 hb hg_ hnew_
           clear hg_ hnew_
           (first | rw [← Ny135.out] at ho39 | (simp only [Int.reduceToNat] at ho39; rw [← Ny135.out] at ho39))
           have n0_ := Aside0.mk (Kd.V_elder' (by (with_reducible repeat (first | apply Kd.V_alloc | apply Kd.V_drewN | apply Kd.V_drew)); exact HO_0.out) (Kd.N_base ho39) hb)
           have n1_ := Aside0.mk (Kd.R_below (by (with_reducible repeat (first | apply Kd.R_alloc | apply Kd.R_drewN | apply Kd.R_drew)); exact HO_122001.out) hb)
           have n2_ := Aside0.mk (Kd.N_lower ho39 (q21 (by repeat (first | (with_reducible first | exact HB.out | apply q10 | apply q9 | apply q11 | refine q14 ?_ GE121.out) | exact HB.out))))
           have n3_ := Aside0.mk (q19 (g := gb121) (o := .cells #[.int .i64 a1, (.slice AoZ x122001_2.length coZ), .bool false] 69 (0, 0)) (by (with_reducible repeat (first | refine q13 ?_ _ | refine q15 ?_ | refine q12 ?_ _)); exact BK121.out) hb)
           have n4_ := Aside0.mk (q20 (by repeat (first | (with_reducible first | exact HB.out | apply q10 | apply q9 | apply q11 | refine q14 ?_ GE121.out) | exact HB.out)) hb)
           clear HO_0
           clear HO_122001
           clear BK121
           clear HB
           have HO_0 := n0_
           have HO_122001 := n1_
           have HO137 := n2_
           have BK121 := n3_
           have HB := n4_
           clear n0_ n1_ n2_ n3_ n4_
           clear hb ho39
           refine hK.out _ _ ⟨(q16 BK121.out 0).trans rfl, (q16 BK121.out 1).trans rfl, (q16 BK121.out 2).trans rfl⟩ (fun hHeld => ?_)
           clear hK K
           refine norm_ (a' := ?_) ?_ ?_
           rotate_left
           ·show Act.put _ (some 42) _ = _
            simp only [Act.put, List.setIfInBounds_toArray, List.set_cons_zero, List.set_cons_succ, i64_w, i32_w]
            rfl
           refine two_ (i := 2) (j := 4) (Ni := some 44) (Nj := some 46) #[true, true, true, true, false, false, true, true, true, false, false, false] #[true, true, false, true, true, false, true, true, true, false, false, false] rfl rfl rfl rfl (two_of HT_.out (by kernel_rfl)) (by decide) (by decide) (fun K hK => ?_) (fun K hK => ?_)
           ·skip
            refine Kd.N_append_rows_step k69 (w0 := w) w.heap.size (by rfl) (.tmp 42) (.tmp 43) 53 69 (.agg #[(.int .i64 0), (.slice none 0 0), (.bool false)]) 40 rfl Try.underlying53 info69 rfl (by decide) (by omega) v136 y135 l0 _ _ _ (fun k_ => (P0_ k_ ∨ w.heap.size ≤ k_) ∧ some k_ ≠ (.slice AoZ x122001_2.length coZ : Value).ownBlock ∧ k_ ≠ gb121) (fun k_ => ((fun k_ => (P0_ k_ ∨ w.heap.size ≤ k_) ∧ some k_ ≠ (.slice AoZ x122001_2.length coZ : Value).ownBlock ∧ k_ ≠ gb121)) k_ ∧ some k_ ≠ (v136 : Value).ownBlock) rfl rfl ?aO ?aR (fun _ hk => hk) ?aF ?aB ?aS ?aL ?_
            (case aR => exact (by skip; exact Kd.V_F (Kd.V_mono (ok' := (fun k_ => ((fun k_ => (P0_ k_ ∨ w.heap.size ≤ k_) ∧ some k_ ≠ (.slice AoZ x122001_2.length coZ : Value).ownBlock ∧ k_ ≠ gb121)) k_ ∧ some k_ ≠ (v136 : Value).ownBlock)) (HO_0.out) (fun k_ hk => ⟨⟨hk.1.1, ⟨hk.1.2.1, hk.1.2.2⟩⟩, hk.2⟩))))
            (case aB => exact (by repeat (first | (with_reducible first | exact HB.out | apply q10 | apply q9 | apply q11 | refine q14 ?_ GE121.out) | exact HB.out)))
            (case aF => exact (fun k_ hk => ⟨(.inr (Nat.le_trans (q21 (by repeat (first | (with_reducible first | exact HB.out | apply q10 | apply q9 | apply q11 | refine q14 ?_ GE121.out) | exact HB.out))) hk)), Kd.fresh' (Kd.R_lt (by (with_reducible repeat (first | apply Kd.R_alloc | apply Kd.R_drewN | apply Kd.R_drew)); exact HO_122001.out)) k_ hk, Kd.freshB (g := gb121) (o := .cells #[.int .i64 a1, (.slice AoZ x122001_2.length coZ), .bool false] 69 (0, 0)) (by (with_reducible repeat (first | refine q13 ?_ _ | refine q15 ?_ | refine q12 ?_ _)); exact BK121.out) k_ hk⟩))
            (case aO => exact (by (with_reducible repeat (first | apply Kd.N_alloc | apply Kd.N_drewN | apply Kd.N_drew)); exact HO137.out))
            (case aS => exact (q21 (by repeat (first | (with_reducible first | exact HB.out | apply q10 | apply q9 | apply q11 | refine q14 ?_ GE121.out) | exact HB.out))))
            (case aL => have := LMc35.out; omega)
            intro v139 w40 ho hb hg hat
            rw [← Ny138.out] at ho
            have n0_ := Aside0.mk (Kd.V_afterv (ok := (fun k_ => (P0_ k_ ∨ w.heap.size ≤ k_) ∧ some k_ ≠ (.slice AoZ x122001_2.length coZ : Value).ownBlock ∧ k_ ≠ gb121)) (by (with_reducible repeat (first | apply Kd.V_alloc | apply Kd.V_drewN | apply Kd.V_drew)); exact HO_0.out) hg hat)
            have n1_ := Aside0.mk (Kd.R_over' (by (with_reducible repeat (first | apply Kd.R_alloc | apply Kd.R_drewN | apply Kd.R_drew)); exact HO_122001.out) (Kd.N_typed (by (with_reducible repeat (first | apply Kd.N_alloc | apply Kd.N_drewN | apply Kd.N_drew)); exact HO137.out)) (by decide) hg)
            have n2_ := Aside0.mk (q45 (g := gb121) (o := .cells #[.int .i64 a1, (.slice AoZ x122001_2.length coZ), .bool false] 69 (0, 0)) (by (with_reducible repeat (first | refine q13 ?_ _ | refine q15 ?_ | refine q12 ?_ _)); exact BK121.out) hg (Kd.N_away HO137.out (fun _ hk => hk.2.2)))
            have n3_ := Aside0.mk (hb)
            have n4_ := Aside0.mk (ho)
            clear HO_0
            clear HO_122001
            clear BK121
            clear HB
            clear HO137
            have HO_0 := n0_
            have HO_122001 := n1_
            have BK121 := n2_
            have HB := n3_
            have HO140 := n4_
            clear n0_ n1_ n2_ n3_ n4_
            clear ho hb hg hat
            refine hK.out _ _ ⟨(q16 BK121.out 0).trans rfl, (q16 BK121.out 1).trans rfl, (q16 BK121.out 2).trans rfl⟩ (fun hHeld => ?_)
            clear hK K
            refine norm_ (a' := ?_) ?_ ?_
            rotate_left
            ·show Act.put _ (some 44) _ = _
             simp only [Act.put, List.setIfInBounds_toArray, List.set_cons_zero, List.set_cons_succ, i64_w, i32_w]
             rfl
            refine one_ (i := 4) (N := some 46) #[true, true, true, true, true, false, true, true, true, false, false, false] rfl rfl (one_of HT_.out (by kernel_rfl)) (by decide) (fun K hK => ?_)
            refine Kd.N_lit_step k69 _ 69 ?hg (N' := 46) ?hd (xs := ([(⟨a1, x122001_2, false⟩ : S69)] : List (S69))) (inner := [.int .i64 a1, .slice AoZ x122001_2.length coZ, .bool false]) (ok := (fun k_ => (P0_ k_ ∨ w.heap.size ≤ k_) ∧ some k_ ≠ (v139 : Value).ownBlock ∧ k_ ≠ gb121)) (okp := (fun k_ => (P0_ k_ ∨ w.heap.size ≤ k_) ∧ some k_ ≠ (v139 : Value).ownBlock ∧ k_ ≠ gb121)) ?hr ?hp (fun _ hk => hk) ((show ∀ k_, w40.heap.size ≤ k_ → (fun k_ => (P0_ k_ ∨ w.heap.size ≤ k_) ∧ some k_ ≠ (v139 : Value).ownBlock ∧ k_ ≠ gb121) k_ from fun k_ hk => ⟨(.inr (Nat.le_trans (q21 (by repeat (first | (with_reducible first | exact HB.out | apply q10 | apply q9 | apply q11 | refine q14 ?_ GE121.out) | exact HB.out))) hk)), Kd.fresh' (Kd.N_lt (by (with_reducible repeat (first | apply Kd.N_alloc | apply Kd.N_drewN | apply Kd.N_drew)); exact HO140.out)) k_ hk, Kd.freshB (g := gb121) (o := .cells #[.int .i64 a1, .slice AoZ x122001_2.length coZ, .bool false] 69 (0, 0)) (by (with_reducible repeat (first | refine q13 ?_ _ | refine q15 ?_ | refine q12 ?_ _)); exact BK121.out) k_ hk⟩) _ (Nat.le_refl _)) (Below.refl _ _) (Nat.le_refl _) (by simp) ?_; (case hd => rfl); (case hg => rfl); (case hr => first | (go_simp; done) | (go_simp; rfl)); (case hp => exact (Reps.c3 (show Kd.FK k69 _ _ (⟨a1, x122001_2, false⟩ : S69) [.int .i64 a1, .slice AoZ x122001_2.length coZ, .bool false] from (k69_mkF _ _ (⟨a1, x122001_2, false⟩ : S69) (Kd.R_reads' (Kd.R_mono (ok' := (fun k_ => (P0_ k_ ∨ w.heap.size ≤ k_) ∧ some k_ ≠ (v139 : Value).ownBlock ∧ k_ ≠ gb121)) (Kd.R_types (Kd.R_apart' (HO_122001.out) (Kd.N_typed HO140.out) (by decide)) BK121.out (by decide)) (fun k_ hk => ⟨(.inr (hk.1.1)), ⟨hk.1.2, hk.2⟩⟩))).2.1 (Kd.R_F (Kd.R_mono (ok' := (fun k_ => (P0_ k_ ∨ w.heap.size ≤ k_) ∧ some k_ ≠ (v139 : Value).ownBlock ∧ k_ ≠ gb121)) (Kd.R_types (Kd.R_apart' (HO_122001.out) (Kd.N_typed HO140.out) (by decide)) BK121.out (by decide)) (fun k_ hk => ⟨(.inr (hk.1.1)), ⟨hk.1.2, hk.2⟩⟩))))) (Reps.none _ _)))
            intro v142 w42 ho43 hb hg_ hnew_
            clear hg_ hnew_
            (first | rw [← Ny141.out] at ho43 | (simp only [Int.reduceToNat] at ho43; rw [← Ny141.out] at ho43))
            have n0_ := Aside0.mk (Kd.V_elder' (by (with_reducible repeat (first | apply Kd.V_alloc | apply Kd.V_drewN | apply Kd.V_drew)); exact HO_0.out) (Kd.N_base ho43) hb)
            have n1_ := Aside0.mk (Kd.N_elder' (by (with_reducible repeat (first | apply Kd.N_alloc | apply Kd.N_drewN | apply Kd.N_drew)); exact HO140.out) (Kd.N_base ho43) hb)
            have n2_ := Aside0.mk (Kd.N_lower ho43 (q21 (by repeat (first | (with_reducible first | exact HB.out | apply q10 | apply q9 | apply q11 | refine q14 ?_ GE121.out) | exact HB.out))))
            have n3_ := Aside0.mk (q19 (g := gb121) (o := .cells #[.int .i64 a1, .slice AoZ x122001_2.length coZ, .bool false] 69 (0, 0)) (by (with_reducible repeat (first | refine q13 ?_ _ | refine q15 ?_ | refine q12 ?_ _)); exact BK121.out) hb)
            have n4_ := Aside0.mk (q20 (by repeat (first | (with_reducible first | exact HB.out | apply q10 | apply q9 | apply q11 | refine q14 ?_ GE121.out) | exact HB.out)) hb)
            clear HO_0
            clear HO140
            clear BK121
            clear HB
            clear HO_122001
            have HO_0 := n0_
            have HO140 := n1_
            have HO143 := n2_
            have BK121 := n3_
            have HB := n4_
            clear n0_ n1_ n2_ n3_ n4_
            clear hb ho43
            refine hK.out _ _ ⟨(q16 BK121.out 0).trans rfl, (q16 BK121.out 1).trans rfl, (q16 BK121.out 2).trans rfl⟩ (fun hHeld => ?_)
            clear hK K
            refine norm_ (a' := ?_) ?_ ?_
            rotate_left
            ·show Act.put _ (some 46) _ = _
             simp only [Act.put, List.setIfInBounds_toArray, List.set_cons_zero, List.set_cons_succ, i64_w, i32_w]
             rfl
            exact norm_ (by simp only [putAll, Act.put, List.setIfInBounds_toArray, List.set_cons_zero, List.set_cons_succ]) (hCont (v136, v139, v142) _ ⟨hHeld, (by (with_reducible repeat (first | apply Kd.N_alloc | apply Kd.N_drewN | apply Kd.N_drew)); exact Kd.N_mono HO140.out (fun _ hk => ⟨hk.1.1, ⟨hk.2, hk.1.2.2⟩⟩)), (by (with_reducible repeat (first | apply Kd.N_alloc | apply Kd.N_drewN | apply Kd.N_drew)); exact HO143.out), (by (with_reducible repeat (first | apply Kd.V_alloc | apply Kd.V_drewN | apply Kd.V_drew)); exact Kd.V_mono HO_0.out (fun _ hk => ⟨hk.1.1.1, ⟨hk.1.2, ⟨hk.2, hk.1.1.2.2⟩⟩⟩)), (by (with_reducible repeat (first | refine q13 ?_ _ | refine q15 ?_ | refine q12 ?_ _)); exact BK121.out), (by repeat (first | (with_reducible first | exact HB.out | apply q10 | apply q9 | apply q11 | refine q14 ?_ GE121.out) | exact HB.out))⟩)
           ·skip
            refine Kd.N_lit_step k69 _ 69 ?hg (N' := 46) ?hd (xs := ([(⟨a1, x122001_2, false⟩ : S69)] : List (S69))) (inner := [.int .i64 a1, .slice AoZ x122001_2.length coZ, .bool false]) (ok := (fun k_ => (P0_ k_ ∨ w.heap.size ≤ k_) ∧ some k_ ≠ (v136 : Value).ownBlock ∧ k_ ≠ gb121)) (okp := (fun k_ => (P0_ k_ ∨ w.heap.size ≤ k_) ∧ some k_ ≠ (v136 : Value).ownBlock ∧ k_ ≠ gb121)) ?hr ?hp (fun _ hk => hk) ((show ∀ k_, w38.heap.size ≤ k_ → (fun k_ => (P0_ k_ ∨ w.heap.size ≤ k_) ∧ some k_ ≠ (v136 : Value).ownBlock ∧ k_ ≠ gb121) k_ from fun k_ hk => ⟨(.inr (Nat.le_trans (q21 (by repeat (first | (with_reducible first | exact HB.out | apply q10 | apply q9 | apply q11 | refine q14 ?_ GE121.out) | exact HB.out))) hk)), Kd.fresh' (Kd.N_lt (by (with_reducible repeat (first | apply Kd.N_alloc | apply Kd.N_drewN | apply Kd.N_drew)); exact HO137.out)) k_ hk, Kd.freshB (g := gb121) (o := .cells #[.int .i64 a1, .slice AoZ x122001_2.length coZ, .bool false] 69 (0, 0)) (by (with_reducible repeat (first | refine q13 ?_ _ | refine q15 ?_ | refine q12 ?_ _)); exact BK121.out) k_ hk⟩) _ (Nat.le_refl _)) (Below.refl _ _) (Nat.le_refl _) (by simp) ?_; (case hd => rfl); (case hg => rfl); (case hr => first | (go_simp; done) | (go_simp; rfl)); (case hp => exact (Reps.c3 (show Kd.FK k69 _ _ (⟨a1, x122001_2, false⟩ : S69) [.int .i64 a1, .slice AoZ x122001_2.length coZ, .bool false] from (k69_mkF _ _ (⟨a1, x122001_2, false⟩ : S69) (Kd.R_reads' (Kd.R_mono (ok' := (fun k_ => (P0_ k_ ∨ w.heap.size ≤ k_) ∧ some k_ ≠ (v136 : Value).ownBlock ∧ k_ ≠ gb121)) (Kd.R_types (Kd.R_apart' (HO_122001.out) (Kd.N_typed HO137.out) (by decide)) BK121.out (by decide)) (fun k_ hk => ⟨(.inr (hk.1.1)), ⟨hk.1.2, hk.2⟩⟩))).2.1 (Kd.R_F (Kd.R_mono (ok' := (fun k_ => (P0_ k_ ∨ w.heap.size ≤ k_) ∧ some k_ ≠ (v136 : Value).ownBlock ∧ k_ ≠ gb121)) (Kd.R_types (Kd.R_apart' (HO_122001.out) (Kd.N_typed HO137.out) (by decide)) BK121.out (by decide)) (fun k_ hk => ⟨(.inr (hk.1.1)), ⟨hk.1.2, hk.2⟩⟩))))) (Reps.none _ _)))
            intro v142 w41 ho42 hb hg_ hnew_
            clear hg_ hnew_
            (first | rw [← Ny141.out] at ho42 | (simp only [Int.reduceToNat] at ho42; rw [← Ny141.out] at ho42))
            have n0_ := Aside0.mk (Kd.V_elder' (by (with_reducible repeat (first | apply Kd.V_alloc | apply Kd.V_drewN | apply Kd.V_drew)); exact HO_0.out) (Kd.N_base ho42) hb)
            have n1_ := Aside0.mk (Kd.N_elder' (by (with_reducible repeat (first | apply Kd.N_alloc | apply Kd.N_drewN | apply Kd.N_drew)); exact HO137.out) (Kd.N_base ho42) hb)
            have n2_ := Aside0.mk (Kd.N_lower ho42 (q21 (by repeat (first | (with_reducible first | exact HB.out | apply q10 | apply q9 | apply q11 | refine q14 ?_ GE121.out) | exact HB.out))))
            have n3_ := Aside0.mk (q19 (g := gb121) (o := .cells #[.int .i64 a1, .slice AoZ x122001_2.length coZ, .bool false] 69 (0, 0)) (by (with_reducible repeat (first | refine q13 ?_ _ | refine q15 ?_ | refine q12 ?_ _)); exact BK121.out) hb)
            have n4_ := Aside0.mk (q20 (by repeat (first | (with_reducible first | exact HB.out | apply q10 | apply q9 | apply q11 | refine q14 ?_ GE121.out) | exact HB.out)) hb)
            clear HO_0
            clear HO137
            clear BK121
            clear HB
            clear HO_122001
            have HO_0 := n0_
            have HO137 := n1_
            have HO143 := n2_
            have BK121 := n3_
            have HB := n4_
            clear n0_ n1_ n2_ n3_ n4_
            clear hb ho42
            refine hK.out _ _ ⟨(q16 BK121.out 0).trans rfl, (q16 BK121.out 1).trans rfl, (q16 BK121.out 2).trans rfl⟩ (fun hHeld => ?_)
            clear hK K
            refine norm_ (a' := ?_) ?_ ?_
            rotate_left
            ·show Act.put _ (some 46) _ = _
             simp only [Act.put, List.setIfInBounds_toArray, List.set_cons_zero, List.set_cons_succ, i64_w, i32_w]
             rfl
            refine one_ (i := 2) (N := some 44) #[true, true, true, true, true, false, true, true, true, false, false, false] rfl rfl (one_of HT_.out (by kernel_rfl)) (by decide) (fun K hK => ?_)
            refine Kd.N_append_rows_step k69 (w0 := w) w.heap.size (by rfl) (.tmp 42) (.tmp 43) 53 69 (.agg #[(.int .i64 0), (.slice none 0 0), (.bool false)]) 40 rfl Try.underlying53 info69 rfl (by decide) (by omega) v136 y135 l0 _ _ _ (fun k_ => (P0_ k_ ∨ w.heap.size ≤ k_) ∧ some k_ ≠ (v142 : Value).ownBlock ∧ k_ ≠ gb121) (fun k_ => ((fun k_ => (P0_ k_ ∨ w.heap.size ≤ k_) ∧ some k_ ≠ (v142 : Value).ownBlock ∧ k_ ≠ gb121)) k_ ∧ some k_ ≠ (v136 : Value).ownBlock) rfl rfl ?aO ?aR (fun _ hk => hk) ?aF ?aB ?aS ?aL ?_
            (case aR => exact (by skip; exact Kd.V_F (Kd.V_mono (ok' := (fun k_ => ((fun k_ => (P0_ k_ ∨ w.heap.size ≤ k_) ∧ some k_ ≠ (v142 : Value).ownBlock ∧ k_ ≠ gb121)) k_ ∧ some k_ ≠ (v136 : Value).ownBlock)) (HO_0.out) (fun k_ hk => ⟨⟨hk.1.1.1, ⟨hk.2, hk.1.1.2.2⟩⟩, hk.1.2⟩))))
            (case aB => exact (by repeat (first | (with_reducible first | exact HB.out | apply q10 | apply q9 | apply q11 | refine q14 ?_ GE121.out) | exact HB.out)))
            (case aF => exact (fun k_ hk => ⟨(.inr (Nat.le_trans (q21 (by repeat (first | (with_reducible first | exact HB.out | apply q10 | apply q9 | apply q11 | refine q14 ?_ GE121.out) | exact HB.out))) hk)), Kd.fresh' (Kd.N_lt (by (with_reducible repeat (first | apply Kd.N_alloc | apply Kd.N_drewN | apply Kd.N_drew)); exact HO143.out)) k_ hk, Kd.freshB (g := gb121) (o := .cells #[.int .i64 a1, .slice AoZ x122001_2.length coZ, .bool false] 69 (0, 0)) (by (with_reducible repeat (first | refine q13 ?_ _ | refine q15 ?_ | refine q12 ?_ _)); exact BK121.out) k_ hk⟩))
            (case aO => exact (by (with_reducible repeat (first | apply Kd.N_alloc | apply Kd.N_drewN | apply Kd.N_drew)); exact Kd.N_mono HO137.out (fun _ hk => ⟨hk.1.1, ⟨hk.2, hk.1.2.2⟩⟩)))
            (case aS => exact (q21 (by repeat (first | (with_reducible first | exact HB.out | apply q10 | apply q9 | apply q11 | refine q14 ?_ GE121.out) | exact HB.out))))
            (case aL => have := LMc35.out; omega)
            intro v139 w43 ho hb hg hat
            rw [← Ny138.out] at ho
            have n0_ := Aside0.mk (Kd.V_afterv (ok := (fun k_ => (P0_ k_ ∨ w.heap.size ≤ k_) ∧ some k_ ≠ (v142 : Value).ownBlock ∧ k_ ≠ gb121)) (by (with_reducible repeat (first | apply Kd.V_alloc | apply Kd.V_drewN | apply Kd.V_drew)); exact Kd.V_mono HO_0.out (fun _ hk => ⟨⟨hk.1.1.1, ⟨hk.2, hk.1.1.2.2⟩⟩, hk.1.2⟩)) hg hat)
            have n1_ := Aside0.mk (q45 (g := gb121) (o := .cells #[.int .i64 a1, .slice AoZ x122001_2.length coZ, .bool false] 69 (0, 0)) (by (with_reducible repeat (first | refine q13 ?_ _ | refine q15 ?_ | refine q12 ?_ _)); exact BK121.out) hg (Kd.N_away HO137.out (fun _ hk => hk.1.2.2)))
            have n2_ := Aside0.mk (Kd.N_afterv (ok := (fun k_ => (P0_ k_ ∨ w.heap.size ≤ k_) ∧ k_ ≠ gb121)) (by (with_reducible repeat (first | apply Kd.N_alloc | apply Kd.N_drewN | apply Kd.N_drew)); exact Kd.N_mono HO143.out (fun _ hk => ⟨⟨hk.1, hk.2.2⟩, hk.2.1⟩)) hg hat)
            have n3_ := Aside0.mk (hb)
            have n4_ := Aside0.mk (ho)
            clear HO_0
            clear BK121
            clear HO143
            clear HB
            clear HO137
            have HO_0 := n0_
            have BK121 := n1_
            have HO143 := n2_
            have HB := n3_
            have HO140 := n4_
            clear n0_ n1_ n2_ n3_ n4_
            clear ho hb hg hat
            refine hK.out _ _ ⟨(q16 BK121.out 0).trans rfl, (q16 BK121.out 1).trans rfl, (q16 BK121.out 2).trans rfl⟩ (fun hHeld => ?_)
            clear hK K
            refine norm_ (a' := ?_) ?_ ?_
            rotate_left
            ·show Act.put _ (some 44) _ = _
             simp only [Act.put, List.setIfInBounds_toArray, List.set_cons_zero, List.set_cons_succ, i64_w, i32_w]
             rfl
            exact norm_ (by simp only [putAll, Act.put, List.setIfInBounds_toArray, List.set_cons_zero, List.set_cons_succ]) (hCont (v136, v139, v142) _ ⟨hHeld, (by (with_reducible repeat (first | apply Kd.N_alloc | apply Kd.N_drewN | apply Kd.N_drew)); exact HO140.out), (by (with_reducible repeat (first | apply Kd.N_alloc | apply Kd.N_drewN | apply Kd.N_drew)); exact Kd.N_mono HO143.out (fun _ hk => ⟨hk.1.1, ⟨hk.2, hk.1.2⟩⟩)), (by (with_reducible repeat (first | apply Kd.V_alloc | apply Kd.V_drewN | apply Kd.V_drew)); exact Kd.V_mono HO_0.out (fun _ hk => ⟨hk.1.1, ⟨hk.2, ⟨hk.1.2.1, hk.1.2.2⟩⟩⟩)), (by (with_reducible repeat (first | refine q13 ?_ _ | refine q15 ?_ | refine q12 ?_ _)); exact BK121.out), (by repeat (first | (with_reducible first | exact HB.out | apply q10 | apply q9 | apply q11 | refine q14 ?_ GE121.out) | exact HB.out))⟩)
          ·skip
           refine Kd.N_lit_step k69 _ 69 ?hg (N' := 46) ?hd (xs := ([(⟨a1, x122001_2, false⟩ : S69)] : List (S69))) (inner := [.int .i64 a1, .slice AoZ x122001_2.length coZ, .bool false]) (ok := (fun k_ => (P0_ k_ ∨ w.heap.size ≤ k_) ∧ k_ ≠ gb121)) (okp := (fun k_ => (P0_ k_ ∨ w.heap.size ≤ k_) ∧ k_ ≠ gb121)) ?hr ?hp (fun _ hk => hk) ((show ∀ k_, w37.heap.size ≤ k_ → (fun k_ => (P0_ k_ ∨ w.heap.size ≤ k_) ∧ k_ ≠ gb121) k_ from fun k_ hk => ⟨(.inr (Nat.le_trans (q21 (by repeat (first | (with_reducible first | exact HB.out | apply q10 | apply q9 | apply q11 | refine q14 ?_ GE121.out) | exact HB.out))) hk)), Kd.freshB (g := gb121) (o := .cells #[.int .i64 a1, .slice AoZ x122001_2.length coZ, .bool false] 69 (0, 0)) (by (with_reducible repeat (first | refine q13 ?_ _ | refine q15 ?_ | refine q12 ?_ _)); exact BK121.out) k_ hk⟩) _ (Nat.le_refl _)) (Below.refl _ _) (Nat.le_refl _) (by simp) ?_; (case hd => rfl); (case hg => rfl); (case hr => first | (go_simp; done) | (go_simp; rfl)); (case hp => exact (Reps.c3 (show Kd.FK k69 _ _ (⟨a1, x122001_2, false⟩ : S69) [.int .i64 a1, .slice AoZ x122001_2.length coZ, .bool false] from (k69_mkF _ _ (⟨a1, x122001_2, false⟩ : S69) (Kd.R_reads' (Kd.R_mono (ok' := (fun k_ => (P0_ k_ ∨ w.heap.size ≤ k_) ∧ k_ ≠ gb121)) (Kd.R_types (HO_122001.out) BK121.out (by decide)) (fun k_ hk => ⟨(.inr (hk.1)), hk.2⟩))).2.1 (Kd.R_F (Kd.R_mono (ok' := (fun k_ => (P0_ k_ ∨ w.heap.size ≤ k_) ∧ k_ ≠ gb121)) (Kd.R_types (HO_122001.out) BK121.out (by decide)) (fun k_ hk => ⟨(.inr (hk.1)), hk.2⟩))))) (Reps.none _ _)))
           intro v142 w39 ho40 hb hg_ hnew_
           clear hg_ hnew_
           (first | rw [← Ny141.out] at ho40 | (simp only [Int.reduceToNat] at ho40; rw [← Ny141.out] at ho40))
           have n0_ := Aside0.mk (Kd.V_elder' (by (with_reducible repeat (first | apply Kd.V_alloc | apply Kd.V_drewN | apply Kd.V_drew)); exact HO_0.out) (Kd.N_base ho40) hb)
           have n1_ := Aside0.mk (Kd.N_lower ho40 (q21 (by repeat (first | (with_reducible first | exact HB.out | apply q10 | apply q9 | apply q11 | refine q14 ?_ GE121.out) | exact HB.out))))
           have n2_ := Aside0.mk (q19 (g := gb121) (o := .cells #[.int .i64 a1, .slice AoZ x122001_2.length coZ, .bool false] 69 (0, 0)) (by (with_reducible repeat (first | refine q13 ?_ _ | refine q15 ?_ | refine q12 ?_ _)); exact BK121.out) hb)
           have n3_ := Aside0.mk (q20 (by repeat (first | (with_reducible first | exact HB.out | apply q10 | apply q9 | apply q11 | refine q14 ?_ GE121.out) | exact HB.out)) hb)
           clear HO_0
           clear BK121
           clear HB
           clear HO_122001
           have HO_0 := n0_
           have HO143 := n1_
           have BK121 := n2_
           have HB := n3_
           clear n0_ n1_ n2_ n3_
           clear hb ho40
           refine hK.out _ _ ⟨(q16 BK121.out 0).trans rfl, (q16 BK121.out 1).trans rfl, (q16 BK121.out 2).trans rfl⟩ (fun hHeld => ?_)
           clear hK K
           refine norm_ (a' := ?_) ?_ ?_
           rotate_left
           ·show Act.put _ (some 46) _ = _
            simp only [Act.put, List.setIfInBounds_toArray, List.set_cons_zero, List.set_cons_succ, i64_w, i32_w]
            rfl
           refine one_ (i := 0) (N := some 42) #[true, true, false, true, true, false, true, true, true, false, false, false] rfl rfl (one_of HT_.out (by kernel_rfl)) (by decide) (fun K hK => ?_)
           refine Kd.N_lit_step k69 _ 69 ?hg (N' := 42) ?hd (xs := ([] : List (S69))) (inner := []) (ok := (fun k_ => (P0_ k_ ∨ w.heap.size ≤ k_) ∧ some k_ ≠ (v142 : Value).ownBlock ∧ k_ ≠ gb121)) (okp := (fun k_ => (P0_ k_ ∨ w.heap.size ≤ k_) ∧ some k_ ≠ (v142 : Value).ownBlock ∧ k_ ≠ gb121)) ?hr ?hp (fun _ hk => hk) ((show ∀ k_, w39.heap.size ≤ k_ → (fun k_ => (P0_ k_ ∨ w.heap.size ≤ k_) ∧ some k_ ≠ (v142 : Value).ownBlock ∧ k_ ≠ gb121) k_ from fun k_ hk => ⟨(.inr (Nat.le_trans (q21 (by repeat (first | (with_reducible first | exact HB.out | apply q10 | apply q9 | apply q11 | refine q14 ?_ GE121.out) | exact HB.out))) hk)), Kd.fresh' (Kd.N_lt (by (with_reducible repeat (first | apply Kd.N_alloc | apply Kd.N_drewN | apply Kd.N_drew)); exact HO143.out)) k_ hk, Kd.freshB (g := gb121) (o := .cells #[.int .i64 a1, .slice AoZ x122001_2.length coZ, .bool false] 69 (0, 0)) (by (with_reducible repeat (first | refine q13 ?_ _ | refine q15 ?_ | refine q12 ?_ _)); exact BK121.out) k_ hk⟩) _ (Nat.le_refl _)) (Below.refl _ _) (Nat.le_refl _) (by simp) ?_; (case hd => rfl); (case hg => rfl); (case hr => first | (go_simp; done) | (go_simp; rfl)); (case hp => exact (Reps.none _ _))
           intro v136 w41 ho42 hb hg_ hnew_
           clear hg_ hnew_
           (first | rw [← Ny135.out] at ho42 | (simp only [Int.reduceToNat] at ho42; rw [← Ny135.out] at ho42))
           have n0_ := Aside0.mk (Kd.V_elder' (by (with_reducible repeat (first | apply Kd.V_alloc | apply Kd.V_drewN | apply Kd.V_drew)); exact HO_0.out) (Kd.N_base ho42) hb)
           have n1_ := Aside0.mk (Kd.N_elder' (by (with_reducible repeat (first | apply Kd.N_alloc | apply Kd.N_drewN | apply Kd.N_drew)); exact HO143.out) (Kd.N_base ho42) hb)
           have n2_ := Aside0.mk (Kd.N_lower ho42 (q21 (by repeat (first | (with_reducible first | exact HB.out | apply q10 | apply q9 | apply q11 | refine q14 ?_ GE121.out) | exact HB.out))))
           have n3_ := Aside0.mk (q19 (g := gb121) (o := .cells #[.int .i64 a1, .slice AoZ x122001_2.length coZ, .bool false] 69 (0, 0)) (by (with_reducible repeat (first | refine q13 ?_ _ | refine q15 ?_ | refine q12 ?_ _)); exact BK121.out) hb)
           have n4_ := Aside0.mk (q20 (by repeat (first | (with_reducible first | exact HB.out | apply q10 | apply q9 | apply q11 | refine q14 ?_ GE121.out) | exact HB.out)) hb)
           clear HO_0
           clear HO143
           clear BK121
           clear HB
           have HO_0 := n0_
           have HO143 := n1_
           have HO137 := n2_
           have BK121 := n3_
           have HB := n4_
           clear n0_ n1_ n2_ n3_ n4_
           clear hb ho42
           refine hK.out _ _ ⟨(q16 BK121.out 0).trans rfl, (q16 BK121.out 1).trans rfl, (q16 BK121.out 2).trans rfl⟩ (fun hHeld => ?_)
           clear hK K
           refine norm_ (a' := ?_) ?_ ?_
           rotate_left
           ·show Act.put _ (some 42) _ = _
            simp only [Act.put, List.setIfInBounds_toArray, List.set_cons_zero, List.set_cons_succ, i64_w, i32_w]
            rfl
           refine one_ (i := 2) (N := some 44) #[true, true, true, true, true, false, true, true, true, false, false, false] rfl rfl (one_of HT_.out (by kernel_rfl)) (by decide) (fun K hK => ?_)
           refine Kd.N_append_rows_step k69 (w0 := w) w.heap.size (by rfl) (.tmp 42) (.tmp 43) 53 69 (.agg #[(.int .i64 0), (.slice none 0 0), (.bool false)]) 40 rfl Try.underlying53 info69 rfl (by decide) (by omega) v136 y135 l0 _ _ _ (fun k_ => (P0_ k_ ∨ w.heap.size ≤ k_) ∧ some k_ ≠ (v142 : Value).ownBlock ∧ k_ ≠ gb121) (fun k_ => ((fun k_ => (P0_ k_ ∨ w.heap.size ≤ k_) ∧ some k_ ≠ (v142 : Value).ownBlock ∧ k_ ≠ gb121)) k_ ∧ some k_ ≠ (v136 : Value).ownBlock) rfl rfl ?aO ?aR (fun _ hk => hk) ?aF ?aB ?aS ?aL ?_
           (case aR => exact (by skip; exact Kd.V_F (Kd.V_mono (ok' := (fun k_ => ((fun k_ => (P0_ k_ ∨ w.heap.size ≤ k_) ∧ some k_ ≠ (v142 : Value).ownBlock ∧ k_ ≠ gb121)) k_ ∧ some k_ ≠ (v136 : Value).ownBlock)) (HO_0.out) (fun k_ hk => ⟨⟨hk.1.1.1, ⟨hk.1.2, hk.1.1.2.2⟩⟩, hk.2⟩))))
           (case aB => exact (by repeat (first | (with_reducible first | exact HB.out | apply q10 | apply q9 | apply q11 | refine q14 ?_ GE121.out) | exact HB.out)))
           (case aF => exact (fun k_ hk => ⟨(.inr (Nat.le_trans (q21 (by repeat (first | (with_reducible first | exact HB.out | apply q10 | apply q9 | apply q11 | refine q14 ?_ GE121.out) | exact HB.out))) hk)), Kd.fresh' (Kd.N_lt (by (with_reducible repeat (first | apply Kd.N_alloc | apply Kd.N_drewN | apply Kd.N_drew)); exact HO143.out)) k_ hk, Kd.freshB (g := gb121) (o := .cells #[.int .i64 a1, .slice AoZ x122001_2.length coZ, .bool false] 69 (0, 0)) (by (with_reducible repeat (first | refine q13 ?_ _ | refine q15 ?_ | refine q12 ?_ _)); exact BK121.out) k_ hk⟩))
           (case aO => exact (by (with_reducible repeat (first | apply Kd.N_alloc | apply Kd.N_drewN | apply Kd.N_drew)); exact HO137.out))
           (case aS => exact (q21 (by repeat (first | (with_reducible first | exact HB.out | apply q10 | apply q9 | apply q11 | refine q14 ?_ GE121.out) | exact HB.out))))
           (case aL => have := LMc35.out; omega)
           intro v139 w43 ho hb hg hat
           rw [← Ny138.out] at ho
           have n0_ := Aside0.mk (Kd.V_afterv (ok := (fun k_ => (P0_ k_ ∨ w.heap.size ≤ k_) ∧ some k_ ≠ (v142 : Value).ownBlock ∧ k_ ≠ gb121)) (by (with_reducible repeat (first | apply Kd.V_alloc | apply Kd.V_drewN | apply Kd.V_drew)); exact Kd.V_mono HO_0.out (fun _ hk => ⟨⟨hk.1.1.1, ⟨hk.1.2, hk.1.1.2.2⟩⟩, hk.2⟩)) hg hat)
           have n1_ := Aside0.mk (q45 (g := gb121) (o := .cells #[.int .i64 a1, .slice AoZ x122001_2.length coZ, .bool false] 69 (0, 0)) (by (with_reducible repeat (first | refine q13 ?_ _ | refine q15 ?_ | refine q12 ?_ _)); exact BK121.out) hg (Kd.N_away HO137.out (fun _ hk => hk.2.2)))
           have n2_ := Aside0.mk (Kd.N_afterv (ok := (fun k_ => (P0_ k_ ∨ w.heap.size ≤ k_) ∧ k_ ≠ gb121)) (by (with_reducible repeat (first | apply Kd.N_alloc | apply Kd.N_drewN | apply Kd.N_drew)); exact HO143.out) hg hat)
           have n3_ := Aside0.mk (hb)
           have n4_ := Aside0.mk (ho)
           clear HO_0
           clear BK121
           clear HO143
           clear HB
           clear HO137
           have HO_0 := n0_
           have BK121 := n1_
           have HO143 := n2_
           have HB := n3_
           have HO140 := n4_
           clear n0_ n1_ n2_ n3_ n4_
           clear ho hb hg hat
           refine hK.out _ _ ⟨(q16 BK121.out 0).trans rfl, (q16 BK121.out 1).trans rfl, (q16 BK121.out 2).trans rfl⟩ (fun hHeld => ?_)
           clear hK K
           refine norm_ (a' := ?_) ?_ ?_
           rotate_left
           ·show Act.put _ (some 44) _ = _
            simp only [Act.put, List.setIfInBounds_toArray, List.set_cons_zero, List.set_cons_succ, i64_w, i32_w]
            rfl
           exact norm_ (by simp only [putAll, Act.put, List.setIfInBounds_toArray, List.set_cons_zero, List.set_cons_succ]) (hCont (v136, v139, v142) _ ⟨hHeld, (by (with_reducible repeat (first | apply Kd.N_alloc | apply Kd.N_drewN | apply Kd.N_drew)); exact HO140.out), (by (with_reducible repeat (first | apply Kd.N_alloc | apply Kd.N_drewN | apply Kd.N_drew)); exact Kd.N_mono HO143.out (fun _ hk => ⟨hk.1.1, ⟨hk.2, hk.1.2⟩⟩)), (by (with_reducible repeat (first | apply Kd.V_alloc | apply Kd.V_drewN | apply Kd.V_drew)); exact Kd.V_mono HO_0.out (fun _ hk => ⟨hk.1.1, ⟨hk.2, ⟨hk.1.2.1, hk.1.2.2⟩⟩⟩)), (by (with_reducible repeat (first | refine q13 ?_ _ | refine q15 ?_ | refine q12 ?_ _)); exact BK121.out), (by repeat (first | (with_reducible first | exact HB.out | apply q10 | apply q9 | apply q11 | refine q14 ?_ GE121.out) | exact HB.out))⟩)
         rintro ⟨v136, v139, v142⟩ w44 ⟨hS_, h0_, h1_, h2_, h3_, h4_⟩
         have n0_ : Aside0 (Kd.N k69 69 w44 w.heap.size (fun k_ => (P0_ k_ ∨ w.heap.size ≤ k_) ∧ some k_ ≠ (v142 : Value).ownBlock ∧ k_ ≠ gb121) v139 y138) := ⟨h0_⟩
         have n1_ : Aside0 (Kd.N k69 69 w44 w.heap.size (fun k_ => (P0_ k_ ∨ w.heap.size ≤ k_) ∧ some k_ ≠ (v139 : Value).ownBlock ∧ k_ ≠ gb121) v142 y141) := ⟨h1_⟩
         have n2_ : Aside0 (Kd.V k69 69 w44 w.heap.size (fun k_ => (P0_ k_ ∨ w.heap.size ≤ k_) ∧ some k_ ≠ (v139 : Value).ownBlock ∧ some k_ ≠ (v142 : Value).ownBlock ∧ k_ ≠ gb121) (.slice A0 l0.length c0) l0) := ⟨h2_⟩
         have n3_ : Aside0 (w44.heap[gb121]? = some (.cells #[.int .i64 a1, .slice AoZ x122001_2.length coZ, .bool false] 69 (0, 0))) := ⟨h3_⟩
         have n4_ : Aside0 (Below w.heap.size w w44) := ⟨h4_⟩
         clear HO_0
         clear HO_122001
         clear BK121
         clear HB
         clear h0_ h1_ h2_ h3_ h4_
         have HO140 := n0_
         have HO143 := n1_
         have HO_0 := n2_
         have BK121 := n3_
         have HB := n4_
         clear n0_ n1_ n2_ n3_ n4_
         have hHeld : w44.cell? ⟨gb121, 0, none⟩ = some (.int .i64 a1) ∧ w44.cell? ⟨gb121, 1, none⟩ = some (.slice AoZ x122001_2.length coZ) ∧ w44.cell? ⟨gb121, 2, none⟩ = some (.bool false) := hS_
         obtain ⟨Ao46, co46, eo46⟩ := Kd.N_slice HO143.out
         (first | subst eo46 | (injection eo46 with f1_ f2_ f3_; have f4_ := f1_.symm; have f5_ := f3_.symm; clear f1_ f2_ f3_; subst f4_; subst f5_))
         refine norm_ (a' := ?_) ?_ ?_
         rotate_left
         ·simp only [putAll, Act.put, List.setIfInBounds_toArray, List.set_cons_zero, List.set_cons_succ]
          rfl
         refine one_ (i := 5) (N := some 47) #[true, true, true, true, true, true, true, true, true, false, false, false] rfl rfl (one_of HT_.out (by kernel_rfl)) (by decide) (fun K hK => ?_)
         refine Kd.N_append_rows_step k69 (w0 := w) w.heap.size (by rfl) (.tmp 44) (.tmp 46) 53 69 (.agg #[(.int .i64 0), (.slice none 0 0), (.bool false)]) 40 rfl Try.underlying53 info69 rfl (by decide) (by omega) v139 y138 y141 _ _ _ (fun k_ => (P0_ k_ ∨ w.heap.size ≤ k_) ∧ k_ ≠ gb121) (fun k_ => ((fun k_ => (P0_ k_ ∨ w.heap.size ≤ k_) ∧ k_ ≠ gb121)) k_ ∧ some k_ ≠ (v139 : Value).ownBlock) rfl rfl ?aO ?aR (fun _ hk => hk) ?aF ?aB ?aS ?aL ?_
         (case aR => exact (by skip; exact Kd.N_F (Kd.N_mono (ok' := (fun k_ => ((fun k_ => (P0_ k_ ∨ w.heap.size ≤ k_) ∧ k_ ≠ gb121)) k_ ∧ some k_ ≠ (v139 : Value).ownBlock)) (HO143.out) (fun k_ hk => ⟨⟨hk.1, hk.2.2⟩, hk.2.1⟩))))
         (case aB => exact (by repeat (first | (with_reducible first | exact HB.out | apply q10 | apply q9 | apply q11 | refine q14 ?_ GE121.out) | exact HB.out)))
         (case aF => exact (fun k_ hk => ⟨(.inr (Nat.le_trans (q21 (by repeat (first | (with_reducible first | exact HB.out | apply q10 | apply q9 | apply q11 | refine q14 ?_ GE121.out) | exact HB.out))) hk)), Kd.freshB (g := gb121) (o := .cells #[.int .i64 a1, .slice AoZ x122001_2.length coZ, .bool false] 69 (0, 0)) (by (with_reducible repeat (first | refine q13 ?_ _ | refine q15 ?_ | refine q12 ?_ _)); exact BK121.out) k_ hk⟩))
         (case aO => exact (by (with_reducible repeat (first | apply Kd.N_alloc | apply Kd.N_drewN | apply Kd.N_drew)); exact Kd.N_mono HO140.out (fun _ hk => ⟨hk.1, hk.2.2⟩)))
         (case aS => exact (q21 (by repeat (first | (with_reducible first | exact HB.out | apply q10 | apply q9 | apply q11 | refine q14 ?_ GE121.out) | exact HB.out))))
         (case aL => have := LMc36.out; omega)
         intro v145 w45 ho hb hg hat
         rw [← Ny144.out] at ho
         have n0_ := Aside0.mk (Kd.V_afterv (ok := (fun k_ => (P0_ k_ ∨ w.heap.size ≤ k_) ∧ some k_ ≠ (.slice Ao46 y141.length co46 : Value).ownBlock ∧ k_ ≠ gb121)) (by (with_reducible repeat (first | apply Kd.V_alloc | apply Kd.V_drewN | apply Kd.V_drew)); exact Kd.V_mono HO_0.out (fun _ hk => ⟨⟨hk.1, ⟨hk.2.2.1, hk.2.2.2⟩⟩, hk.2.1⟩)) hg hat)
         have n1_ := Aside0.mk (q45 (g := gb121) (o := .cells #[.int .i64 a1, .slice AoZ x122001_2.length coZ, .bool false] 69 (0, 0)) (by (with_reducible repeat (first | refine q13 ?_ _ | refine q15 ?_ | refine q12 ?_ _)); exact BK121.out) hg (Kd.N_away HO140.out (fun _ hk => hk.2.2)))
         have n2_ := Aside0.mk (Kd.N_afterv (ok := (fun k_ => (P0_ k_ ∨ w.heap.size ≤ k_) ∧ k_ ≠ gb121)) (by (with_reducible repeat (first | apply Kd.N_alloc | apply Kd.N_drewN | apply Kd.N_drew)); exact Kd.N_mono HO143.out (fun _ hk => ⟨⟨hk.1, hk.2.2⟩, hk.2.1⟩)) hg hat)
         have n3_ := Aside0.mk (hb)
         have n4_ := Aside0.mk (ho)
         clear HO_0
         clear BK121
         clear HO143
         clear HB
         clear HO140
         have HO_0 := n0_
         have BK121 := n1_
         have HO143 := n2_
         have HB := n3_
         have HO146 := n4_
         clear n0_ n1_ n2_ n3_ n4_
         clear ho hb hg hat
         refine hK.out _ _ ⟨(q16 BK121.out 0).trans rfl, (q16 BK121.out 1).trans rfl, (q16 BK121.out 2).trans rfl⟩ (fun hHeld => ?_)
         clear hK K
         refine norm_ (a' := ?_) ?_ ?_
         rotate_left
         ·show Act.put _ (some 47) _ = _
          simp only [Act.put, List.setIfInBounds_toArray, List.set_cons_zero, List.set_cons_succ, i64_w, i32_w]
          rfl
         refine pure_ (i := 9) (N := some 8) (v := ?_) (a' := ?_) #[true, true, true, true, true, true, true, true, true, true, false, false] rfl rfl (any_of HT_.out (by kernel_rfl)) (fun _ _ _ h => h) (Or.inl ⟨by rfl, ?_⟩) ?_ ?_
         rotate_left
         ·intro w'
          go_simp
          with_reducible rfl
         rotate_left
         ·simp only [Act.put, List.setIfInBounds_toArray, List.set_cons_zero, List.set_cons_succ, i64_w, i32_w]
          rfl
         refine pure_ (i := 10) (N := some 9) (v := ?_) (a' := ?_) #[true, true, true, true, true, true, true, true, true, true, true, false] rfl rfl (any_of HT_.out (by kernel_rfl)) (fun _ _ _ h => h) (Or.inl ⟨by rfl, ?_⟩) ?_ ?_
         rotate_left
         ·intro w'
          go_simp
          with_reducible rfl
         rotate_left
         ·simp only [Act.put, List.setIfInBounds_toArray, List.set_cons_zero, List.set_cons_succ, i64_w, i32_w]
          rfl
         refine pure_ (i := 11) (N := some 10) (v := ?_) (a' := ?_) #[true, true, true, true, true, true, true, true, true, true, true, true] rfl rfl (any_of HT_.out (by kernel_rfl)) (fun _ _ _ h => h) (Or.inl ⟨by rfl, ?_⟩) ?_ ?_
         rotate_left
         ·intro w'
          go_simp
          with_reducible rfl
         rotate_left
         ·simp only [Act.put, List.setIfInBounds_toArray, List.set_cons_zero, List.set_cons_succ, i64_w, i32_w]
          rfl
         refine done_ (done_of HT_.out (by kernel_rfl)) ?_
         try go_wp2
         go_ret3
         exact ⟨_, by first | rfl | (simp [q26, q25] <;> rfl) | (simp [*, q26, q25] <;> rfl), Kd.N_V (by (with_reducible repeat (first | apply Kd.N_alloc | apply Kd.N_drewN | apply Kd.N_drew)); exact Kd.N_mono HO146.out (fun _ hk => hk.1)), by repeat (first | (with_reducible first | exact HB.out | apply q10 | apply q9 | apply q11 | refine q14 ?_ GE121.out) | exact HB.out)⟩
        ·rw [if_neg c36] at H
         exact absurd H (by simp)
       ·rw [if_neg c35] at H
        exact absurd H (by simp)
end Go.Proofs.Yteogfjhmjlelnaa.H
set_option linter.unusedVariables false
set_option linter.unusedSimpArgs false
namespace Go.Proofs.Yteogfjhmjlelnaa.G
open Go.RowKit Go.Proofs.Yteogfjhmjlelnaa.B
def e42 (x : Bt) : H.S42 := ⟨x.k, x.v, ⟨x.p.n, x.p.b, x.p.f⟩⟩
def e69 (m : Mb) : H.S69 := ⟨m.site, m.l.map e42, !m.there⟩
def eR (s : List Mb) : List H.S69 := s.map e69
def I64 (x : Int) : Prop := -9223372036854775808 ≤ x ∧ x ≤ 9223372036854775807
theorem w64 {x : Int} (h : I64 x) : wrap64 x = x := by unfold I64 at h; unfold wrap64; omega
structure Inv (s : List Mb) : Prop where
  len : s.length ≤ 2000
  small : ∀ m : Mb, m ∈ s → m.l.length ≤ 4096
  byte : ∀ m : Mb, m ∈ s → ∀ x : Bt, x ∈ m.l → 0 ≤ x.v ∧ x.v ≤ 255 ∧ (x.k = 2 → x.v = 0)
theorem eR_len (s : List Mb) : (eR s).length = s.length := by simp [eR]
theorem rd_eR {s : List Mb} {i : Nat} {m : Mb} (h : s[i]? = some m) (q : Int) (hq : q = (i : Int)) : H.q23 (eR s) q = e69 m := by
  subst hq
  unfold H.q23 eR
  rw [List.getD_eq_getElem?_getD, Int.toNat_natCast, List.getElem?_map, h]; rfl
theorem rd_map {l : List Bt} {i : Nat} {x : Bt} (h : l[i]? = some x) (q : Int) (hq : q = (i : Int)) : H.q27 (l.map e42) q = e42 x := by
  subst hq
  unfold H.q27
  rw [List.getD_eq_getElem?_getD, Int.toNat_natCast, List.getElem?_map, h]; rfl
theorem ptr_eq (p : Vl) : H.crosstreeref10_Pointer.f p.n p.b p.f = some (decide (0 < p.b) && p.f == 0) := by
  unfold H.crosstreeref10_Pointer.f
  split
  · rename_i h; have h : 0 < p.b := h; simp [h]
  · rename_i h; have h : ¬ 0 < p.b := h; simp [h]
theorem num_eq (p : Vl) : H.crosstreeref10_Number.f p.n p.b p.f = some (p.b == 0 && p.f == 0) := by
  unfold H.crosstreeref10_Number.f
  split
  · rename_i h; simp [h]
  · rename_i h; simp [h]
theorem is_eq (s : List Mb) (n : Int) : H.crosstreeref10_Is.f (eR s) n = some (findS s n).isSome := by
  unfold H.crosstreeref10_Is.f findS
  split
  · rename_i h
    have h : 1 ≤ n := h
    rw [eR_len]
    congr 1
    by_cases h2 : n ≤ s.length
    · rw [List.getElem?_eq_getElem (by omega)]; simp [h2]
    · rw [List.getElem?_eq_none (by omega)]; simp [h2]
  · rfl
theorem modify_set {s : List Mb} {i : Nat} {m : Mb} (h : s[i]? = some m) (f : Mb → Mb) : s.modify i f = s.set i (f m) := by
  have hl := (List.getElem?_eq_some_iff.1 h).1
  apply List.ext_getElem?
  intro j
  rw [List.getElem?_modify, List.getElem?_set]
  by_cases hij : i = j
  · subst hij
    rw [h, if_pos rfl, if_pos hl]; simp
  · rw [if_neg hij]
    cases s[j]? <;> simp [hij]
theorem may_eq {s : List Mb} (hI : Inv s) (p : Vl) (hb : I64 p.b) (n : Int) : H.crosstreeref10_May.f (eR s) p.n p.b p.f n = some (okS s p n).isSome := by
  unfold H.crosstreeref10_May.f
  rw [ptr_eq, is_eq]
  simp only [Option.bind_some]
  unfold okS
  by_cases hp : (decide (0 < p.b) && p.f == 0) = true
  · rw [if_pos hp, if_pos hp]
    have hp' : 0 < p.b := by simp at hp; exact hp.1
    have hf : findS s p.b = s[p.b.toNat - 1]? := by unfold findS; rw [if_pos (by omega)]
    rw [hf]
    cases hm : s[p.b.toNat - 1]? with
    | none => simp
    | some m =>
      have hl := (List.getElem?_eq_some_iff.1 hm).1
      have hsm := hI.small m (List.mem_of_getElem? hm)
      have hw : wrap64 (p.b - 1) = p.b - 1 := w64 (by unfold I64 at hb ⊢; omega)
      simp only [Option.isSome_some, if_true, hw]
      rw [if_pos (show 0 ≤ p.b - 1 by omega), if_pos (by rw [eR_len]; omega), rd_eR hm _ (by omega)]
      show (if (!m.there) = true then some false else if n ≥ 0 then if n ≤ ((m.l.map e42).length : Int) then if p.n ≥ 0 then if p.n ≤ ((m.l.map e42).length : Int) then some (decide (wrap64 (p.n + n) ≤ ((m.l.map e42).length : Int))) else some false else some false else some false else some false) = _
      rw [List.length_map]
      cases ht : m.there with
      | false => simp
      | true =>
        simp only [Bool.not_true, Bool.false_eq_true, if_false]
        by_cases h1 : 0 ≤ n
        · rw [if_pos h1]
          by_cases h2 : n ≤ (m.l.length : Int)
          · rw [if_pos h2]
            by_cases h3 : 0 ≤ p.n
            · rw [if_pos h3]
              by_cases h4 : p.n ≤ (m.l.length : Int)
              · rw [if_pos h4, w64 (by unfold I64; omega)]
                by_cases h5 : p.n + n ≤ (m.l.length : Int)
                · rw [if_pos ⟨trivial, h1, by omega, h3, by omega⟩]; simp [h5]
                · rw [if_neg (fun hh => h5 (by omega))]; simp [h5]
              · rw [if_neg h4, if_neg (fun hh => h4 (by omega))]; rfl
            · rw [if_neg h3, if_neg (fun hh => h3 hh.2.2.2.1)]; rfl
          · rw [if_neg h2, if_neg (fun hh => h2 (by omega))]; rfl
        · rw [if_neg h1, if_neg (fun hh => h1 hh.2.1)]; rfl
  · rw [if_neg hp, if_neg hp]; rfl
theorem access_eq {s : List Mb} (hI : Inv s) (p : Vl) (hb : I64 p.b) (w : Int) (k : Nat) : H.crosstreeref10_access.f (k + 1) (eR s) p.n p.b p.f w = some (if isW w = true then (if (okS s p w).isSome = true then 0 else 9) else 1) := by
  have hj : ∀ x : Bool, H.crosstreeref10_access.j0 (k + 1) (eR s) w x p.n p.b p.f = some (if x = true then 1 else if (okS s p w).isSome = true then 0 else 9) := by
    intro x
    rw [H.crosstreeref10_access.j0, may_eq hI p hb]
    cases x <;> simp
    split <;> rfl
  unfold H.crosstreeref10_access.f
  rw [hj, hj]
  by_cases h1 : w = 1
  · subst h1; simp [isW]
  · by_cases h4 : w = 4
    · subst h4; simp [isW]
    · by_cases h8 : w = 8
      · subst h8; simp [isW]
      · simp [h1, h4, h8, isW]
theorem with_eq {s : List Mb} (hI : Inv s) {b : Int} (h1 : 1 ≤ b) (h2 : b ≤ s.length) (m : Mb) : H.crosstreeref10_with.f (eR s) b m.site (m.l.map e42) (!m.there) = some (eR (s.set (b.toNat - 1) m)) := by
  have hl := hI.len
  unfold H.crosstreeref10_with.f
  rw [w64 (by unfold I64; omega)]
  simp only [Option.bind_some, List.nil_append, List.length_nil, Nat.zero_add, eR_len]
  rw [if_pos (by omega), if_pos (by omega), if_pos (by omega)]
  congr 1
  unfold eR
  rw [List.map_set, show (b - 1).toNat = b.toNat - 1 by omega]
  rfl
theorem end_eq {s : List Mb} (hI : Inv s) (n : Int) (hn : I64 n) : H.crosstreeref10_End.f (eR s) n = some (eR (endS s n).1, (endS s n).2) := by
  unfold H.crosstreeref10_End.f endS
  rw [is_eq]
  simp only [Option.bind_some]
  cases hf : findS s n with
  | none => rfl
  | some m =>
    have h1 : 1 ≤ n ∧ s[n.toNat - 1]? = some m := by
      unfold findS at hf
      split at hf
      · exact ⟨by assumption, hf⟩
      · cases hf
    have hl := (List.getElem?_eq_some_iff.1 h1.2).1
    have hw : wrap64 (n - 1) = n - 1 := w64 (by unfold I64 at hn ⊢; omega)
    simp only [Option.isSome_some, if_true, hw]
    rw [if_pos (show 0 ≤ n - 1 by omega), if_pos (by rw [eR_len]; omega), rd_eR h1.2 _ (by omega)]
    cases ht : m.there with
    | false => simp [e69, ht]
    | true =>
      have hwi := with_eq hI h1.1 (by omega) { m with there := false }
      simp only [e69, ht, Bool.not_true, Bool.false_eq_true, if_false, if_true]
      rw [show (true : Bool) = !(({ m with there := false } : Mb).there) from rfl, hwi]
      simp only [Option.bind_some]
      congr 3
      rw [modify_set h1.2]
theorem lay_loop {s : List Mb} (hI : Inv s) {p : Vl} {m : Mb} (hb1 : 1 ≤ p.b) (hb2 : p.b ≤ s.length) (hp : 0 ≤ p.n) (l : List Bt) (hfit : p.n.toNat + l.length ≤ m.l.length) (hm : m.l.length ≤ 4096) :
    ∀ (j n k : Nat), j + n = l.length → H.crosstreeref10_Lay.l0 (k + n + 1) (eR s) (l.map e42) j p.n p.b p.f m.site ((over m.l p.n.toNat (l.take j)).map e42) (!m.there) = some (eR (s.set (p.b.toNat - 1) { m with l := over m.l p.n.toNat l })) := by
  intro j n
  induction n generalizing j with
  | zero =>
    intro k hj
    have hj : j = l.length := by omega
    subst hj
    rw [H.crosstreeref10_Lay.l0, if_neg (by simp), List.take_length]
    have := with_eq hI hb1 hb2 { m with l := over m.l p.n.toNat l }
    rw [show H.crosstreeref10_with.f (eR s) p.b m.site (List.map e42 (over m.l p.n.toNat l)) (!m.there) = some (eR (s.set (p.b.toNat - 1) { m with l := over m.l p.n.toNat l })) from this]
    rfl
  | succ n ih =>
    intro k hj
    have hjl : j < l.length := by omega
    have hov : (over m.l p.n.toNat (l.take j)).length = m.l.length := over_length (by rw [List.length_take]; omega)
    rw [show k + (n + 1) + 1 = (k + n + 1) + 1 by omega, H.crosstreeref10_Lay.l0, List.length_map, List.length_map, hov, if_pos (by omega), if_pos (by omega), w64 (by unfold I64; omega), if_pos (by omega), if_pos (by omega), rd_map (List.getElem?_eq_getElem hjl) _ rfl, w64 (by unfold I64; omega)]
    have hst : ((over m.l p.n.toNat (l.take j)).map e42).set (p.n + (j : Int)).toNat ⟨(e42 l[j]).f0, (e42 l[j]).f1, ⟨(e42 l[j]).f2.f0, (e42 l[j]).f2.f1, (e42 l[j]).f2.f2⟩⟩ = (over m.l p.n.toNat (l.take (j + 1))).map e42 := by
      show ((over m.l p.n.toNat (l.take j)).map e42).set (p.n + (j : Int)).toNat (e42 l[j]) = _
      rw [← List.map_set, show (p.n + (j : Int)).toNat = p.n.toNat + (l.take j).length by rw [List.length_take]; omega, over_snoc (by rw [List.length_take]; omega), List.take_succ_eq_append_getElem hjl]
    rw [hst]
    have := ih (j + 1) k (by omega)
    rw [show ((j + 1 : Nat) : Int) = (j : Int) + 1 by omega] at this
    exact this
theorem lay_eq {s : List Mb} (hI : Inv s) {p : Vl} {m : Mb} (hb : I64 p.b) (hb1 : 1 ≤ p.b) (hm : s[p.b.toNat - 1]? = some m) (hp : 0 ≤ p.n) (l : List Bt) (hfit : p.n.toNat + l.length ≤ m.l.length) (k : Nat) (hk : 4097 ≤ k) :
    H.crosstreeref10_Lay.f k (eR s) p.n p.b p.f (l.map e42) = some (eR (putS s p l)) := by
  have hl := (List.getElem?_eq_some_iff.1 hm).1
  have hsm := hI.small m (List.mem_of_getElem? hm)
  have hw : wrap64 (p.b - 1) = p.b - 1 := w64 (by unfold I64 at hb ⊢; omega)
  unfold H.crosstreeref10_Lay.f
  rw [hw, if_pos (by omega), if_pos (by rw [eR_len]; omega), rd_eR hm _ (by omega)]
  simp only [Option.bind_some, List.length_nil, Nat.zero_add, List.nil_append]
  rw [if_pos (show (e69 m).f1.length < 3518437208883 by simp [e69]; omega)]
  obtain ⟨q, rfl⟩ : ∃ q, k = q + l.length + 1 := ⟨k - l.length - 1, by omega⟩
  have := lay_loop hI (p := p) (m := m) hb1 (by omega) hp l hfit hsm 0 l.length q (by omega)
  rw [List.take_zero, over_nil] at this
  rw [show (0 : Int) = ((0 : Nat) : Int) from rfl]
  refine this.trans ?_
  unfold putS
  rw [modify_set hm]
theorem fill_loop {s : List Mb} (hI : Inv s) {p : Vl} {m : Mb} (v n : Vl) (hb : I64 p.b) (hm : okS s p n.n = some m) :
    ∀ (j i k : Nat), j + i = n.n.toNat → H.crosstreeref10_Fill.l0 (k + i + 4098) (eR s) ((List.replicate j (⟨1, v.n % 256, ⟨0, 0, 0⟩⟩ : Bt)).map e42) j p.n p.b p.f v.n v.b v.f n.n n.b n.f = some (eR (putS s p (List.replicate n.n.toNat ⟨1, v.n % 256, ⟨0, 0, 0⟩⟩)), 0) := by
  obtain ⟨a1, a2, a3, a4, a5, a6, a7, a8⟩ := q49 hm
  have hsm := hI.small m (List.mem_of_getElem? a6)
  intro j i
  induction i generalizing j with
  | zero =>
    intro k hj
    rw [show k + 0 + 4098 = (k + 4097) + 1 by omega, H.crosstreeref10_Fill.l0, if_neg (by omega)]
    have hj : j = n.n.toNat := by omega
    subst hj
    rw [lay_eq hI hb (by omega) a6 a3 (List.replicate n.n.toNat ⟨1, v.n % 256, ⟨0, 0, 0⟩⟩) (by rw [List.length_replicate]; omega) _ (by omega)]
    rfl
  | succ i ih =>
    intro k hj
    rw [show k + (i + 1) + 4098 = (k + i + 4098) + 1 by omega, H.crosstreeref10_Fill.l0, if_pos (by omega), if_pos (by rw [List.length_map, List.length_replicate]; omega), w64 (by unfold I64; omega)]
    have hbt : (Int.tmod (IntKind.u64.wrap v.n) 256) % 256 = v.n % 256 := by
      rw [IntKind.wrap_u64, Int.tmod_eq_emod_of_nonneg (by omega)]; omega
    have he : ((List.replicate j (⟨1, v.n % 256, ⟨0, 0, 0⟩⟩ : Bt)).map e42) ++ [(⟨1, (Int.tmod (IntKind.u64.wrap v.n) 256) % 256, ⟨0, 0, 0⟩⟩ : H.S42)] = (List.replicate (j + 1) (⟨1, v.n % 256, ⟨0, 0, 0⟩⟩ : Bt)).map e42 := by
      rw [List.replicate_succ', List.map_append, hbt]; rfl
    rw [he]
    have := ih (j + 1) k (by omega)
    rw [show ((j + 1 : Nat) : Int) = (j : Int) + 1 by omega] at this
    exact this
theorem fill_eq {s : List Mb} (hI : Inv s) (p v n : Vl) (hb : I64 p.b) : H.crosstreeref10_Fill.f 9000 (eR s) p.n p.b p.f v.n v.b v.f n.n n.b n.f = some (eR (fillS s p v n).1, (fillS s p v n).2) := by
  have hj : ∀ x, H.crosstreeref10_Fill.j0 9000 (eR s) x p.n p.b p.f v.n v.b v.f n.n n.b n.f = if x = true then some (eR s, 9) else H.crosstreeref10_Fill.l0 8999 (eR s) ([] : List H.S42) 0 p.n p.b p.f v.n v.b v.f n.n n.b n.f := by
    intro x; rw [show (9000 : Nat) = 8999 + 1 from rfl, H.crosstreeref10_Fill.j0]
  unfold H.crosstreeref10_Fill.f fillS
  rw [num_eq, num_eq, may_eq hI p hb]
  simp only [Option.bind_some, hj]
  cases hv : (v.b == 0 && v.f == 0) with
  | false => cases okS s p n.n <;> rfl
  | true =>
    cases hn : (n.b == 0 && n.f == 0) with
    | false => cases okS s p n.n <;> rfl
    | true =>
      simp only [if_true]
      cases hm : okS s p n.n with
      | none =>
        simp only [Option.isSome_none, Bool.not_false, if_true]
        split <;> first | rfl | (split <;> rfl)
      | some m =>
        obtain ⟨a1, a2, a3, a4, a5, a6, a7, a8⟩ := q49 hm
        simp only [Option.isSome_some, Bool.not_true, Bool.false_eq_true, if_false]
        rw [if_neg (by omega), if_neg (by omega), if_pos ⟨trivial, trivial⟩]
        have := fill_loop hI v n hb hm 0 n.n.toNat (8999 - 4098 - n.n.toNat) (by omega)
        rw [show 8999 - 4098 - n.n.toNat + n.n.toNat + 4098 = 8999 by omega] at this
        exact this
theorem copy_eq {s : List Mb} (hI : Inv s) (p q : Vl) (n : Int) (hb : I64 p.b) (hq : I64 q.b) : H.crosstreeref10_Copy.f 9000 (eR s) p.n p.b p.f q.n q.b q.f n = some (eR (copyS s p q n).1, (copyS s p q n).2) := by
  unfold H.crosstreeref10_Copy.f copyS
  rw [may_eq hI p hb, may_eq hI q hq]
  simp only [Option.bind_some]
  cases hm : okS s p n with
  | none =>
    simp only [Option.isSome_none, Bool.false_eq_true, if_false]
    split <;> first | rfl | (split <;> rfl)
  | some m =>
    obtain ⟨a1, a2, a3, a4, a5, a6, a7, a8⟩ := q49 hm
    rw [if_neg (by omega), if_neg (by omega)]
    simp only [Option.isSome_some, if_true]
    cases hm2 : okS s q n with
    | none => rfl
    | some m2 =>
      obtain ⟨b1, b2, b3, b4, b5, b6, b7, b8⟩ := q49 hm2
      have hsm := hI.small m2 (List.mem_of_getElem? b6)
      have hl := (List.getElem?_eq_some_iff.1 b6).1
      simp only [Option.isSome_some, if_true]
      rw [w64 (show I64 (q.b - 1) by unfold I64 at hq ⊢; omega), if_pos (by omega), if_pos (by rw [eR_len]; omega), rd_eR b6 _ (by omega), w64 (show I64 (q.n + n) by unfold I64; omega), if_pos b3, if_pos (by omega)]
      rw [if_pos (show q.n + n ≤ ((e69 m2).f1.length : Int) by simp [e69]; omega)]
      have hseg : (((e69 m2).f1.take (q.n + n).toNat).drop q.n.toNat) = (segS m2 q n.toNat).map e42 := by
        show (((m2.l.map e42).take (q.n + n).toNat).drop q.n.toNat) = _
        rw [← List.map_take, ← List.map_drop, segS, List.drop_take, show (q.n + n).toNat - q.n.toNat = n.toNat by omega]
      rw [hseg]
      simp only [List.length_nil, Nat.zero_add, List.nil_append, List.length_map]
      have hsl : (segS m2 q n.toNat).length = n.toNat := by rw [segS, List.length_take, List.length_drop]; omega
      rw [if_pos (by omega), lay_eq hI hb (by omega) a6 a3 _ (by omega) _ (by omega)]
      rfl
end Go.Proofs.Yteogfjhmjlelnaa.G
set_option linter.unusedVariables false
set_option linter.unusedSimpArgs false
namespace Go.Proofs.Yteogfjhmjlelnaa.G
open Go.RowKit Go.Proofs.Yteogfjhmjlelnaa.B
theorem alloc_loop {s : List Mb} (hl : s.length < 2000) (site : Int) (z : Bt) (zero : Bool) (hz : e42 z = if zero = true then (⟨1, 0, ⟨0, 0, 0⟩⟩ : H.S42) else ⟨0, 0, ⟨0, 0, 0⟩⟩) (N : Nat) (hN : N ≤ 4096) :
    ∀ (j i k : Nat), j + i = N → H.crosstreeref10_Alloc.l0 (k + i + 1) (eR s) N zero j site ((List.replicate j z).map e42) false = some (eR (s ++ [⟨site, List.replicate N z, true⟩]), (s.length : Int) + 1, 0) := by
  intro j i
  induction i generalizing j with
  | zero =>
    intro k hj
    have hj : j = N := by omega
    subst hj
    rw [H.crosstreeref10_Alloc.l0, if_neg (by omega)]
    simp only [Option.bind_some, List.length_nil, Nat.zero_add, List.nil_append, eR_len, List.length_cons]
    rw [if_pos (by omega), if_pos (by omega), w64 (by unfold I64; omega)]
    simp [eR, e69]
  | succ i ih =>
    intro k hj
    rw [show k + (i + 1) + 1 = (k + i + 1) + 1 by omega, H.crosstreeref10_Alloc.l0, if_pos (by omega)]
    simp only [Option.bind_some, List.length_cons, List.length_nil, List.length_map, List.length_replicate]
    rw [w64 (by unfold I64; omega)]
    have := ih (j + 1) k (by omega)
    rw [show ((j + 1 : Nat) : Int) = (j : Int) + 1 by omega, List.replicate_succ', List.map_append, List.map_singleton, hz] at this
    have hlt : j + (0 + 1) < 3518437208883 := by omega
    cases zero <;> simp only [if_true, Bool.false_eq_true, if_false, if_pos hlt] at this ⊢ <;> exact this
theorem alloc_eq {s : List Mb} (hl : s.length ≤ 2000) (site size : Int) (zero : Bool) : H.crosstreeref10_Alloc.f 9000 (eR s) site size zero = some (eR (allocS s site size zero).1, (allocS s site size zero).2.1, (allocS s site size zero).2.2) := by
  have hj : ∀ x, H.crosstreeref10_Alloc.j0 9000 (eR s) site size zero x = if x = true then some (eR s, 0, 5) else H.crosstreeref10_Alloc.l0 8999 (eR s) size zero 0 site ([] : List H.S42) false := by
    intro x; rw [show (9000 : Nat) = 8999 + 1 from rfl, H.crosstreeref10_Alloc.j0]
  unfold H.crosstreeref10_Alloc.f allocS
  simp only [hj, eR_len]
  by_cases h1 : size < 0
  · have hc : size < 0 ∨ 4096 < size ∨ s.length = 2000 := .inl h1
    simp only [if_pos h1, if_pos hc, if_true]
  · rw [if_neg h1]
    by_cases h2 : 4096 < size
    · have hc : size < 0 ∨ 4096 < size ∨ s.length = 2000 := .inr (.inl h2)
      have h2' : size > 4096 := h2
      simp only [if_pos h2', if_pos hc, if_true]
    · rw [if_neg (show ¬ size > 4096 from h2)]
      by_cases h3 : s.length = 2000
      · have hc : size < 0 ∨ 4096 < size ∨ s.length = 2000 := .inr (.inr h3)
        simp [if_pos hc, h3]
      · have hc : ¬ (size < 0 ∨ 4096 < size ∨ s.length = 2000) := by omega
        have hd : ¬ (decide ((s.length : Int) ≥ 2000) = true) := by simp; omega
        simp only [if_neg hc, if_neg hd]
        obtain ⟨N, rfl⟩ := Int.eq_ofNat_of_zero_le (show 0 ≤ size by omega)
        have := alloc_loop (s := s) (by omega) site (⟨if zero = true then 1 else 0, 0, ⟨0, 0, 0⟩⟩ : Bt) zero (by cases zero <;> rfl) N (by omega) 0 N (8999 - N - 1) (by omega)
        rw [show 8999 - N - 1 + N + 1 = 8999 by omega] at this
        exact this
def addS (s : List Mb) (v : Vl) (n : Int) : Vl × Int :=
  if (v.b == 0 && v.f == 0) = true then (⟨wrap64 (v.n + n), 0, 0⟩, 0)
  else if (decide (0 < v.b) && v.f == 0) = true then
    match findS s v.b with
    | some m => if 0 ≤ v.n ∧ v.n ≤ (m.l.length : Int) ∧ 0 ≤ v.n + n ∧ v.n + n ≤ (m.l.length : Int) then (⟨v.n + n, v.b, 0⟩, 0) else (⟨0, 0, 0⟩, 9)
    | none => (⟨0, 0, 0⟩, 9)
  else (⟨0, 0, 0⟩, 9)
theorem add_eq {s : List Mb} (hI : Inv s) (v : Vl) (n : Int) (hb : I64 v.b) (hn : I64 n) : H.crosstreeref10_Add.f 9000 (eR s) v.n v.b v.f n = some ((addS s v n).1.n, (addS s v n).1.b, (addS s v n).1.f, (addS s v n).2) := by
  unfold H.crosstreeref10_Add.f addS
  rw [num_eq, ptr_eq, is_eq]
  simp only [Option.bind_some]
  have hbad : H.crosstreeref10_Add.j0 9000 (eR s) n true v.n v.b v.f = some (0, 0, 0, 9) := by
    rw [show (9000 : Nat) = 8999 + 1 from rfl, H.crosstreeref10_Add.j0, if_pos rfl]
  cases hv : (v.b == 0 && v.f == 0) with
  | true => rfl
  | false =>
    simp only [Bool.false_eq_true, if_false]
    cases hp : (decide (0 < v.b) && v.f == 0) with
    | false =>
      simp only [Bool.false_eq_true, if_false]
      exact hbad
    | true =>
      simp only [if_true]
      have hp' : 0 < v.b := by simp at hp; exact hp.1
      cases hm : findS s v.b with
      | none => exact hbad
      | some m =>
        have hm' : s[v.b.toNat - 1]? = some m := by
          unfold findS at hm
          rwa [if_pos (by omega)] at hm
        have hl := (List.getElem?_eq_some_iff.1 hm').1
        have hsm := hI.small m (List.mem_of_getElem? hm')
        simp only [Option.isSome_some, Bool.not_true]
        rw [show (9000 : Nat) = 8999 + 1 from rfl, H.crosstreeref10_Add.j0, if_neg (by decide), w64 (show I64 (v.b - 1) by unfold I64 at hb ⊢; omega), if_pos (by omega), if_pos (by rw [eR_len]; omega), rd_eR hm' _ (by omega)]
        rw [show (((e69 m).f1.length : Nat) : Int) = (m.l.length : Int) by simp [e69], w64 (show I64 (-(m.l.length : Int)) by unfold I64; omega)]
        unfold I64 at hn
        by_cases c1 : v.n < 0
        · rw [if_pos c1, if_neg (by omega)]
        · rw [if_neg c1]
          by_cases c2 : v.n > (m.l.length : Int)
          · rw [if_pos c2, if_neg (by omega)]
          · rw [if_neg c2]
            by_cases c3 : n > (m.l.length : Int)
            · rw [if_pos c3, if_neg (by omega)]
            · rw [if_neg c3]
              by_cases c4 : n < -(m.l.length : Int)
              · rw [if_pos c4, if_neg (by omega)]
              · rw [if_neg c4, w64 (show I64 (v.n + n) by unfold I64; omega)]
                by_cases c5 : v.n + n < 0
                · rw [if_pos c5, if_neg (by omega)]
                · rw [if_neg c5]
                  by_cases c6 : v.n + n > (m.l.length : Int)
                  · rw [if_pos c6, if_neg (by omega)]
                  · rw [if_neg c6, if_pos (by omega)]
theorem num_bytes (n : Int) {j : Nat} (hj : j < 8) : IntKind.u64.wrap (Int.tdiv (n % 18446744073709551616 / 2 ^ (8 * j)) 256) = n % 18446744073709551616 / 2 ^ (8 * (j + 1)) ∧ (Int.tmod (n % 18446744073709551616 / 2 ^ (8 * j)) 256) % 256 = byteOf n j := by
  have h0 : 0 ≤ n % 18446744073709551616 / 2 ^ (8 * j) := Int.ediv_nonneg (by omega) (Int.le_of_lt (Int.pow_pos (by decide)))
  rw [Int.tdiv_eq_ediv_of_nonneg h0, Int.tmod_eq_emod_of_nonneg h0, IntKind.wrap_u64]
  unfold byteOf
  have : j = 0 ∨ j = 1 ∨ j = 2 ∨ j = 3 ∨ j = 4 ∨ j = 5 ∨ j = 6 ∨ j = 7 := by omega
  rcases this with rfl | rfl | rfl | rfl | rfl | rfl | rfl | rfl
  · rw [show (2 : Int) ^ (8 * 0) = 1 from rfl, show (2 : Int) ^ (8 * (0 + 1)) = 256 from rfl]; omega
  · rw [show (2 : Int) ^ (8 * 1) = 256 from rfl, show (2 : Int) ^ (8 * (1 + 1)) = 65536 from rfl]; omega
  · rw [show (2 : Int) ^ (8 * 2) = 65536 from rfl, show (2 : Int) ^ (8 * (2 + 1)) = 16777216 from rfl]; omega
  · rw [show (2 : Int) ^ (8 * 3) = 16777216 from rfl, show (2 : Int) ^ (8 * (3 + 1)) = 4294967296 from rfl]; omega
  · rw [show (2 : Int) ^ (8 * 4) = 4294967296 from rfl, show (2 : Int) ^ (8 * (4 + 1)) = 1099511627776 from rfl]; omega
  · rw [show (2 : Int) ^ (8 * 5) = 1099511627776 from rfl, show (2 : Int) ^ (8 * (5 + 1)) = 281474976710656 from rfl]; omega
  · rw [show (2 : Int) ^ (8 * 6) = 281474976710656 from rfl, show (2 : Int) ^ (8 * (6 + 1)) = 72057594037927936 from rfl]; omega
  · rw [show (2 : Int) ^ (8 * 7) = 72057594037927936 from rfl, show (2 : Int) ^ (8 * (7 + 1)) = 18446744073709551616 from rfl]; omega
end Go.Proofs.Yteogfjhmjlelnaa.G
set_option linter.unusedVariables false
set_option linter.unusedSimpArgs false
namespace Go.Proofs.Yteogfjhmjlelnaa.G
open Go.RowKit Go.Proofs.Yteogfjhmjlelnaa.B
def cnt (seg : List Bt) : Nat → Int
  | 0 => 0
  | j + 1 => cnt seg j + if (seg.getD j zb).k = 1 then 1 else 0
theorem cnt_bound (seg : List Bt) : ∀ j, 0 ≤ cnt seg j ∧ cnt seg j ≤ j
  | 0 => ⟨Int.le_refl _, Int.le_refl _⟩
  | j + 1 => by have := cnt_bound seg j; unfold cnt; split <;> omega
theorem cnt_all (seg : List Bt) : ∀ j, cnt seg j = j ↔ numB seg j = true
  | 0 => by simp [cnt, numB]
  | j + 1 => by
    have h := cnt_all seg j
    have hb := cnt_bound seg j
    unfold cnt numB
    split
    · rename_i h1
      rw [h1]
      simp only [beq_self_eq_true, Bool.and_true]
      rw [← h]; omega
    · rename_i h1
      have : ((seg.getD j zb).k == 1) = false := beq_eq_false_iff_ne.mpr h1
      rw [this, Bool.and_false]
      constructor
      · intro hh; omega
      · intro hh; cases hh
theorem cnt_some (seg : List Bt) : ∀ j, 0 < cnt seg j → ∃ i, i < j ∧ (seg.getD i zb).k = 1
  | 0, h => by simp [cnt] at h
  | j + 1, h => by
    unfold cnt at h
    by_cases h1 : (seg.getD j zb).k = 1
    · exact ⟨j, by omega, h1⟩
    · rw [if_neg h1] at h
      obtain ⟨i, hi, h2⟩ := cnt_some seg j (by omega)
      exact ⟨i, by omega, h2⟩
theorem cnt_none (seg : List Bt) : ∀ j, cnt seg j = 0 → ∀ i, i < j → (seg.getD i zb).k ≠ 1
  | 0, _, i, hi => by omega
  | j + 1, h, i, hi => by
    have hb := cnt_bound seg j
    unfold cnt at h
    by_cases h1 : (seg.getD j zb).k = 1
    · rw [if_pos h1] at h; omega
    · by_cases he : i = j
      · subst he; exact h1
      · exact cnt_none seg j (by rw [if_neg h1] at h; omega) i (by omega)
theorem part_all {k : Nat} {seg : List Bt} : ∀ j, partB k seg j = true ↔ ((k : Int) = 8 ∧ ∀ i, i < j → isPart (seg.getD i zb) (seg.getD 0 zb) i = true)
  | 0 => by simp [partB]
  | j + 1 => by
    rw [partB, Bool.and_eq_true, part_all j]
    constructor
    · rintro ⟨⟨h1, h2⟩, h3⟩
      refine ⟨h1, fun i hi => ?_⟩
      by_cases he : i = j
      · subst he; exact h3
      · exact h2 i (by omega)
    · rintro ⟨h1, h2⟩
      exact ⟨⟨h1, fun i hi => h2 i (by omega)⟩, h2 j (by omega)⟩
theorem get_of_len {seg : List Bt} {i : Nat} (h : i < seg.length) : seg[i]? = some (seg.getD i zb) := by
  rw [List.getD_eq_getElem?_getD, List.getElem?_eq_getElem h]; rfl
theorem cnt_loop (seg : List Bt) (hlen : seg.length ≤ 4096) : ∀ (j i k : Nat), j + i = seg.length →
    H.crosstreeref10_Load.l0 (k + i + 1) seg.length (seg.map e42) (cnt seg j) j = H.crosstreeref10_Load.l0 (k + 1) seg.length (seg.map e42) (cnt seg seg.length) seg.length := by
  intro j i
  induction i generalizing j with
  | zero =>
    intro k hj
    have : j = seg.length := by omega
    subst this
    rfl
  | succ i ih =>
    intro k hj
    have hb := cnt_bound seg j
    rw [show k + (i + 1) + 1 = (k + i + 1) + 1 by omega, H.crosstreeref10_Load.l0, if_pos (by omega), if_pos (by omega), if_pos (by rw [List.length_map]; omega), rd_map (get_of_len (show j < seg.length by omega)) _ rfl, w64 (show I64 ((j : Int) + 1) by unfold I64; omega), w64 (show I64 (cnt seg j + 1) by unfold I64; omega)]
    have := ih (j + 1) k (by omega)
    rw [show ((j + 1 : Nat) : Int) = (j : Int) + 1 by omega] at this
    rw [← this, show cnt seg (j + 1) = cnt seg j + if (seg.getD j zb).k = 1 then 1 else 0 from rfl]
    show (if (seg.getD j zb).k = 1 then _ else _) = _
    split
    · rfl
    · rw [Int.add_zero]
theorem l1_step (k : Nat) (L : List Bt) (a : Int) (i : Nat) (hi : i < L.length) (hl : L.length ≤ 4096) (h1 : I64 (a * 256)) (h2 : I64 ((L.getD i zb).v)) (h3 : I64 (a * 256 + (L.getD i zb).v)) :
    H.crosstreeref10_Load.l1 (k + 1) (L.map e42) a i = H.crosstreeref10_Load.l1 k (L.map e42) (a * 256 + (L.getD i zb).v) ((i : Int) - 1) := by
  rw [H.crosstreeref10_Load.l1, if_pos (by omega), if_pos (by omega), if_pos (by rw [List.length_map]; omega), rd_map (get_of_len hi) _ rfl, w64 h1]
  show H.crosstreeref10_Load.l1 k (L.map e42) (wrap64 (a * 256 + wrap64 (L.getD i zb).v)) (wrap64 ((i : Int) - 1)) = _
  rw [w64 h2, w64 h3, w64 (show I64 ((i : Int) - 1) by unfold I64; omega)]
theorem l1_end (k : Nat) (L : List H.S42) (a : Int) : H.crosstreeref10_Load.l1 (k + 1) L a (-1) = some (a, 0, 0, 0) := by
  rw [H.crosstreeref10_Load.l1, if_neg (by decide)]
theorem val1 (seg : List Bt) (hl : seg.length = 1) (hv : ∀ i, i < 1 → 0 ≤ (seg.getD i zb).v ∧ (seg.getD i zb).v ≤ 255) (k : Nat) :
    H.crosstreeref10_Load.l1 (k + 2) (seg.map e42) 0 0 = some (wrap64 (nOf seg 1), 0, 0, 0) := by
  have h0 := hv 0 (by decide)
  have := l1_step (k + 1) seg 0 0 (by omega) (by omega) (by unfold I64; omega) (by unfold I64; omega) (by unfold I64; omega)
  rw [show ((0 : Nat) : Int) = 0 from rfl] at this
  rw [this, show (0 : Int) - 1 = -1 from rfl, l1_end]
  congr 2
  unfold nOf nOf wrap64
  rw [show (2 : Int) ^ (8 * 0) = 1 from rfl]
  omega
theorem val4 (seg : List Bt) (hl : seg.length = 4) (hv : ∀ i, i < 4 → 0 ≤ (seg.getD i zb).v ∧ (seg.getD i zb).v ≤ 255) (k : Nat) :
    H.crosstreeref10_Load.l1 (k + 5) (seg.map e42) (if (seg.getD 3 zb).v ≥ 128 then -1 else 0) 3 = some (wrap64 (wrap32 (nOf seg 4)), 0, 0, 0) := by
  have h0 := hv 0 (by decide)
  have h1 := hv 1 (by decide)
  have h2 := hv 2 (by decide)
  have h3 := hv 3 (by decide)
  obtain ⟨c, hc⟩ : ∃ c : Int, c = if (seg.getD 3 zb).v ≥ 128 then -1 else 0 := ⟨_, rfl⟩
  rw [← hc]
  have hc' : (c = -1 ∧ 128 ≤ (seg.getD 3 zb).v) ∨ (c = 0 ∧ (seg.getD 3 zb).v < 128) := by
    by_cases h : (seg.getD 3 zb).v ≥ 128
    · rw [if_pos h] at hc; exact .inl ⟨hc, h⟩
    · rw [if_neg h] at hc; exact .inr ⟨hc, by omega⟩
  clear hc
  have s3 := l1_step (k + 4) seg c 3 (by omega) (by omega) (by unfold I64; omega) (by unfold I64; omega) (by unfold I64; omega)
  have s2 := l1_step (k + 3) seg (c * 256 + (seg.getD 3 zb).v) 2 (by omega) (by omega) (by unfold I64; omega) (by unfold I64; omega) (by unfold I64; omega)
  have s1 := l1_step (k + 2) seg ((c * 256 + (seg.getD 3 zb).v) * 256 + (seg.getD 2 zb).v) 1 (by omega) (by omega) (by unfold I64; omega) (by unfold I64; omega) (by unfold I64; omega)
  have s0 := l1_step (k + 1) seg (((c * 256 + (seg.getD 3 zb).v) * 256 + (seg.getD 2 zb).v) * 256 + (seg.getD 1 zb).v) 0 (by omega) (by omega) (by unfold I64; omega) (by unfold I64; omega) (by unfold I64; omega)
  have e3 : ((3 : Nat) : Int) = 3 := rfl
  rw [← e3, s3, show ((3 : Nat) : Int) - 1 = ((2 : Nat) : Int) from rfl, s2, show ((2 : Nat) : Int) - 1 = ((1 : Nat) : Int) from rfl, s1, show ((1 : Nat) : Int) - 1 = ((0 : Nat) : Int) from rfl, s0, show ((0 : Nat) : Int) - 1 = -1 from rfl, l1_end]
  congr 2
  simp only [nOf]
  rw [show (2 : Int) ^ (8 * 0) = 1 from rfl, show (2 : Int) ^ (8 * 1) = 256 from rfl, show (2 : Int) ^ (8 * 2) = 65536 from rfl, show (2 : Int) ^ (8 * 3) = 16777216 from rfl]
  unfold wrap64 wrap32
  omega
theorem val8 (seg : List Bt) (hl : seg.length = 8) (hv : ∀ i, i < 8 → 0 ≤ (seg.getD i zb).v ∧ (seg.getD i zb).v ≤ 255) (k : Nat) :
    H.crosstreeref10_Load.l1 (k + 9) (seg.map e42) (if (seg.getD 7 zb).v ≥ 128 then -1 else 0) 7 = some (wrap64 (nOf seg 8), 0, 0, 0) := by
  have h0 := hv 0 (by decide)
  have h1 := hv 1 (by decide)
  have h2 := hv 2 (by decide)
  have h3 := hv 3 (by decide)
  have h4 := hv 4 (by decide)
  have h5 := hv 5 (by decide)
  have h6 := hv 6 (by decide)
  have h7 := hv 7 (by decide)
  have hn : nOf seg 8 = (seg.getD 0 zb).v + (seg.getD 1 zb).v * 256 + (seg.getD 2 zb).v * 65536 + (seg.getD 3 zb).v * 16777216 + (seg.getD 4 zb).v * 4294967296 + (seg.getD 5 zb).v * 1099511627776 + (seg.getD 6 zb).v * 281474976710656 + (seg.getD 7 zb).v * 72057594037927936 := by
    simp only [nOf]
    rw [show (2 : Int) ^ (8 * 0) = 1 from rfl, show (2 : Int) ^ (8 * 1) = 256 from rfl, show (2 : Int) ^ (8 * 2) = 65536 from rfl, show (2 : Int) ^ (8 * 3) = 16777216 from rfl, show (2 : Int) ^ (8 * 4) = 4294967296 from rfl, show (2 : Int) ^ (8 * 5) = 1099511627776 from rfl, show (2 : Int) ^ (8 * 6) = 281474976710656 from rfl, show (2 : Int) ^ (8 * 7) = 72057594037927936 from rfl]
    omega
  rw [hn]
  clear hn hv
  have g7 := fun c => l1_step (k + 8) seg c 7 (by omega) (by omega)
  have g6 := fun c => l1_step (k + 7) seg c 6 (by omega) (by omega)
  have g5 := fun c => l1_step (k + 6) seg c 5 (by omega) (by omega)
  have g4 := fun c => l1_step (k + 5) seg c 4 (by omega) (by omega)
  have g3 := fun c => l1_step (k + 4) seg c 3 (by omega) (by omega)
  have g2 := fun c => l1_step (k + 3) seg c 2 (by omega) (by omega)
  have g1 := fun c => l1_step (k + 2) seg c 1 (by omega) (by omega)
  have g0 := fun c => l1_step (k + 1) seg c 0 (by omega) (by omega)
  clear hl
  generalize (seg.getD 0 zb).v = v0 at *
  generalize (seg.getD 1 zb).v = v1 at *
  generalize (seg.getD 2 zb).v = v2 at *
  generalize (seg.getD 3 zb).v = v3 at *
  generalize (seg.getD 4 zb).v = v4 at *
  generalize (seg.getD 5 zb).v = v5 at *
  generalize (seg.getD 6 zb).v = v6 at *
  generalize (seg.getD 7 zb).v = v7 at *
  obtain ⟨c, hc⟩ : ∃ c : Int, c = if v7 ≥ 128 then -1 else 0 := ⟨_, rfl⟩
  rw [← hc]
  obtain ⟨a7, ha7⟩ : ∃ a, a = c * 256 + v7 := ⟨_, rfl⟩
  have hb7 : -128 ≤ a7 ∧ a7 ≤ 127 ∧ a7 = (if v7 ≥ 128 then v7 - 256 else v7) := by
    by_cases h : v7 ≥ 128
    · rw [if_pos h] at hc ⊢; omega
    · rw [if_neg h] at hc ⊢; omega
  have hc1 : -1 ≤ c ∧ c ≤ 0 := by split at hc <;> omega
  obtain ⟨a6, ha6⟩ : ∃ a, a = a7 * 256 + v6 := ⟨_, rfl⟩
  obtain ⟨a5, ha5⟩ : ∃ a, a = a6 * 256 + v5 := ⟨_, rfl⟩
  obtain ⟨a4, ha4⟩ : ∃ a, a = a5 * 256 + v4 := ⟨_, rfl⟩
  obtain ⟨a3, ha3⟩ : ∃ a, a = a4 * 256 + v3 := ⟨_, rfl⟩
  obtain ⟨a2, ha2⟩ : ∃ a, a = a3 * 256 + v2 := ⟨_, rfl⟩
  obtain ⟨a1, ha1⟩ : ∃ a, a = a2 * 256 + v1 := ⟨_, rfl⟩
  obtain ⟨a0, ha0⟩ : ∃ a, a = a1 * 256 + v0 := ⟨_, rfl⟩
  have b6 : -32768 ≤ a6 ∧ a6 ≤ 32767 := by omega
  have b5 : -8388608 ≤ a5 ∧ a5 ≤ 8388607 := by omega
  have b4 : -2147483648 ≤ a4 ∧ a4 ≤ 2147483647 := by omega
  have b3 : -549755813888 ≤ a3 ∧ a3 ≤ 549755813887 := by omega
  have b2 : -140737488355328 ≤ a2 ∧ a2 ≤ 140737488355327 := by omega
  have b1 : -36028797018963968 ≤ a1 ∧ a1 ≤ 36028797018963967 := by omega
  have b0 : -9223372036854775808 ≤ a0 ∧ a0 ≤ 9223372036854775807 := by omega
  have s7 := g7 c (by unfold I64; omega) (by unfold I64; omega) (by unfold I64; omega)
  have s6 := g6 a7 (by unfold I64; omega) (by unfold I64; omega) (by unfold I64; omega)
  have s5 := g5 a6 (by unfold I64; omega) (by unfold I64; omega) (by unfold I64; omega)
  have s4 := g4 a5 (by unfold I64; omega) (by unfold I64; omega) (by unfold I64; omega)
  have s3 := g3 a4 (by unfold I64; omega) (by unfold I64; omega) (by unfold I64; omega)
  have s2 := g2 a3 (by unfold I64; omega) (by unfold I64; omega) (by unfold I64; omega)
  have s1 := g1 a2 (by unfold I64; omega) (by unfold I64; omega) (by unfold I64; omega)
  have s0 := g0 a1 (by unfold I64; omega) (by unfold I64; omega) (by unfold I64; omega)
  rw [← ha7] at s7
  rw [← ha6] at s6
  rw [← ha5] at s5
  rw [← ha4] at s4
  rw [← ha3] at s3
  rw [← ha2] at s2
  rw [← ha1] at s1
  rw [← ha0] at s0
  have e7 : ((7 : Nat) : Int) = 7 := rfl
  rw [← e7, s7, show ((7 : Nat) : Int) - 1 = ((6 : Nat) : Int) from rfl, s6, show ((6 : Nat) : Int) - 1 = ((5 : Nat) : Int) from rfl, s5, show ((5 : Nat) : Int) - 1 = ((4 : Nat) : Int) from rfl, s4, show ((4 : Nat) : Int) - 1 = ((3 : Nat) : Int) from rfl, s3, show ((3 : Nat) : Int) - 1 = ((2 : Nat) : Int) from rfl, s2, show ((2 : Nat) : Int) - 1 = ((1 : Nat) : Int) from rfl, s1, show ((1 : Nat) : Int) - 1 = ((0 : Nat) : Int) from rfl, s0, show ((0 : Nat) : Int) - 1 = -1 from rfl, l1_end]
  congr 2
  have hb7' := hb7.2.2
  unfold wrap64
  by_cases h : v7 ≥ 128
  · rw [if_pos h] at hb7'; omega
  · rw [if_neg h] at hb7'; omega
theorem l2_loop (seg : List Bt) (hl : seg.length = 8) (hz : ∀ i, i < 8 → (seg.getD i zb).k = 2 → (seg.getD i zb).v = 0) (f2 : Int) : ∀ (j i k : Nat), j + i = 8 → (∀ q, q < j → isPart (seg.getD q zb) (seg.getD 0 zb) q = true) →
    H.crosstreeref10_Load.l2 (k + i + 1) 8 (seg.map e42) j (seg.getD 0 zb).p.n (seg.getD 0 zb).p.b f2 = if partB 8 seg 8 = true then some ((seg.getD 0 zb).p.n, (seg.getD 0 zb).p.b, 0, 0) else some (0, 0, 0, 9) := by
  intro j i
  induction i generalizing j with
  | zero =>
    intro k hj hall
    have : j = 8 := by omega
    subst this
    rw [H.crosstreeref10_Load.l2, if_neg (by decide), if_pos ((part_all 8).2 ⟨rfl, hall⟩)]
  | succ i ih =>
    intro k hj hall
    have hjl : j < seg.length := by omega
    have hfalse : isPart (seg.getD j zb) (seg.getD 0 zb) j = false → ¬ partB 8 seg 8 = true := fun h hp => by
      have := ((part_all 8).1 hp).2 j (by omega)
      rw [h] at this; cases this
    rw [show k + (i + 1) + 1 = (k + i + 1) + 1 by omega, H.crosstreeref10_Load.l2, if_pos (by omega), if_pos rfl, if_pos (by omega), if_pos (by rw [List.length_map]; omega), rd_map (get_of_len hjl) _ rfl, w64 (show I64 ((j : Int) + 1) by unfold I64; omega)]
    show (if (seg.getD j zb).k = 2 then (if (seg.getD j zb).p.f = (j : Int) + 1 then (if (seg.getD j zb).p.n = (seg.getD 0 zb).p.n then (if (seg.getD j zb).p.b = (seg.getD 0 zb).p.b then _ else _) else _) else _) else _) = _
    by_cases c1 : (seg.getD j zb).k = 2
    · rw [if_pos c1]
      by_cases c2 : (seg.getD j zb).p.f = (j : Int) + 1
      · rw [if_pos c2]
        by_cases c3 : (seg.getD j zb).p.n = (seg.getD 0 zb).p.n
        · rw [if_pos c3]
          by_cases c4 : (seg.getD j zb).p.b = (seg.getD 0 zb).p.b
          · rw [if_pos c4]
            have := ih (j + 1) k (by omega) (fun q hq => by
              by_cases he : q = j
              · subst he
                unfold isPart
                rw [c1, hz q (by omega) c1, c3, c4, c2]; simp
              · exact hall q (by omega))
            rw [show ((j + 1 : Nat) : Int) = (j : Int) + 1 by omega] at this
            exact this
          · rw [if_neg c4, if_neg (hfalse (by have hq : ((seg.getD j zb).p.b == (seg.getD 0 zb).p.b) = false := beq_eq_false_iff_ne.mpr c4; unfold isPart; rw [hq, Bool.and_false, Bool.false_and]))]
        · rw [if_neg c3, if_neg (hfalse (by have hq : ((seg.getD j zb).p.n == (seg.getD 0 zb).p.n) = false := beq_eq_false_iff_ne.mpr c3; unfold isPart; rw [hq, Bool.and_false, Bool.false_and, Bool.false_and]))]
      · rw [if_neg c2, if_neg (hfalse (by have hq : ((seg.getD j zb).p.f == (j : Int) + 1) = false := beq_eq_false_iff_ne.mpr c2; unfold isPart; rw [hq, Bool.and_false]))]
    · rw [if_neg c1, if_neg (hfalse (by have hq : ((seg.getD j zb).k == 2) = false := beq_eq_false_iff_ne.mpr c1; unfold isPart; rw [hq, Bool.false_and, Bool.false_and, Bool.false_and, Bool.false_and]))]
theorem load_seg (seg : List Bt) (w : Nat) (hw : w = 1 ∨ w = 4 ∨ w = 8) (hl : seg.length = w) (hv : ∀ i, i < w → 0 ≤ (seg.getD i zb).v ∧ (seg.getD i zb).v ≤ 255 ∧ ((seg.getD i zb).k = 2 → (seg.getD i zb).v = 0)) (k : Nat) (hk : 40 ≤ k) :
    H.crosstreeref10_Load.l0 k w (seg.map e42) 0 0 = some ((loadR w seg).1.n, (loadR w seg).1.b, (loadR w seg).1.f, (loadR w seg).2) := by
  obtain ⟨q, rfl⟩ : ∃ q, k = q + 20 + w + 1 := ⟨k - 20 - w - 1, by omega⟩
  have hc := cnt_loop seg (by omega) 0 w (q + 20) (by omega)
  rw [hl] at hc
  have h00 : H.crosstreeref10_Load.l0 (q + 20 + w + 1) w (seg.map e42) 0 0 = H.crosstreeref10_Load.l0 (q + 20 + 1) w (seg.map e42) (cnt seg w) w := hc
  rw [h00]
  have hj4 : ∀ k' x, H.crosstreeref10_Load.j4 (k' + 1) w (seg.map e42) x = if x = true then some (0, 0, 0, 9) else (if 0 < ((seg.map e42).length : Int) then (if (w : Int) = 1 then some ((H.q27 (seg.map e42) 0).f2.f0, (H.q27 (seg.map e42) 0).f2.f1, (H.q27 (seg.map e42) 0).f2.f2, 0) else H.crosstreeref10_Load.l2 k' w (seg.map e42) 0 ((H.q27 (seg.map e42) 0).f2.f0) ((H.q27 (seg.map e42) 0).f2.f1) ((H.q27 (seg.map e42) 0).f2.f2)) else none) := fun k' x => by rw [H.crosstreeref10_Load.j4]
  have hr0 : H.q27 (seg.map e42) 0 = e42 (seg.getD 0 zb) := rd_map (get_of_len (show 0 < seg.length by omega)) _ rfl
  have hb := cnt_bound seg w
  rw [H.crosstreeref10_Load.l0, if_neg (by omega)]
  by_cases hall : cnt seg w = w
  · have hnb := (cnt_all seg w).1 hall
    rw [if_pos hall, loadR, if_pos hnb]
    have hj1 : ∀ k' c y, H.crosstreeref10_Load.j1 (k' + 2) w (seg.map e42) c y = H.crosstreeref10_Load.l1 k' (seg.map e42) (if y = true then -1 else c) (wrap64 ((w : Int) - 1)) := by
      intro k' c y
      rw [H.crosstreeref10_Load.j1]
      cases y <;> simp only [if_true, Bool.false_eq_true, if_false] <;> rw [H.crosstreeref10_Load.j2]
    rcases hw with rfl | rfl | rfl
    · have e1 : wrap64 (((1 : Nat) : Int) - 1) = 0 := by unfold wrap64; omega
      rw [if_neg (by decide), if_neg (by decide), show q + 20 = q + 18 + 2 by omega, hj1, e1]
      exact val1 seg hl (fun i hi => ⟨(hv i hi).1, (hv i hi).2.1⟩) (q + 16)
    · have e1 : wrap64 (((4 : Nat) : Int) - 1) = 3 := by unfold wrap64; omega
      rw [e1, if_pos (by decide), if_pos (by decide), if_pos (show (3 : Int) < ((seg.map e42).length : Int) by rw [List.length_map, hl]; decide), show q + 20 = q + 18 + 2 by omega, hj1, e1]
      rw [rd_map (get_of_len (show 3 < seg.length by omega)) 3 rfl]
      have := val4 seg hl (fun i hi => ⟨(hv i hi).1, (hv i hi).2.1⟩) (q + 13)
      rw [if_pos (show (4 : Nat) = 4 from rfl)]
      show H.crosstreeref10_Load.l1 (q + 18) (seg.map e42) (if decide ((seg.getD 3 zb).v ≥ 128) = true then -1 else 0) 3 = _
      simp only [decide_eq_true_eq]
      exact this
    · have e1 : wrap64 (((8 : Nat) : Int) - 1) = 7 := by unfold wrap64; omega
      rw [e1, if_pos (by decide), if_pos (by decide), if_pos (show (7 : Int) < ((seg.map e42).length : Int) by rw [List.length_map, hl]; decide), show q + 20 = q + 18 + 2 by omega, hj1, e1]
      rw [rd_map (get_of_len (show 7 < seg.length by omega)) 7 rfl]
      have := val8 seg hl (fun i hi => ⟨(hv i hi).1, (hv i hi).2.1⟩) (q + 9)
      rw [if_neg (show ¬ (8 : Nat) = 4 by decide)]
      show H.crosstreeref10_Load.l1 (q + 18) (seg.map e42) (if decide ((seg.getD 7 zb).v ≥ 128) = true then -1 else 0) 7 = _
      simp only [decide_eq_true_eq]
      exact this
  · have hnb : ¬ numB seg w = true := fun h => hall ((cnt_all seg w).2 h)
    rw [if_neg hall, loadR, if_neg hnb]
    by_cases hpos : cnt seg w > 0
    · obtain ⟨i, hi, hk1⟩ := cnt_some seg w hpos
      have hpb : ¬ partB w seg w = true := fun h => by
        have := ((part_all w).1 h).2 i hi
        unfold isPart at this
        rw [hk1] at this
        simp at this
      have h1 : ¬ (w = 1 ∧ (seg.getD 0 zb).k = 2) := fun h => by
        obtain ⟨rfl, h2⟩ := h
        have : i = 0 := by omega
        subst this
        omega
      rw [if_pos hpos, show q + 20 = q + 19 + 1 by omega, hj4, if_pos rfl, if_neg hpb, if_neg h1]
    · have h0 : cnt seg w = 0 := by omega
      have hno := cnt_none seg w h0
      rw [if_neg hpos, if_pos (by rw [List.length_map]; omega), hr0, show q + 20 = q + 19 + 1 by omega, hj4]
      by_cases hk2 : (seg.getD 0 zb).k = 2
      · rw [if_neg (show ¬ ((e42 (seg.getD 0 zb)).f0 != 2) = true by simp [e42]; exact hk2), if_pos (by rw [List.length_map]; omega), hr0]
        by_cases hw1 : w = 1
        · subst hw1
          have hpb : ¬ partB 1 seg 1 = true := fun h => by
            have := ((part_all 1).1 h).1
            omega
          rw [if_pos (show ((1 : Nat) : Int) = 1 from rfl), if_neg hpb, if_pos ⟨rfl, hk2⟩]
          rfl
        · rw [if_neg (show ¬ (w : Int) = 1 by omega), if_neg (show ¬ (w = 1 ∧ (seg.getD 0 zb).k = 2) from fun h => hw1 h.1)]
          rcases hw with rfl | rfl | rfl
          · exact absurd rfl hw1
          · have hpb : ¬ partB 4 seg 4 = true := fun h => by
              have := ((part_all 4).1 h).1
              omega
            rw [if_neg hpb, show q + 19 = q + 18 + 1 by omega, H.crosstreeref10_Load.l2, if_pos (by decide), if_neg (by decide)]
          · have := l2_loop seg hl (fun i hi => (hv i hi).2.2) (seg.getD 0 zb).p.f 0 8 (q + 10) (by omega) (fun q hq => by omega)
            rw [show q + 10 + 8 + 1 = q + 19 by omega] at this
            refine this.trans ?_
            split <;> rfl
      · have hpb : ¬ partB w seg w = true := fun h => by
          have := ((part_all w).1 h).2 0 (by omega)
          unfold isPart at this
          simp at this
          exact hk2 (by simpa using (this.1).1)
        rw [if_pos (show ((e42 (seg.getD 0 zb)).f0 != 2) = true by simp [e42]; exact hk2), if_neg hpb, if_neg (fun h => hk2 h.2)]
theorem load_eq {s : List Mb} (hI : Inv s) (p : Vl) (w : Int) (hb : I64 p.b) : H.crosstreeref10_Load.f 9000 (eR s) p.n p.b p.f w = some ((loadS s p w).1.n, (loadS s p w).1.b, (loadS s p w).1.f, (loadS s p w).2) := by
  unfold H.crosstreeref10_Load.f loadS
  rw [access_eq hI p hb w 8999]
  simp only [Option.bind_some]
  cases hk : isW w with
  | false => simp
  | true =>
    cases hm : okS s p w with
    | none => simp
    | some m =>
      have hwc : w = 1 ∨ w = 4 ∨ w = 8 := by simpa [isW, or_assoc] using hk
      obtain ⟨W, rfl⟩ : ∃ W : Nat, w = W := ⟨w.toNat, by omega⟩
      obtain ⟨a1, a2, a3, a4, a5, a6, a7, a8⟩ := q49 hm
      have hsm := hI.small m (List.mem_of_getElem? a6)
      have hby := hI.byte m (List.mem_of_getElem? a6)
      have hl := (List.getElem?_eq_some_iff.1 a6).1
      simp only [if_true, Option.isSome_some]
      rw [w64 (show I64 (p.b - 1) by unfold I64 at hb ⊢; omega), if_pos (by omega), if_pos (by rw [eR_len]; omega), rd_eR a6 _ (by omega), w64 (show I64 (p.n + (W : Int)) by unfold I64; omega), if_pos a3, if_pos (by omega), if_pos (show p.n + (W : Int) ≤ ((e69 m).f1.length : Int) by simp [e69]; omega)]
      have hseg : (((e69 m).f1.take (p.n + (W : Int)).toNat).drop p.n.toNat) = (segS m p W).map e42 := by
        show (((m.l.map e42).take (p.n + (W : Int)).toNat).drop p.n.toNat) = _
        rw [← List.map_take, ← List.map_drop, segS, List.drop_take, show (p.n + (W : Int)).toNat - p.n.toNat = W by omega]
      have hsl : (segS m p W).length = W := by rw [segS, List.length_take, List.length_drop]; omega
      rw [hseg]
      exact load_seg (segS m p W) W (by omega) hsl (fun i hi => by
        have hg := get_of_len (seg := segS m p W) (i := i) (by omega)
        exact hby _ (List.mem_of_mem_drop (List.mem_of_mem_take (List.mem_of_getElem? hg)))) 9000 (by omega)
theorem Inv.nil : Inv [] := ⟨by decide, (fun m hm => nomatch hm), (fun m hm => nomatch hm)⟩
theorem Inv.put {s : List Mb} (hI : Inv s) {p : Vl} {n : Int} {m : Mb} (hm : okS s p n = some m) {seg : List Bt} (hl : seg.length = n.toNat) (hv : ∀ x : Bt, x ∈ seg → 0 ≤ x.v ∧ x.v ≤ 255 ∧ (x.k = 2 → x.v = 0)) : Inv (putS s p seg) := by
  obtain ⟨a1, a2, a3, a4, a5, a6, a7, a8⟩ := q49 hm
  unfold putS
  rw [modify_set a6]
  have hmm := List.mem_of_getElem? a6
  refine ⟨by rw [List.length_set]; exact hI.len, fun m' hm' => ?_, fun m' hm' x hx => ?_⟩
  · rcases List.mem_or_eq_of_mem_set hm' with h | h
    · exact hI.small m' h
    · rw [h]
      show (over m.l p.n.toNat seg).length ≤ 4096
      rw [over_length (by omega)]
      exact hI.small m hmm
  · rcases List.mem_or_eq_of_mem_set hm' with h | h
    · exact hI.byte m' h x hx
    · rw [h] at hx
      have hx : x ∈ over m.l p.n.toNat seg := hx
      unfold over at hx
      rcases List.mem_append.1 hx with hx | hx
      · rcases List.mem_append.1 hx with hx | hx
        · exact hI.byte m hmm x (List.mem_of_mem_take hx)
        · exact hv x hx
      · exact hI.byte m hmm x (List.mem_of_mem_drop hx)
theorem Inv.store {s : List Mb} (hI : Inv s) (p : Vl) (k : Int) (x : Vl) : Inv (storeS s p k x).1 := by
  unfold storeS
  split
  · rename_i hk
    split
    · rename_i m hm
      split
      · rename_i seg hseg
        have hkc : k = 1 ∨ k = 4 ∨ k = 8 := by simpa [isW, or_assoc] using hk
        unfold encS at hseg
        split at hseg
        · cases hseg
          exact hI.put hm (by simp [numSeg]) (fun y hy => by
            simp only [numSeg, List.mem_map] at hy
            obtain ⟨i, _, rfl⟩ := hy
            exact ⟨by show 0 ≤ byteOf _ _; unfold byteOf; omega, by show byteOf _ _ ≤ 255; unfold byteOf; omega, fun h => by cases h⟩)
        · split at hseg
          · rename_i h8
            cases hseg
            exact hI.put hm (by simp [ptrSeg, h8.2]) (fun y hy => by
              simp only [ptrSeg, List.mem_map] at hy
              obtain ⟨i, _, rfl⟩ := hy
              exact ⟨Int.le_refl _, (show (0 : Int) ≤ 255 by decide), fun _ => rfl⟩)
          · split at hseg
            · rename_i h1
              cases hseg
              exact hI.put hm (by simp [h1.2]) (fun y hy => by
                rw [List.mem_singleton] at hy
                subst hy
                exact ⟨Int.le_refl _, (show (0 : Int) ≤ 255 by decide), fun _ => rfl⟩)
            · cases hseg
      · exact hI
    · exact hI
  · exact hI
theorem Inv.copy {s : List Mb} (hI : Inv s) (p q : Vl) (n : Int) : Inv (copyS s p q n).1 := by
  unfold copyS
  split
  · rename_i m1 m hm1 hm
    obtain ⟨b1, b2, b3, b4, b5, b6, b7, b8⟩ := q49 hm
    exact hI.put hm1 (by rw [segS, List.length_take, List.length_drop]; omega) (fun x hx => hI.byte m (List.mem_of_getElem? b6) x (List.mem_of_mem_drop (List.mem_of_mem_take hx)))
  · exact hI
theorem Inv.fill {s : List Mb} (hI : Inv s) (p v n : Vl) : Inv (fillS s p v n).1 := by
  unfold fillS
  split
  · rename_i m hm
    split
    · exact hI.put hm (List.length_replicate ..) (fun x hx => by
        obtain ⟨_, rfl⟩ := List.mem_replicate.1 hx
        exact ⟨by show 0 ≤ v.n % 256; omega, by show v.n % 256 ≤ 255; omega, fun h => by cases h⟩)
    · exact hI
  · exact hI
theorem Inv.end_ {s : List Mb} (hI : Inv s) (n : Int) : Inv (endS s n).1 := by
  unfold endS
  split
  · rename_i m hm
    split
    · have h1 : s[n.toNat - 1]? = some m := by
        unfold findS at hm
        split at hm
        · exact hm
        · cases hm
      have hmm := List.mem_of_getElem? h1
      rw [modify_set h1]
      refine ⟨by rw [List.length_set]; exact hI.len, fun m' hm' => ?_, fun m' hm' x hx => ?_⟩
      · rcases List.mem_or_eq_of_mem_set hm' with h | h
        · exact hI.small m' h
        · rw [h]; exact hI.small m hmm
      · rcases List.mem_or_eq_of_mem_set hm' with h | h
        · exact hI.byte m' h x hx
        · rw [h] at hx; exact hI.byte m hmm x hx
    · exact hI
  · exact hI
theorem Inv.alloc {s : List Mb} (hI : Inv s) (site size : Int) (zero : Bool) : Inv (allocS s site size zero).1 := by
  unfold allocS
  split
  · exact hI
  · rename_i hc
    have hl := hI.len
    refine ⟨by rw [List.length_append]; simp; omega, fun m hm => ?_, fun m hm x hx => ?_⟩
    · rcases List.mem_append.1 hm with h | h
      · exact hI.small m h
      · rw [List.mem_singleton] at h
        subst h
        show (List.replicate _ _).length ≤ 4096
        rw [List.length_replicate]; omega
    · rcases List.mem_append.1 hm with h | h
      · exact hI.byte m h x hx
      · rw [List.mem_singleton] at h
        subst h
        obtain ⟨_, rfl⟩ := List.mem_replicate.1 hx
        exact ⟨Int.le_refl _, (show (0 : Int) ≤ 255 by decide), fun _ => rfl⟩
end Go.Proofs.Yteogfjhmjlelnaa.G
set_option linter.unusedVariables false
set_option linter.unusedSimpArgs false
namespace Go.Proofs.Yteogfjhmjlelnaa.G
open Go.RowKit Go.Proofs.Yteogfjhmjlelnaa.B Go.Proofs.YteogfjhmjlelnaaW.PrintWords Go.Proofs.YteogfjhmjlelnaaW.PrintLast Go.Proofs.YteogfjhmjlelnaaW.PrintMore
theorem add_num {w : World} {gm : Nat} {gs : List Nat} {s : List Mb} (h : Holds w gm gs s) (v : Vl) (n : Int) (hv : (v.b == 0 && v.f == 0) = true) :
  Calls Try.prog 29 #[.pointer (some ⟨gm, 0, none⟩), .agg #[.int .i64 v.n, .int .i64 v.b, .int .i64 v.f], .int .i64 n] w fun e w' => e = .returned (.tuple #[.agg #[.int .i64 (wrap64 (v.n + n)), .int .i64 0, .int .i64 0], .int .i64 0]) ∧ Below w.heap.size w w' := by
 have HH := Aside0.mk h
 have hB := Aside0.mk (q10 (q10 (Below.refl w.heap.size w) (.cells #[.int .i64 v.n, .int .i64 v.b, .int .i64 v.f] 23)) (.cells #[.int .i64 0, .int .i64 0, .int .i64 0] 23))
 have hX := Aside0.mk (q12 (q33 w (.cells #[.int .i64 v.n, .int .i64 v.b, .int .i64 v.f] 23)) (.cells #[.int .i64 0, .int .i64 0, .int .i64 0] 23))
 have hZ := Aside0.mk (q46 (W := w.alloc (.cells #[.int .i64 v.n, .int .i64 v.b, .int .i64 v.f] 23)) (n := w.heap.size + 1) (.cells #[.int .i64 0, .int .i64 0, .int .i64 0] 23) (by simp))
 clear h
 go_enter Try.func29, Try.ntmps29
 go_upto_region 1 with (fail)
 generalize (w.alloc (.cells #[.int .i64 v.n, .int .i64 v.b, .int .i64 v.f] 23)).alloc (.cells #[.int .i64 0, .int .i64 0, .int .i64 0] 23) = W at hB hX hZ ⊢
 have hx := cell3 hX.out
 go_upto_region 2 with (first | (go_at_call 33; refine (q38 v _).mono ?_; rintro e w1 ⟨rfl, hb1⟩; have HX1 := Aside0.mk (q19 hX.out hb1); have HZ1 := Aside0.mk (q19 hZ.out hb1); have HB1 := Aside0.mk (q20 hB.out hb1); clear hx hb1; have hx := cell3 HX1.out))
 clear hX hZ hB
 have hz := cell3 HZ1.out
 have hf0 := q0 HZ1.out 0
 have hf1 := q0 HZ1.out 1
 have hf2 := q0 HZ1.out 2
 go_wp2_with fail
 all_goals (
  refine bodyPost_ret (q36 rfl _ _ (w.heap.size + 1) 23 _ (0, 0) _ rfl (q50 HZ1.out _ _ _) Try.underlying23 rfl (by kernel_rfl)) rfl ⟨rfl, ?_⟩
  exact (((Kp.of_below HB1.out (fun _ => False)).setCell (.inr (by simp)) _).setCell (.inr (by simp)) _ |>.setCell (.inr (by simp)) _).to_below (fun _ h => h.elim))
theorem add_none {w : World} {gm : Nat} {gs : List Nat} {s : List Mb} (h : Holds w gm gs s) (v : Vl) (n : Int) (hv : (v.b == 0 && v.f == 0) = false) (hfd : findS s v.b = none) :
  Calls Try.prog 29 #[.pointer (some ⟨gm, 0, none⟩), .agg #[.int .i64 v.n, .int .i64 v.b, .int .i64 v.f], .int .i64 n] w fun e w' => e = .returned (.tuple #[.agg #[.int .i64 0, .int .i64 0, .int .i64 0], .int .i64 9]) ∧ Below w.heap.size w w' := by
 have HH := Aside0.mk h
 have hB := Aside0.mk (q10 (q10 (Below.refl w.heap.size w) (.cells #[.int .i64 v.n, .int .i64 v.b, .int .i64 v.f] 23)) (.cells #[.int .i64 0, .int .i64 0, .int .i64 0] 23))
 have hX := Aside0.mk (q12 (q33 w (.cells #[.int .i64 v.n, .int .i64 v.b, .int .i64 v.f] 23)) (.cells #[.int .i64 0, .int .i64 0, .int .i64 0] 23))
 have hZ := Aside0.mk (q46 (W := w.alloc (.cells #[.int .i64 v.n, .int .i64 v.b, .int .i64 v.f] 23)) (n := w.heap.size + 1) (.cells #[.int .i64 0, .int .i64 0, .int .i64 0] 23) (by simp))
 clear h
 go_enter Try.func29, Try.ntmps29
 go_upto_region 1 with (fail)
 generalize (w.alloc (.cells #[.int .i64 v.n, .int .i64 v.b, .int .i64 v.f] 23)).alloc (.cells #[.int .i64 0, .int .i64 0, .int .i64 0] 23) = W at hB hX hZ ⊢
 have hx := cell3 hX.out
 go_upto_region 4 with (first | (go_at_call 33; refine (q38 v _).mono ?_; rintro e w1 ⟨rfl, hb1⟩; have HX1 := Aside0.mk (q19 hX.out hb1); have HZ1 := Aside0.mk (q19 hZ.out hb1); have HB1 := Aside0.mk (q20 hB.out hb1); clear hx hb1; have hx := cell3 HX1.out) | (go_at_call 35; refine ((HH.out.below HB1.out).miss hfd).mono ?_; rintro e w2 ⟨rfl, rfl⟩))
 clear hX hZ hB
 cases hp : (decide (0 < v.b) && v.f == 0) with
 | true =>
  go_upto_region 5 with (first | (go_at_call 34; refine (q34 v _).mono ?_; rintro e w3 ⟨rfl, hb3⟩; have HX3 := Aside0.mk (q19 HX1.out hb3); have HZ3 := Aside0.mk (q19 HZ1.out hb3); have HB3 := Aside0.mk (q20 HB1.out hb3); clear hx hb3; have hx := cell3 HX3.out))
  clear HZ1 HX1 HB1
  have hz := cell3 HZ3.out
  have hf0 := q0 HZ3.out 0
  have hf1 := q0 HZ3.out 1
  have hf2 := q0 HZ3.out 2
  go_wp2_with fail
  all_goals (
   refine bodyPost_ret (q36 rfl _ _ (w.heap.size + 1) 23 _ (0, 0) _ rfl (q50 HZ3.out _ _ _) Try.underlying23 rfl (by kernel_rfl)) rfl ⟨rfl, ?_⟩
   exact (((Kp.of_below HB3.out (fun _ => False)).setCell (.inr (by simp)) _).setCell (.inr (by simp)) _ |>.setCell (.inr (by simp)) _).to_below (fun _ h => h.elim))
 | false =>
  go_upto_region 5 with (first | (go_at_call 34; refine (q34 v _).mono ?_; rintro e w3 ⟨rfl, hb3⟩; have HX3 := Aside0.mk (q19 HX1.out hb3); have HZ3 := Aside0.mk (q19 HZ1.out hb3); have HB3 := Aside0.mk (q20 HB1.out hb3); clear hx hb3; have hx := cell3 HX3.out))
  clear HZ1 HX1 HB1
  have hz := cell3 HZ3.out
  have hf0 := q0 HZ3.out 0
  have hf1 := q0 HZ3.out 1
  have hf2 := q0 HZ3.out 2
  go_wp2_with fail
  all_goals (
   refine bodyPost_ret (q36 rfl _ _ (w.heap.size + 1) 23 _ (0, 0) _ rfl (q50 HZ3.out _ _ _) Try.underlying23 rfl (by kernel_rfl)) rfl ⟨rfl, ?_⟩
   exact (((Kp.of_below HB3.out (fun _ => False)).setCell (.inr (by simp)) _).setCell (.inr (by simp)) _ |>.setCell (.inr (by simp)) _).to_below (fun _ h => h.elim))
theorem add_part {w : World} {gm : Nat} {gs : List Nat} {s : List Mb} (h : Holds w gm gs s) (v : Vl) (n : Int) (hv : (v.b == 0 && v.f == 0) = false) (hp : (decide (0 < v.b) && v.f == 0) = false) (m : Mb) (hfd : findS s v.b = some m) :
  Calls Try.prog 29 #[.pointer (some ⟨gm, 0, none⟩), .agg #[.int .i64 v.n, .int .i64 v.b, .int .i64 v.f], .int .i64 n] w fun e w' => e = .returned (.tuple #[.agg #[.int .i64 0, .int .i64 0, .int .i64 0], .int .i64 9]) ∧ Below w.heap.size w w' := by
 obtain ⟨g, cap, hM, hf, h0, h1, h2, h3⟩ := h.find hfd
 have HF := Aside0.mk hf
 have HC := Aside0.mk h1
 clear hM hf h0 h1 h2 h3 hfd
 have HH := Aside0.mk h
 have hB := Aside0.mk (q10 (q10 (Below.refl w.heap.size w) (.cells #[.int .i64 v.n, .int .i64 v.b, .int .i64 v.f] 23)) (.cells #[.int .i64 0, .int .i64 0, .int .i64 0] 23))
 have hX := Aside0.mk (q12 (q33 w (.cells #[.int .i64 v.n, .int .i64 v.b, .int .i64 v.f] 23)) (.cells #[.int .i64 0, .int .i64 0, .int .i64 0] 23))
 have hZ := Aside0.mk (q46 (W := w.alloc (.cells #[.int .i64 v.n, .int .i64 v.b, .int .i64 v.f] 23)) (n := w.heap.size + 1) (.cells #[.int .i64 0, .int .i64 0, .int .i64 0] 23) (by simp))
 clear h
 go_enter Try.func29, Try.ntmps29
 go_upto_region 1 with (fail)
 generalize (w.alloc (.cells #[.int .i64 v.n, .int .i64 v.b, .int .i64 v.f] 23)).alloc (.cells #[.int .i64 0, .int .i64 0, .int .i64 0] 23) = W at hB hX hZ ⊢
 have hx := cell3 hX.out
 go_upto_region 4 with (first | (go_at_call 33; refine (q38 v _).mono ?_; rintro e w1 ⟨rfl, hb1⟩; have HX1 := Aside0.mk (q19 hX.out hb1); have HZ1 := Aside0.mk (q19 hZ.out hb1); have HB1 := Aside0.mk (q20 hB.out hb1); clear hx hb1; have hx := cell3 HX1.out) | (go_at_call 35; refine (HF.out _ HB1.out).mono ?_; rintro e w2 ⟨rfl, rfl⟩))
 clear hX hZ hB
 go_upto_region 5 with (first | (go_at_call 34; refine (q34 v _).mono ?_; rintro e w3 ⟨rfl, hb3⟩; have HX3 := Aside0.mk (q19 HX1.out hb3); have HZ3 := Aside0.mk (q19 HZ1.out hb3); have HB3 := Aside0.mk (q20 HB1.out hb3); clear hx hb3; have hx := cell3 HX3.out))
 clear HZ1 HX1 HB1
 have hz := cell3 HZ3.out
 have hf0 := q0 HZ3.out 0
 have hf1 := q0 HZ3.out 1
 have hf2 := q0 HZ3.out 2
 go_wp2_with fail
 all_goals (
  refine bodyPost_ret (q36 rfl _ _ (w.heap.size + 1) 23 _ (0, 0) _ rfl (q50 HZ3.out _ _ _) Try.underlying23 rfl (by kernel_rfl)) rfl ⟨rfl, ?_⟩
  exact (((Kp.of_below HB3.out (fun _ => False)).setCell (.inr (by simp)) _).setCell (.inr (by simp)) _ |>.setCell (.inr (by simp)) _).to_below (fun _ h => h.elim))
theorem add_neg {w : World} {gm : Nat} {gs : List Nat} {s : List Mb} (h : Holds w gm gs s) (v : Vl) (n : Int) (hn : I64 n) (hvn : I64 v.n) (hv : (v.b == 0 && v.f == 0) = false) (hp : (decide (0 < v.b) && v.f == 0) = true) (m : Mb) (hfd : findS s v.b = some m) (hml : m.l.length ≤ 4096) (hnn : v.n < 0) (hlt : n < IntKind.i64.wrap (-v.n)) :
  Calls Try.prog 29 #[.pointer (some ⟨gm, 0, none⟩), .agg #[.int .i64 v.n, .int .i64 v.b, .int .i64 v.f], .int .i64 n] w fun e w' => e = .returned (.tuple #[.agg #[.int .i64 0, .int .i64 0, .int .i64 0], .int .i64 9]) ∧ Below w.heap.size w w' := by
 unfold I64 at hn hvn
 clear hn hvn
 obtain ⟨g, cap, hM, hf, h0, h1, h2, h3⟩ := h.find hfd
 have HF := Aside0.mk hf
 have HC := Aside0.mk h1
 clear hM hf h0 h1 h2 h3 hfd
 have HH := Aside0.mk h
 have hB := Aside0.mk (q10 (q10 (Below.refl w.heap.size w) (.cells #[.int .i64 v.n, .int .i64 v.b, .int .i64 v.f] 23)) (.cells #[.int .i64 0, .int .i64 0, .int .i64 0] 23))
 have hX := Aside0.mk (q12 (q33 w (.cells #[.int .i64 v.n, .int .i64 v.b, .int .i64 v.f] 23)) (.cells #[.int .i64 0, .int .i64 0, .int .i64 0] 23))
 have hZ := Aside0.mk (q46 (W := w.alloc (.cells #[.int .i64 v.n, .int .i64 v.b, .int .i64 v.f] 23)) (n := w.heap.size + 1) (.cells #[.int .i64 0, .int .i64 0, .int .i64 0] 23) (by simp))
 clear h
 go_enter Try.func29, Try.ntmps29
 go_upto_region 1 with (fail)
 generalize (w.alloc (.cells #[.int .i64 v.n, .int .i64 v.b, .int .i64 v.f] 23)).alloc (.cells #[.int .i64 0, .int .i64 0, .int .i64 0] 23) = W at hB hX hZ ⊢
 have hx := cell3 hX.out
 go_upto_region 4 with (first | (go_at_call 33; refine (q38 v _).mono ?_; rintro e w1 ⟨rfl, hb1⟩; have HX1 := Aside0.mk (q19 hX.out hb1); have HZ1 := Aside0.mk (q19 hZ.out hb1); have HB1 := Aside0.mk (q20 hB.out hb1); clear hx hb1; have hx := cell3 HX1.out) | (go_at_call 35; refine (HF.out _ HB1.out).mono ?_; rintro e w2 ⟨rfl, rfl⟩))
 clear hX hZ hB
 go_upto_region 6 with (first | (go_at_call 34; refine (q34 v _).mono ?_; rintro e w3 ⟨rfl, hb3⟩; have HX3 := Aside0.mk (q19 HX1.out hb3); have HZ3 := Aside0.mk (q19 HZ1.out hb3); have HB3 := Aside0.mk (q20 HB1.out hb3); clear hx hb3; have hx := cell3 HX3.out))
 have hc := q22 HB3.out HC.out
 clear HZ1 HX1 HB1
 have hz := cell3 HZ3.out
 have hf0 := q0 HZ3.out 0
 have hf1 := q0 HZ3.out 1
 have hf2 := q0 HZ3.out 2
 go_wp2_with fail
 all_goals (
  refine bodyPost_ret (q36 rfl _ _ (w.heap.size + 1) 23 _ (0, 0) _ rfl (q50 HZ3.out _ _ _) Try.underlying23 rfl (by kernel_rfl)) rfl ⟨rfl, ?_⟩
  exact (((Kp.of_below HB3.out (fun _ => False)).setCell (.inr (by simp)) _).setCell (.inr (by simp)) _ |>.setCell (.inr (by simp)) _).to_below (fun _ h => h.elim))
theorem add_neg2 {w : World} {gm : Nat} {gs : List Nat} {s : List Mb} (h : Holds w gm gs s) (v : Vl) (n : Int) (hn : I64 n) (hvn : I64 v.n) (hv : (v.b == 0 && v.f == 0) = false) (hp : (decide (0 < v.b) && v.f == 0) = true) (m : Mb) (hfd : findS s v.b = some m) (hml : m.l.length ≤ 4096) (hnn : v.n < 0) (hlt : IntKind.i64.wrap (-v.n) ≤ n) :
  Calls Try.prog 29 #[.pointer (some ⟨gm, 0, none⟩), .agg #[.int .i64 v.n, .int .i64 v.b, .int .i64 v.f], .int .i64 n] w fun e w' => e = .returned (.tuple #[.agg #[.int .i64 0, .int .i64 0, .int .i64 0], .int .i64 9]) ∧ Below w.heap.size w w' := by
 unfold I64 at hn hvn
 clear hn hvn
 obtain ⟨g, cap, hM, hf, h0, h1, h2, h3⟩ := h.find hfd
 have HF := Aside0.mk hf
 have HC := Aside0.mk h1
 clear hM hf h0 h1 h2 h3 hfd
 have HH := Aside0.mk h
 have hB := Aside0.mk (q10 (q10 (Below.refl w.heap.size w) (.cells #[.int .i64 v.n, .int .i64 v.b, .int .i64 v.f] 23)) (.cells #[.int .i64 0, .int .i64 0, .int .i64 0] 23))
 have hX := Aside0.mk (q12 (q33 w (.cells #[.int .i64 v.n, .int .i64 v.b, .int .i64 v.f] 23)) (.cells #[.int .i64 0, .int .i64 0, .int .i64 0] 23))
 have hZ := Aside0.mk (q46 (W := w.alloc (.cells #[.int .i64 v.n, .int .i64 v.b, .int .i64 v.f] 23)) (n := w.heap.size + 1) (.cells #[.int .i64 0, .int .i64 0, .int .i64 0] 23) (by simp))
 clear h
 go_enter Try.func29, Try.ntmps29
 go_upto_region 1 with (fail)
 generalize (w.alloc (.cells #[.int .i64 v.n, .int .i64 v.b, .int .i64 v.f] 23)).alloc (.cells #[.int .i64 0, .int .i64 0, .int .i64 0] 23) = W at hB hX hZ ⊢
 have hx := cell3 hX.out
 go_upto_region 4 with (first | (go_at_call 33; refine (q38 v _).mono ?_; rintro e w1 ⟨rfl, hb1⟩; have HX1 := Aside0.mk (q19 hX.out hb1); have HZ1 := Aside0.mk (q19 hZ.out hb1); have HB1 := Aside0.mk (q20 hB.out hb1); clear hx hb1; have hx := cell3 HX1.out) | (go_at_call 35; refine (HF.out _ HB1.out).mono ?_; rintro e w2 ⟨rfl, rfl⟩))
 clear hX hZ hB
 go_upto_region 6 with (first | (go_at_call 34; refine (q34 v _).mono ?_; rintro e w3 ⟨rfl, hb3⟩; have HX3 := Aside0.mk (q19 HX1.out hb3); have HZ3 := Aside0.mk (q19 HZ1.out hb3); have HB3 := Aside0.mk (q20 HB1.out hb3); clear hx hb3; have hx := cell3 HX3.out))
 have hc := q22 HB3.out HC.out
 clear HZ1 HX1 HB1
 have hz := cell3 HZ3.out
 have hf0 := q0 HZ3.out 0
 have hf1 := q0 HZ3.out 1
 have hf2 := q0 HZ3.out 2
 go_wp2_with fail
 all_goals (
  refine bodyPost_ret (q36 rfl _ _ (w.heap.size + 1) 23 _ (0, 0) _ rfl (q50 HZ3.out _ _ _) Try.underlying23 rfl (by kernel_rfl)) rfl ⟨rfl, ?_⟩
  exact (((Kp.of_below HB3.out (fun _ => False)).setCell (.inr (by simp)) _).setCell (.inr (by simp)) _ |>.setCell (.inr (by simp)) _).to_below (fun _ h => h.elim))
theorem add_low {w : World} {gm : Nat} {gs : List Nat} {s : List Mb} (h : Holds w gm gs s) (v : Vl) (n : Int) (hn : I64 n) (hvn : I64 v.n) (hv : (v.b == 0 && v.f == 0) = false) (hp : (decide (0 < v.b) && v.f == 0) = true) (m : Mb) (hfd : findS s v.b = some m) (hml : m.l.length ≤ 4096) (hnn : 0 ≤ v.n) (hlt : n < -v.n) :
  Calls Try.prog 29 #[.pointer (some ⟨gm, 0, none⟩), .agg #[.int .i64 v.n, .int .i64 v.b, .int .i64 v.f], .int .i64 n] w fun e w' => e = .returned (.tuple #[.agg #[.int .i64 0, .int .i64 0, .int .i64 0], .int .i64 9]) ∧ Below w.heap.size w w' := by
 unfold I64 at hn hvn
 have hneg : IntKind.i64.wrap (-v.n) = -v.n := by rw [IntKind.wrap_i64]; omega
 have hneg2 : wrap64 (-v.n) = -v.n := by unfold wrap64; omega
 clear hn hvn
 obtain ⟨g, cap, hM, hf, h0, h1, h2, h3⟩ := h.find hfd
 have HF := Aside0.mk hf
 have HC := Aside0.mk h1
 clear hM hf h0 h1 h2 h3 hfd
 have HH := Aside0.mk h
 have hB := Aside0.mk (q10 (q10 (Below.refl w.heap.size w) (.cells #[.int .i64 v.n, .int .i64 v.b, .int .i64 v.f] 23)) (.cells #[.int .i64 0, .int .i64 0, .int .i64 0] 23))
 have hX := Aside0.mk (q12 (q33 w (.cells #[.int .i64 v.n, .int .i64 v.b, .int .i64 v.f] 23)) (.cells #[.int .i64 0, .int .i64 0, .int .i64 0] 23))
 have hZ := Aside0.mk (q46 (W := w.alloc (.cells #[.int .i64 v.n, .int .i64 v.b, .int .i64 v.f] 23)) (n := w.heap.size + 1) (.cells #[.int .i64 0, .int .i64 0, .int .i64 0] 23) (by simp))
 clear h
 go_enter Try.func29, Try.ntmps29
 go_upto_region 1 with (fail)
 generalize (w.alloc (.cells #[.int .i64 v.n, .int .i64 v.b, .int .i64 v.f] 23)).alloc (.cells #[.int .i64 0, .int .i64 0, .int .i64 0] 23) = W at hB hX hZ ⊢
 have hx := cell3 hX.out
 go_upto_region 4 with (first | (go_at_call 33; refine (q38 v _).mono ?_; rintro e w1 ⟨rfl, hb1⟩; have HX1 := Aside0.mk (q19 hX.out hb1); have HZ1 := Aside0.mk (q19 hZ.out hb1); have HB1 := Aside0.mk (q20 hB.out hb1); clear hx hb1; have hx := cell3 HX1.out) | (go_at_call 35; refine (HF.out _ HB1.out).mono ?_; rintro e w2 ⟨rfl, rfl⟩))
 clear hX hZ hB
 go_upto_region 6 with (first | (go_at_call 34; refine (q34 v _).mono ?_; rintro e w3 ⟨rfl, hb3⟩; have HX3 := Aside0.mk (q19 HX1.out hb3); have HZ3 := Aside0.mk (q19 HZ1.out hb3); have HB3 := Aside0.mk (q20 HB1.out hb3); clear hx hb3; have hx := cell3 HX3.out))
 have hc := q22 HB3.out HC.out
 clear HZ1 HX1 HB1
 have hz := cell3 HZ3.out
 have hf0 := q0 HZ3.out 0
 have hf1 := q0 HZ3.out 1
 have hf2 := q0 HZ3.out 2
 go_wp2_with fail
 all_goals (
  refine bodyPost_ret (q36 rfl _ _ (w.heap.size + 1) 23 _ (0, 0) _ rfl (q50 HZ3.out _ _ _) Try.underlying23 rfl (by kernel_rfl)) rfl ⟨rfl, ?_⟩
  exact (((Kp.of_below HB3.out (fun _ => False)).setCell (.inr (by simp)) _).setCell (.inr (by simp)) _ |>.setCell (.inr (by simp)) _).to_below (fun _ h => h.elim))
theorem add_big {w : World} {gm : Nat} {gs : List Nat} {s : List Mb} (h : Holds w gm gs s) (v : Vl) (n : Int) (hn : I64 n) (hvn : I64 v.n) (hv : (v.b == 0 && v.f == 0) = false) (hp : (decide (0 < v.b) && v.f == 0) = true) (m : Mb) (hfd : findS s v.b = some m) (hml : m.l.length ≤ 4096) (hnn : 0 ≤ v.n) (hlt : -v.n ≤ n) (hbig : (m.l.length : Int) < v.n) :
  Calls Try.prog 29 #[.pointer (some ⟨gm, 0, none⟩), .agg #[.int .i64 v.n, .int .i64 v.b, .int .i64 v.f], .int .i64 n] w fun e w' => e = .returned (.tuple #[.agg #[.int .i64 0, .int .i64 0, .int .i64 0], .int .i64 9]) ∧ Below w.heap.size w w' := by
 unfold I64 at hn hvn
 have hneg : IntKind.i64.wrap (-v.n) = -v.n := by rw [IntKind.wrap_i64]; omega
 have hneg2 : wrap64 (-v.n) = -v.n := by unfold wrap64; omega
 clear hn hvn
 obtain ⟨g, cap, hM, hf, h0, h1, h2, h3⟩ := h.find hfd
 have HF := Aside0.mk hf
 have HC := Aside0.mk h1
 clear hM hf h0 h1 h2 h3 hfd
 have HH := Aside0.mk h
 have hB := Aside0.mk (q10 (q10 (Below.refl w.heap.size w) (.cells #[.int .i64 v.n, .int .i64 v.b, .int .i64 v.f] 23)) (.cells #[.int .i64 0, .int .i64 0, .int .i64 0] 23))
 have hX := Aside0.mk (q12 (q33 w (.cells #[.int .i64 v.n, .int .i64 v.b, .int .i64 v.f] 23)) (.cells #[.int .i64 0, .int .i64 0, .int .i64 0] 23))
 have hZ := Aside0.mk (q46 (W := w.alloc (.cells #[.int .i64 v.n, .int .i64 v.b, .int .i64 v.f] 23)) (n := w.heap.size + 1) (.cells #[.int .i64 0, .int .i64 0, .int .i64 0] 23) (by simp))
 clear h
 go_enter Try.func29, Try.ntmps29
 go_upto_region 1 with (fail)
 generalize (w.alloc (.cells #[.int .i64 v.n, .int .i64 v.b, .int .i64 v.f] 23)).alloc (.cells #[.int .i64 0, .int .i64 0, .int .i64 0] 23) = W at hB hX hZ ⊢
 have hx := cell3 hX.out
 go_upto_region 4 with (first | (go_at_call 33; refine (q38 v _).mono ?_; rintro e w1 ⟨rfl, hb1⟩; have HX1 := Aside0.mk (q19 hX.out hb1); have HZ1 := Aside0.mk (q19 hZ.out hb1); have HB1 := Aside0.mk (q20 hB.out hb1); clear hx hb1; have hx := cell3 HX1.out) | (go_at_call 35; refine (HF.out _ HB1.out).mono ?_; rintro e w2 ⟨rfl, rfl⟩))
 clear hX hZ hB
 go_upto_region 6 with (first | (go_at_call 34; refine (q34 v _).mono ?_; rintro e w3 ⟨rfl, hb3⟩; have HX3 := Aside0.mk (q19 HX1.out hb3); have HZ3 := Aside0.mk (q19 HZ1.out hb3); have HB3 := Aside0.mk (q20 HB1.out hb3); clear hx hb3; have hx := cell3 HX3.out))
 have hc := q22 HB3.out HC.out
 clear HZ1 HX1 HB1
 have hz := cell3 HZ3.out
 have hf0 := q0 HZ3.out 0
 have hf1 := q0 HZ3.out 1
 have hf2 := q0 HZ3.out 2
 go_wp2_with fail
 all_goals (
  refine bodyPost_ret (q36 rfl _ _ (w.heap.size + 1) 23 _ (0, 0) _ rfl (q50 HZ3.out _ _ _) Try.underlying23 rfl (by kernel_rfl)) rfl ⟨rfl, ?_⟩
  exact (((Kp.of_below HB3.out (fun _ => False)).setCell (.inr (by simp)) _).setCell (.inr (by simp)) _ |>.setCell (.inr (by simp)) _).to_below (fun _ h => h.elim))
theorem add_high {w : World} {gm : Nat} {gs : List Nat} {s : List Mb} (h : Holds w gm gs s) (v : Vl) (n : Int) (hn : I64 n) (hvn : I64 v.n) (hv : (v.b == 0 && v.f == 0) = false) (hp : (decide (0 < v.b) && v.f == 0) = true) (m : Mb) (hfd : findS s v.b = some m) (hml : m.l.length ≤ 4096) (hnn : 0 ≤ v.n) (hlt : -v.n ≤ n) (hbig : v.n ≤ (m.l.length : Int)) (hh : (m.l.length : Int) - v.n < n) :
  Calls Try.prog 29 #[.pointer (some ⟨gm, 0, none⟩), .agg #[.int .i64 v.n, .int .i64 v.b, .int .i64 v.f], .int .i64 n] w fun e w' => e = .returned (.tuple #[.agg #[.int .i64 0, .int .i64 0, .int .i64 0], .int .i64 9]) ∧ Below w.heap.size w w' := by
 unfold I64 at hn hvn
 have hneg : IntKind.i64.wrap (-v.n) = -v.n := by rw [IntKind.wrap_i64]; omega
 have hneg2 : wrap64 (-v.n) = -v.n := by unfold wrap64; omega
 have hsub : IntKind.i64.wrap ((m.l.length : Int) - v.n) = (m.l.length : Int) - v.n := by rw [IntKind.wrap_i64]; omega
 have hsub2 : wrap64 ((m.l.length : Int) - v.n) = (m.l.length : Int) - v.n := by unfold wrap64; omega
 clear hn hvn
 obtain ⟨g, cap, hM, hf, h0, h1, h2, h3⟩ := h.find hfd
 have HF := Aside0.mk hf
 have HC := Aside0.mk h1
 clear hM hf h0 h1 h2 h3 hfd
 have HH := Aside0.mk h
 have hB := Aside0.mk (q10 (q10 (Below.refl w.heap.size w) (.cells #[.int .i64 v.n, .int .i64 v.b, .int .i64 v.f] 23)) (.cells #[.int .i64 0, .int .i64 0, .int .i64 0] 23))
 have hX := Aside0.mk (q12 (q33 w (.cells #[.int .i64 v.n, .int .i64 v.b, .int .i64 v.f] 23)) (.cells #[.int .i64 0, .int .i64 0, .int .i64 0] 23))
 have hZ := Aside0.mk (q46 (W := w.alloc (.cells #[.int .i64 v.n, .int .i64 v.b, .int .i64 v.f] 23)) (n := w.heap.size + 1) (.cells #[.int .i64 0, .int .i64 0, .int .i64 0] 23) (by simp))
 clear h
 go_enter Try.func29, Try.ntmps29
 go_upto_region 1 with (fail)
 generalize (w.alloc (.cells #[.int .i64 v.n, .int .i64 v.b, .int .i64 v.f] 23)).alloc (.cells #[.int .i64 0, .int .i64 0, .int .i64 0] 23) = W at hB hX hZ ⊢
 have hx := cell3 hX.out
 go_upto_region 4 with (first | (go_at_call 33; refine (q38 v _).mono ?_; rintro e w1 ⟨rfl, hb1⟩; have HX1 := Aside0.mk (q19 hX.out hb1); have HZ1 := Aside0.mk (q19 hZ.out hb1); have HB1 := Aside0.mk (q20 hB.out hb1); clear hx hb1; have hx := cell3 HX1.out) | (go_at_call 35; refine (HF.out _ HB1.out).mono ?_; rintro e w2 ⟨rfl, rfl⟩))
 clear hX hZ hB
 go_upto_region 6 with (first | (go_at_call 34; refine (q34 v _).mono ?_; rintro e w3 ⟨rfl, hb3⟩; have HX3 := Aside0.mk (q19 HX1.out hb3); have HZ3 := Aside0.mk (q19 HZ1.out hb3); have HB3 := Aside0.mk (q20 HB1.out hb3); clear hx hb3; have hx := cell3 HX3.out))
 have hc := q22 HB3.out HC.out
 clear HZ1 HX1 HB1
 have hz := cell3 HZ3.out
 have hf0 := q0 HZ3.out 0
 have hf1 := q0 HZ3.out 1
 have hf2 := q0 HZ3.out 2
 go_wp2_with fail
 all_goals (
  refine bodyPost_ret (q36 rfl _ _ (w.heap.size + 1) 23 _ (0, 0) _ rfl (q50 HZ3.out _ _ _) Try.underlying23 rfl (by kernel_rfl)) rfl ⟨rfl, ?_⟩
  exact (((Kp.of_below HB3.out (fun _ => False)).setCell (.inr (by simp)) _).setCell (.inr (by simp)) _ |>.setCell (.inr (by simp)) _).to_below (fun _ h => h.elim))
theorem add_good {w : World} {gm : Nat} {gs : List Nat} {s : List Mb} (h : Holds w gm gs s) (v : Vl) (n : Int) (hn : I64 n) (hvn : I64 v.n) (hv : (v.b == 0 && v.f == 0) = false) (hp : (decide (0 < v.b) && v.f == 0) = true) (m : Mb) (hfd : findS s v.b = some m) (hml : m.l.length ≤ 4096) (hnn : 0 ≤ v.n) (hlt : -v.n ≤ n) (hbig : v.n ≤ (m.l.length : Int)) (hh : n ≤ (m.l.length : Int) - v.n) :
  Calls Try.prog 29 #[.pointer (some ⟨gm, 0, none⟩), .agg #[.int .i64 v.n, .int .i64 v.b, .int .i64 v.f], .int .i64 n] w fun e w' => e = .returned (.tuple #[.agg #[.int .i64 (v.n + n), .int .i64 v.b, .int .i64 0], .int .i64 0]) ∧ Below w.heap.size w w' := by
 unfold I64 at hn hvn
 have hneg : IntKind.i64.wrap (-v.n) = -v.n := by rw [IntKind.wrap_i64]; omega
 have hneg2 : wrap64 (-v.n) = -v.n := by unfold wrap64; omega
 have hsub : IntKind.i64.wrap ((m.l.length : Int) - v.n) = (m.l.length : Int) - v.n := by rw [IntKind.wrap_i64]; omega
 have hsub2 : wrap64 ((m.l.length : Int) - v.n) = (m.l.length : Int) - v.n := by unfold wrap64; omega
 have hsum : IntKind.i64.wrap (v.n + n) = v.n + n := by rw [IntKind.wrap_i64]; omega
 have hsum2 : wrap64 (v.n + n) = v.n + n := by unfold wrap64; omega
 clear hn hvn
 obtain ⟨g, cap, hM, hf, h0, h1, h2, h3⟩ := h.find hfd
 have HF := Aside0.mk hf
 have HC := Aside0.mk h1
 clear hM hf h0 h1 h2 h3 hfd
 have HH := Aside0.mk h
 have hB := Aside0.mk (q10 (q10 (Below.refl w.heap.size w) (.cells #[.int .i64 v.n, .int .i64 v.b, .int .i64 v.f] 23)) (.cells #[.int .i64 0, .int .i64 0, .int .i64 0] 23))
 have hX := Aside0.mk (q12 (q33 w (.cells #[.int .i64 v.n, .int .i64 v.b, .int .i64 v.f] 23)) (.cells #[.int .i64 0, .int .i64 0, .int .i64 0] 23))
 have hZ := Aside0.mk (q46 (W := w.alloc (.cells #[.int .i64 v.n, .int .i64 v.b, .int .i64 v.f] 23)) (n := w.heap.size + 1) (.cells #[.int .i64 0, .int .i64 0, .int .i64 0] 23) (by simp))
 clear h
 go_enter Try.func29, Try.ntmps29
 go_upto_region 1 with (fail)
 generalize (w.alloc (.cells #[.int .i64 v.n, .int .i64 v.b, .int .i64 v.f] 23)).alloc (.cells #[.int .i64 0, .int .i64 0, .int .i64 0] 23) = W at hB hX hZ ⊢
 have hx := cell3 hX.out
 go_upto_region 4 with (first | (go_at_call 33; refine (q38 v _).mono ?_; rintro e w1 ⟨rfl, hb1⟩; have HX1 := Aside0.mk (q19 hX.out hb1); have HZ1 := Aside0.mk (q19 hZ.out hb1); have HB1 := Aside0.mk (q20 hB.out hb1); clear hx hb1; have hx := cell3 HX1.out) | (go_at_call 35; refine (HF.out _ HB1.out).mono ?_; rintro e w2 ⟨rfl, rfl⟩))
 clear hX hZ hB
 go_upto_region 6 with (first | (go_at_call 34; refine (q34 v _).mono ?_; rintro e w3 ⟨rfl, hb3⟩; have HX3 := Aside0.mk (q19 HX1.out hb3); have HZ3 := Aside0.mk (q19 HZ1.out hb3); have HB3 := Aside0.mk (q20 HB1.out hb3); clear hx hb3; have hx := cell3 HX3.out))
 have hc := q22 HB3.out HC.out
 clear HZ1 HX1 HB1
 have hz := cell3 HZ3.out
 have hf0 := q0 HZ3.out 0
 have hf1 := q0 HZ3.out 1
 have hf2 := q0 HZ3.out 2
 go_wp2_with fail
 all_goals (
  refine bodyPost_ret (q36 rfl _ _ (w.heap.size + 1) 23 _ (0, 0) _ rfl (q50 HZ3.out _ _ _) Try.underlying23 rfl (by kernel_rfl)) rfl ⟨rfl, ?_⟩
  exact (((Kp.of_below HB3.out (fun _ => False)).setCell (.inr (by simp)) _).setCell (.inr (by simp)) _ |>.setCell (.inr (by simp)) _).to_below (fun _ h => h.elim))
theorem add_calls {w : World} {gm : Nat} {gs : List Nat} {s : List Mb} (h : Holds w gm gs s) (hI : Inv s) (v : Vl) (n : Int) (hn : I64 n) (hvn : I64 v.n) :
  Calls Try.prog 29 #[.pointer (some ⟨gm, 0, none⟩), .agg #[.int .i64 v.n, .int .i64 v.b, .int .i64 v.f], .int .i64 n] w fun e w' => e = .returned (.tuple #[.agg #[.int .i64 (addS s v n).1.n, .int .i64 (addS s v n).1.b, .int .i64 (addS s v n).1.f], .int .i64 (addS s v n).2]) ∧ Below w.heap.size w w' := by
 unfold addS
 cases hv : (v.b == 0 && v.f == 0) with
 | true => rw [if_pos rfl]; exact add_num h v n hv
 | false =>
  rw [if_neg (by decide)]
  cases hfd : findS s v.b with
  | none =>
   have := add_none h v n hv hfd
   split <;> exact this
  | some m =>
   have hml : m.l.length ≤ 4096 := by
    unfold findS at hfd
    split at hfd
    ·exact hI.small m (List.mem_of_getElem? hfd)
    ·cases hfd
   cases hp : (decide (0 < v.b) && v.f == 0) with
   | false => rw [if_neg (by decide)]; exact add_part h v n hv hp m hfd
   | true =>
    rw [if_pos rfl]
    simp only
    by_cases c1 : v.n < 0
    ·rw [if_neg (by omega)]
     by_cases c2 : n < IntKind.i64.wrap (-v.n)
     ·exact add_neg h v n hn hvn hv hp m hfd hml c1 c2
     ·exact add_neg2 h v n hn hvn hv hp m hfd hml c1 (by omega)
    ·by_cases c2 : n < -v.n
     ·rw [if_neg (by omega)]
      exact add_low h v n hn hvn hv hp m hfd hml (by omega) c2
     ·by_cases c3 : (m.l.length : Int) < v.n
      ·rw [if_neg (by omega)]
       exact add_big h v n hn hvn hv hp m hfd hml (by omega) (by omega) c3
      ·by_cases c4 : (m.l.length : Int) - v.n < n
       ·rw [if_neg (by omega)]
        exact add_high h v n hn hvn hv hp m hfd hml (by omega) (by omega) (by omega) c4
       ·rw [if_pos (by omega)]
        exact add_good h v n hn hvn hv hp m hfd hml (by omega) (by omega) (by omega) (by omega)
end Go.Proofs.Yteogfjhmjlelnaa.G
set_option linter.unusedVariables false
set_option linter.unusedSimpArgs false
namespace Go.Proofs.Yteogfjhmjlelnaa.G
open Go.RowKit Go.Proofs.Yteogfjhmjlelnaa.B Go.Proofs.YteogfjhmjlelnaaW.PrintWords Go.Proofs.YteogfjhmjlelnaaW.PrintLast Go.Proofs.YteogfjhmjlelnaaW.PrintMore
def Plain (t : Nat) : Prop := t ≠ 73 ∧ t ≠ 42 ∧ t ≠ 75
section
variable {w W W' : World} {gm g t : Nat} {gs gs' X : List Nat} {s s' : List Mb} {c : Array Value} {fz : Nat × Nat}
theorem Live.apart (h : Live w W gm gs s) (hx : W.heap[g]? = some (.cells c t fz)) (ht : Plain t) : g ≠ gm ∧ g ∉ gs ∧ ¬ RowOf W gm g := by
  refine ⟨fun he => ?_, fun hg => ?_, fun hr => ?_⟩
  · obtain ⟨v, hM⟩ := h.mine.holds.mem
    subst he
    have := hM.box
    rw [hx] at this
    injection this with this
    injection this with _ this
    exact ht.1 this
  · have hH := h.mine.holds
    obtain ⟨i, hi⟩ := List.mem_iff_getElem?.1 hg
    have hl := (List.getElem?_eq_some_iff.1 hi).1
    have := (hH.bytes i g _ hi (List.getElem?_eq_getElem (by rw [← hH.len]; exact hl))).1
    rw [Bytes, hx] at this
    injection this with this
    injection this with _ this
    exact ht.2.1 this
  · obtain ⟨c', fr', hc⟩ := h.mine.holds.rowty g hr
    rw [hx] at hc
    injection hc with hc
    injection hc with _ hc
    exact ht.2.2 hc
theorem Live.boxed (h : Live w W gm gs s) (hx : W.heap[g]? = some (.cells c t fz)) (ht : Plain t) (hF : Fr W W' gm gs) : W'.heap[g]? = some (.cells c t fz) := by
  obtain ⟨h1, h2, h3⟩ := h.apart hx ht
  refine (hF.block g (q30 hx) ?_).trans hx
  rintro (hs | hs | hs)
  · exact h1 hs
  · exact h2 hs
  · exact h3 hs.2
theorem Live.put (h : Live w W gm gs s) (hx : W.heap[g]? = some (.cells c t fz)) (ht : Plain t) (hg : w.heap.size ≤ g) (o : Nat) (u : Value) : Live w (W.setCell ⟨g, o, none⟩ u) gm gs s := by
  obtain ⟨h1, h2, h3⟩ := h.apart hx ht
  have hk : Kp W (W.setCell ⟨g, o, none⟩ u) (· = g) := (Kp.refl W (· = g)).setCell (.inl rfl) _
  have hH := h.mine.holds
  have hb : Below w.heap.size w (W.setCell ⟨g, o, none⟩ u) := (((Kp.of_below h.mine.below (fun k => w.heap.size ≤ k)).setCell (.inl hg) u).to_below (fun _ hk => hk))
  refine ⟨⟨⟨?_, hH.len, hH.nodup, hH.above, fun i g' m hi hm => ?_⟩, hb, h.mine.base⟩, by have := h.size; simpa [World.setCell] using this⟩
  · obtain ⟨v, hM⟩ := hH.mem
    refine ⟨v, blk_kp hM.box hk (fun he => h1 he.symm), own_move hM.row (fun k hk' => hk.block k (by obtain ⟨c', hc⟩ := q42 hM.row k hk'; exact q30 hc) (fun he => ?_))⟩
    subst he
    exact h3 ⟨v, hM.box, hk'⟩
  · have hb := hH.bytes i g' m hi hm
    exact ⟨blk_kp hb.1 hk (fun he => h2 (he ▸ List.mem_of_getElem? hi)), hb.2⟩
def okR (W : World) (gm : Nat) (gs X : List Nat) (k : Nat) : Prop := k ≠ gm ∧ k ∉ gs ∧ k ∉ X ∧ ¬ RowOf W gm k
structure RV (W : World) (gm : Nat) (gs X : List Nat) (v : Value) (s : List Mb) : Prop where
  val : Kd.V H.k69 69 W 0 (okR W gm gs X) v (eR s)
theorem RV.nil (W : World) (gm : Nat) (gs : List Nat) : RV W gm gs [] (.slice none 0 0) [] := ⟨Kd.V_nil _ _ _ _ _⟩
theorem RV.form {v : Value} (h : RV W gm gs X v s) : ∃ A cp, v = .slice A (eR s).length cp := by
  obtain ⟨A, cp, hv, _⟩ := h.val
  exact ⟨A, cp, hv⟩
theorem RV.fr {v : Value} {s0 : List Mb} (h : RV W gm gs X v s) (hL : Live w W gm gs s0) (hF : Fr W W' gm gs) (hg : ∀ g ∈ gs', g ∈ gs ∨ W.heap.size ≤ g) : RV W' gm gs' X v s := by
  have hgm := hL.mine.holds.lt.1
  refine ⟨Kd.V_mono (Kd.V_step (Kd.V_bound h.val) (fun k hk hlt => hF.block k hlt ?_)) ?_⟩
  · rintro (hs | hs | hs)
    · exact hk.1.1 hs
    · exact hk.1.2.1 hs
    · exact hk.1.2.2.2 hs.2
  · rintro k ⟨⟨k1, k2, k3, k4⟩, k5⟩
    refine ⟨k1, fun hm => ?_, k3, fun hr => ?_⟩
    · rcases hg k hm with hm | hm
      · exact k2 hm
      · omega
    · rcases hF.row hgm k hr with hr | hr
      · exact k4 hr
      · omega
theorem RV.below {v : Value} {s0 : List Mb} (h : RV W gm gs X v s) (hL : Live w W gm gs s0) (hb : Below W.heap.size W W') : RV W' gm gs X v s := h.fr hL (Fr.below hb _ _) (fun _ hg => .inl hg)
theorem RV.box {v : Value} {s0 : List Mb} (h : RV W gm gs X v s) (hL : Live w W gm gs s0) (o : Obj) : RV (W.alloc o) gm gs (W.heap.size :: X) v s := by
  have hgm := hL.mine.holds.lt.1
  have hb := q10 (Below.refl W.heap.size W) o
  refine ⟨Kd.V_mono (Kd.V_below (Kd.V_bound h.val) hb) ?_⟩
  rintro k ⟨⟨k1, k2, k3, k4⟩, k5⟩
  refine ⟨k1, k2, fun hm => ?_, fun hr => k4 (hr.same (hb.block gm hgm))⟩
  rcases List.mem_cons.1 hm with hm | hm
  · omega
  · exact k3 hm
theorem RV.put {v : Value} (h : RV W gm gs X v s) (hx : g ∈ X) (hg : g ≠ gm) (o : Nat) (u : Value) : RV (W.setCell ⟨g, o, none⟩ u) gm gs X v s := by
  have hk : Kp W (W.setCell ⟨g, o, none⟩ u) (· = g) := (Kp.refl W (· = g)).setCell (.inl rfl) _
  refine ⟨Kd.V_mono (Kd.V_step h.val (fun k hk' hlt => hk.block k hlt (fun he => hk'.2.2.1 (he ▸ hx)))) ?_⟩
  rintro k ⟨k1, k2, k3, k4⟩
  refine ⟨k1, k2, k3, fun hr => k4 (hr.same ?_)⟩
  by_cases hlt : gm < W.heap.size
  · exact hk.block gm hlt (fun he => hg he.symm)
  · obtain ⟨v', h1, _⟩ := hr
    have := q30 h1
    simp [World.setCell] at this
    omega
theorem RV.drop {v : Value} (h : RV W gm gs X v s) : RV W gm gs [] v s := ⟨Kd.V_mono h.val (fun k hk => ⟨hk.1, hk.2.1, by simp, hk.2.2.2⟩)⟩
theorem RV.ref {v : Value} {b : Nat} {s0 : List Mb} (hL : Live w W gm gs s0) (hX : ∀ x ∈ X, x < W.heap.size) (hv : Kd.V H.k69 69 W' b (fun k => okR W gm gs X k ∨ W.heap.size ≤ k) v (eR s)) (hb : Below W.heap.size W W') : RV W' gm gs X v s := by
  obtain ⟨hgm, hgs⟩ := hL.mine.holds.lt
  have hrow : ∀ k, RowOf W gm k → k < W.heap.size := fun k hk => by
    obtain ⟨c', fr', hc⟩ := hL.mine.holds.rowty k hk
    exact q30 hc
  refine ⟨Kd.V_mono hv ?_⟩
  rintro k (⟨k1, k2, k3, k4⟩ | hk)
  · exact ⟨k1, k2, k3, fun hr => k4 (hr.same (hb.block gm hgm))⟩
  · exact ⟨by omega, fun hm => by have := hgs k hm; omega, fun hm => by have := hX k hm; omega, fun hr => by have := hrow k (hr.same (hb.block gm hgm)); omega⟩
end
end Go.Proofs.Yteogfjhmjlelnaa.G
set_option linter.unusedVariables false
set_option linter.unusedSimpArgs false
namespace Go.Proofs.Yteogfjhmjlelnaa.G
open Go.RowKit Go.Proofs.Yteogfjhmjlelnaa.B Go.Proofs.YteogfjhmjlelnaaW.PrintWords Go.Proofs.YteogfjhmjlelnaaW.PrintLast Go.Proofs.YteogfjhmjlelnaaW.PrintMore
theorem Row.C {W : World} {b : Nat} {A : Option Addr} {n c : Nat} {l : List Bt} (h : Row W b (.slice A n c) l) : n = l.length ∧ n ≤ c ∧ Kd.C H.k42 W A (l.map e42).length (l.map e42) := by
 have h2 := h.2
 obtain ⟨A', c', he, hm, hr⟩ := h.form
 injection he with h1 h3 h4
 subst h1
 subst h3
 subst h4
 refine ⟨rfl, ?_, rfl, by simpa [maxLen] using hm, fun hpos => ?_⟩
 ·rcases h2 with ⟨hv, h1⟩ | ⟨g, cap, cur, hv, hg, hh, hc, _⟩
  ·injection hv with _ h5 h6
   omega
  ·injection hv with _ _ h6
   omega
 ·have hl : 0 < l.length := by simpa using hpos
  obtain ⟨g, hg, _⟩ := hr 0 _ (List.getElem?_eq_getElem hl)
  subst hg
  refine ⟨⟨g, 0, none⟩, rfl, fun j p hj => ?_⟩
  rw [List.getElem?_map] at hj
  obtain ⟨x, hx, rfl⟩ := Option.map_eq_some_iff.1 hj
  obtain ⟨g', hg', hc⟩ := hr j x hx
  injection hg' with hg'
  injection hg' with hg'
  subst hg'
  refine ⟨x.cells, rfl, ⟨_, _, rfl, rfl, ⟨_, _, rfl, rfl, ⟨_, _, rfl, rfl, ⟨_, _, rfl, rfl, rfl⟩⟩⟩⟩, fun i u hu => ?_⟩
  show W.cell? ((⟨g, 0, none⟩ : Addr).add (j * 5 + i)) = some u
  rw [show (⟨g, 0, none⟩ : Addr).add (j * 5 + i) = ⟨g, j * 5 + i, none⟩ by unfold Addr.add; split <;> simp_all]
  have hi : i < 5 := by have := (List.getElem?_eq_some_iff.1 hu).1; simpa [Bt.cells] using this
  have : i = 0 ∨ i = 1 ∨ i = 2 ∨ i = 3 ∨ i = 4 := by omega
  rcases this with rfl | rfl | rfl | rfl | rfl <;> (injection hu with hu; subst hu)
  ·exact hc.1
  ·exact hc.2.1
  ·exact hc.2.2.1
  ·exact hc.2.2.2.1
  ·exact hc.2.2.2.2
theorem blk_put5' {W : World} {g t : Nat} {a b c d e : Value} (h : W.heap[g]? = some (.cells #[a, b, c, d, e] t (0, 0))) (a' b' c' d' e' : Value) :
  (((((W.setCell ⟨g, 0, none⟩ a').setCell ⟨g, 1, none⟩ b').setCell ⟨g, 2, none⟩ c').setCell ⟨g, 3, none⟩ d').setCell ⟨g, 4, none⟩ e').heap[g]? = some (.cells #[a', b', c', d', e'] t (0, 0)) :=
 q28 (q28 (q28 (q28 (q28 h 0 a' rfl) 1 b' rfl) 2 c' rfl) 3 d' rfl) 4 e' rfl
theorem below_put5' {w0 W : World} {g : Nat} (h : Below w0.heap.size w0 W) (hg : w0.heap.size ≤ g) (a' b' c' d' e' : Value) :
  Below w0.heap.size w0 (((((W.setCell ⟨g, 0, none⟩ a').setCell ⟨g, 1, none⟩ b').setCell ⟨g, 2, none⟩ c').setCell ⟨g, 3, none⟩ d').setCell ⟨g, 4, none⟩ e') :=
 (kp_put5 ((Kp.of_below h (fun k => w0.heap.size ≤ k))) hg _ _ _ _ _ _ _ _ _ _).to_below (fun _ hk => hk)
theorem Row.far {W W' : World} {b g : Nat} {v : Value} {l : List Bt} (h : Row W b v l) (hg : some g ≠ v.ownBlock) (hk : ∀ k, k < W.heap.size → k ≠ g → W'.heap[k]? = W.heap[k]?) : Row W' b v l :=
 own_move h (fun k hk' => by
  obtain ⟨c, hc⟩ := q42 h k hk'
  exact hk k (q30 hc) (fun he => hg (by rw [hk', he])))
def VS (W : World) (P : Nat → Prop) (v : Value) (s : List Mb) : Prop := Kd.V H.k69 69 W 0 P v (eR s)
set_option maxHeartbeats 8000000 in
theorem rstore_acc (P : Nat → Prop) (A0 : Option Addr) (c0 : Nat) (s : List Mb) (hI : Inv s) (p x : Vl) (hb : I64 p.b) (k : Int) (w : World) (hV : Kd.V H.k69 69 w 0 P (.slice A0 (eR s).length c0) (eR s)) (er : Int) (her : (er != 0) = true) (hac : (if isW k = true then (if (okS s p k).isSome = true then (0 : Int) else 9) else 1) = er) :
  Calls Try.prog 26 #[.slice A0 (eR s).length c0, .agg #[.int .i64 p.n, .int .i64 p.b, .int .i64 p.f], .int .i64 k, .agg #[.int .i64 x.n, .int .i64 x.b, .int .i64 x.f]] w fun e w' => e = .returned (.tuple #[.slice A0 (eR s).length c0, .int .i64 er]) ∧ VS w' P (.slice A0 (eR s).length c0) s ∧ Below w.heap.size w w' := by
 have hacc := access_eq hI p hb k 8999
 rw [hac] at hacc
 have HI := Aside0.mk hI
 have HPB := Aside0.mk hb
 have HB := Aside0.mk (q10 (q10 (Below.refl w.heap.size w) (.cells #[.int .i64 p.n, .int .i64 p.b, .int .i64 p.f] 23)) (.cells #[.int .i64 x.n, .int .i64 x.b, .int .i64 x.f] 23))
 have hX := Aside0.mk (q12 (q33 w (.cells #[.int .i64 p.n, .int .i64 p.b, .int .i64 p.f] 23)) (.cells #[.int .i64 x.n, .int .i64 x.b, .int .i64 x.f] 23))
 have hZ := Aside0.mk (q46 (W := w.alloc (.cells #[.int .i64 p.n, .int .i64 p.b, .int .i64 p.f] 23)) (n := w.heap.size + 1) (.cells #[.int .i64 x.n, .int .i64 x.b, .int .i64 x.f] 23) (by simp))
 have HV := Aside0.mk (Kd.V_alloc (Kd.V_alloc hV (.cells #[.int .i64 p.n, .int .i64 p.b, .int .i64 p.f] 23)) (.cells #[.int .i64 x.n, .int .i64 x.b, .int .i64 x.f] 23))
 have HACC := Aside0.mk hacc
 clear hacc
 clear hI hb hV
 go_enter Try.func26, Try.ntmps26
 go_upto_region 1 with (fail)
 generalize (w.alloc (.cells #[.int .i64 p.n, .int .i64 p.b, .int .i64 p.f] 23)).alloc (.cells #[.int .i64 x.n, .int .i64 x.b, .int .i64 x.f] 23) = W at HB hX hZ HV ⊢
 have hx := cell3 hX.out
 go_upto_region 2 with (first | (go_at_call 39; refine (H.crosstreeref10_access.calls 9000 A0 c0 (eR s) p.n p.b p.f k _ _ (Kd.V_reads' HV.out).2.2 (Kd.V_reads' HV.out).2.1 HACC.out).mono ?_; rintro e w1 ⟨rfl, hb1⟩; have HX1 := Aside0.mk (q19 hX.out hb1); have HZ1 := Aside0.mk (q19 hZ.out hb1); have HB1 := Aside0.mk (q20 HB.out hb1); have HV1 := Aside0.mk (Kd.V_below HV.out hb1); clear hb1))
 clear hx hX hZ HB HV HACC
 go_wp2_with fail
 go_ret2
 exact ⟨rfl, HV1.out, HB1.out⟩
set_option maxHeartbeats 8000000 in
theorem rstore_no1 (P : Nat → Prop) (A0 : Option Addr) (c0 : Nat) (s : List Mb) (hI : Inv s) (p x : Vl) (hb : I64 p.b) (k : Int) (w : World) (hV : Kd.V H.k69 69 w 0 P (.slice A0 (eR s).length c0) (eR s)) (hac : (if isW k = true then (if (okS s p k).isSome = true then (0 : Int) else 9) else 1) = 0) (hp : (decide (0 < x.b) && x.f == 0) = true) (hk8 : (k != 8) = true) :
  Calls Try.prog 26 #[.slice A0 (eR s).length c0, .agg #[.int .i64 p.n, .int .i64 p.b, .int .i64 p.f], .int .i64 k, .agg #[.int .i64 x.n, .int .i64 x.b, .int .i64 x.f]] w fun e w' => e = .returned (.tuple #[.slice A0 (eR s).length c0, .int .i64 9]) ∧ VS w' P (.slice A0 (eR s).length c0) s ∧ Below w.heap.size w w' := by
 have hacc := access_eq hI p hb k 8999
 rw [hac] at hacc
 have HI := Aside0.mk hI
 have HPB := Aside0.mk hb
 have HB := Aside0.mk (q10 (q10 (Below.refl w.heap.size w) (.cells #[.int .i64 p.n, .int .i64 p.b, .int .i64 p.f] 23)) (.cells #[.int .i64 x.n, .int .i64 x.b, .int .i64 x.f] 23))
 have hX := Aside0.mk (q12 (q33 w (.cells #[.int .i64 p.n, .int .i64 p.b, .int .i64 p.f] 23)) (.cells #[.int .i64 x.n, .int .i64 x.b, .int .i64 x.f] 23))
 have hZ := Aside0.mk (q46 (W := w.alloc (.cells #[.int .i64 p.n, .int .i64 p.b, .int .i64 p.f] 23)) (n := w.heap.size + 1) (.cells #[.int .i64 x.n, .int .i64 x.b, .int .i64 x.f] 23) (by simp))
 have HV := Aside0.mk (Kd.V_alloc (Kd.V_alloc hV (.cells #[.int .i64 p.n, .int .i64 p.b, .int .i64 p.f] 23)) (.cells #[.int .i64 x.n, .int .i64 x.b, .int .i64 x.f] 23))
 have HACC := Aside0.mk hacc
 clear hacc
 clear hI hb hV
 go_enter Try.func26, Try.ntmps26
 go_upto_region 1 with (fail)
 generalize (w.alloc (.cells #[.int .i64 p.n, .int .i64 p.b, .int .i64 p.f] 23)).alloc (.cells #[.int .i64 x.n, .int .i64 x.b, .int .i64 x.f] 23) = W at HB hX hZ HV ⊢
 have hx := cell3 hX.out
 go_upto_region 2 with (first | (go_at_call 39; refine (H.crosstreeref10_access.calls 9000 A0 c0 (eR s) p.n p.b p.f k _ _ (Kd.V_reads' HV.out).2.2 (Kd.V_reads' HV.out).2.1 HACC.out).mono ?_; rintro e w1 ⟨rfl, hb1⟩; have HX1 := Aside0.mk (q19 hX.out hb1); have HZ1 := Aside0.mk (q19 hZ.out hb1); have HB1 := Aside0.mk (q20 HB.out hb1); have HV1 := Aside0.mk (Kd.V_below HV.out hb1); clear hb1))
 clear hx hX hZ HB HV HACC
 have hz := cell3 HZ1.out
 go_upto_region 5 with (first | (go_at_call 40; refine (H.crosstreeref10_Pointer.calls x.n x.b x.f _ _ (ptr_eq x)).mono ?_; rintro e w2 ⟨rfl, hb2⟩; have HX2 := Aside0.mk (q19 HX1.out hb2); have HZ2 := Aside0.mk (q19 HZ1.out hb2); have HB2 := Aside0.mk (q20 HB1.out hb2); have HV2 := Aside0.mk (Kd.V_below HV1.out hb2); clear hz hb2; have hz := cell3 HZ2.out))
 go_wp2_with fail
 go_ret2
 exact ⟨rfl, HV2.out, HB2.out⟩
set_option maxHeartbeats 8000000 in
theorem rstore_no2 (P : Nat → Prop) (A0 : Option Addr) (c0 : Nat) (s : List Mb) (hI : Inv s) (p x : Vl) (hb : I64 p.b) (k : Int) (w : World) (hV : Kd.V H.k69 69 w 0 P (.slice A0 (eR s).length c0) (eR s)) (hac : (if isW k = true then (if (okS s p k).isSome = true then (0 : Int) else 9) else 1) = 0) (hp : (decide (0 < x.b) && x.f == 0) = false) (hf : (x.f != 0) = true) (hk1 : (k != 1) = true) :
  Calls Try.prog 26 #[.slice A0 (eR s).length c0, .agg #[.int .i64 p.n, .int .i64 p.b, .int .i64 p.f], .int .i64 k, .agg #[.int .i64 x.n, .int .i64 x.b, .int .i64 x.f]] w fun e w' => e = .returned (.tuple #[.slice A0 (eR s).length c0, .int .i64 9]) ∧ VS w' P (.slice A0 (eR s).length c0) s ∧ Below w.heap.size w w' := by
 have hacc := access_eq hI p hb k 8999
 rw [hac] at hacc
 have HI := Aside0.mk hI
 have HPB := Aside0.mk hb
 have HB := Aside0.mk (q10 (q10 (Below.refl w.heap.size w) (.cells #[.int .i64 p.n, .int .i64 p.b, .int .i64 p.f] 23)) (.cells #[.int .i64 x.n, .int .i64 x.b, .int .i64 x.f] 23))
 have hX := Aside0.mk (q12 (q33 w (.cells #[.int .i64 p.n, .int .i64 p.b, .int .i64 p.f] 23)) (.cells #[.int .i64 x.n, .int .i64 x.b, .int .i64 x.f] 23))
 have hZ := Aside0.mk (q46 (W := w.alloc (.cells #[.int .i64 p.n, .int .i64 p.b, .int .i64 p.f] 23)) (n := w.heap.size + 1) (.cells #[.int .i64 x.n, .int .i64 x.b, .int .i64 x.f] 23) (by simp))
 have HV := Aside0.mk (Kd.V_alloc (Kd.V_alloc hV (.cells #[.int .i64 p.n, .int .i64 p.b, .int .i64 p.f] 23)) (.cells #[.int .i64 x.n, .int .i64 x.b, .int .i64 x.f] 23))
 have HACC := Aside0.mk hacc
 clear hacc
 clear hI hb hV
 go_enter Try.func26, Try.ntmps26
 go_upto_region 1 with (fail)
 generalize (w.alloc (.cells #[.int .i64 p.n, .int .i64 p.b, .int .i64 p.f] 23)).alloc (.cells #[.int .i64 x.n, .int .i64 x.b, .int .i64 x.f] 23) = W at HB hX hZ HV ⊢
 have hx := cell3 hX.out
 go_upto_region 2 with (first | (go_at_call 39; refine (H.crosstreeref10_access.calls 9000 A0 c0 (eR s) p.n p.b p.f k _ _ (Kd.V_reads' HV.out).2.2 (Kd.V_reads' HV.out).2.1 HACC.out).mono ?_; rintro e w1 ⟨rfl, hb1⟩; have HX1 := Aside0.mk (q19 hX.out hb1); have HZ1 := Aside0.mk (q19 hZ.out hb1); have HB1 := Aside0.mk (q20 HB.out hb1); have HV1 := Aside0.mk (Kd.V_below HV.out hb1); clear hb1))
 clear hx hX hZ HB HV HACC
 have hz := cell3 HZ1.out
 go_upto_region 5 with (first | (go_at_call 40; refine (H.crosstreeref10_Pointer.calls x.n x.b x.f _ _ (ptr_eq x)).mono ?_; rintro e w2 ⟨rfl, hb2⟩; have HX2 := Aside0.mk (q19 HX1.out hb2); have HZ2 := Aside0.mk (q19 HZ1.out hb2); have HB2 := Aside0.mk (q20 HB1.out hb2); have HV2 := Aside0.mk (Kd.V_below HV1.out hb2); clear hz hb2; have hz := cell3 HZ2.out))
 go_wp2_with fail
 go_ret2
 exact ⟨rfl, HV2.out, HB2.out⟩
set_option maxRecDepth 100000 in
set_option maxHeartbeats 16000000 in
theorem rstore_num (P : Nat → Prop) (A0 : Option Addr) (c0 : Nat) (s : List Mb) (hI : Inv s) (p x : Vl) (hb : I64 p.b) (k : Int) (w : World) (hV : Kd.V H.k69 69 w 0 P (.slice A0 (eR s).length c0) (eR s)) (K : Nat) (hK : k = K) (hK8 : K ≤ 8) (m : Mb) (hm : okS s p k = some m) (hac : (if isW k = true then (if (okS s p k).isSome = true then (0 : Int) else 9) else 1) = 0) (hp : (decide (0 < x.b) && x.f == 0) = false) (hf : (x.f != 0) = false) (hx0 : x.b ≤ 0) (hxn : 0 ≤ x.b) :
  Calls Try.prog 26 #[.slice A0 (eR s).length c0, .agg #[.int .i64 p.n, .int .i64 p.b, .int .i64 p.f], .int .i64 k, .agg #[.int .i64 x.n, .int .i64 x.b, .int .i64 x.f]] w fun e w' => ∃ v, e = .returned (.tuple #[v, .int .i64 0]) ∧ VS w' (fun q => P q ∨ w.heap.size ≤ q) v (putS s p ((List.range K).map (fun i => (⟨1, byteOf x.n i, ⟨0, 0, 0⟩⟩ : Bt)))) ∧ Below w.heap.size w w' := by
 have hacc := access_eq hI p hb k 8999
 rw [hac] at hacc
 have hsp := q49 hm
 have HLAY := Aside0.mk (lay_eq hI hb (by omega) hsp.2.2.2.2.2.1 hsp.2.2.1 ((List.range K).map (fun i => (⟨1, byteOf x.n i, ⟨0, 0, 0⟩⟩ : Bt))) (by rw [List.length_map, List.length_range]; omega) 9000 (by omega))
 have HKK := Aside0.mk hK
 clear hm hac hsp hK
 have hkk : k = (K : Int) := HKK.out
 have HI := Aside0.mk hI
 have HPB := Aside0.mk hb
 have HB := Aside0.mk (q10 (q10 (Below.refl w.heap.size w) (.cells #[.int .i64 p.n, .int .i64 p.b, .int .i64 p.f] 23)) (.cells #[.int .i64 x.n, .int .i64 x.b, .int .i64 x.f] 23))
 have hX := Aside0.mk (q12 (q33 w (.cells #[.int .i64 p.n, .int .i64 p.b, .int .i64 p.f] 23)) (.cells #[.int .i64 x.n, .int .i64 x.b, .int .i64 x.f] 23))
 have hZ := Aside0.mk (q46 (W := w.alloc (.cells #[.int .i64 p.n, .int .i64 p.b, .int .i64 p.f] 23)) (n := w.heap.size + 1) (.cells #[.int .i64 x.n, .int .i64 x.b, .int .i64 x.f] 23) (by simp))
 have HV := Aside0.mk (Kd.V_alloc (Kd.V_alloc hV (.cells #[.int .i64 p.n, .int .i64 p.b, .int .i64 p.f] 23)) (.cells #[.int .i64 x.n, .int .i64 x.b, .int .i64 x.f] 23))
 have HACC := Aside0.mk hacc
 clear hacc
 clear hI hb hV
 clear hkk
 go_enter Try.func26, Try.ntmps26
 go_upto_region 1 with (fail)
 generalize (w.alloc (.cells #[.int .i64 p.n, .int .i64 p.b, .int .i64 p.f] 23)).alloc (.cells #[.int .i64 x.n, .int .i64 x.b, .int .i64 x.f] 23) = W at HB hX hZ HV ⊢
 have hx := cell3 hX.out
 go_upto_region 2 with (first | (go_at_call 39; refine (H.crosstreeref10_access.calls 9000 A0 c0 (eR s) p.n p.b p.f k _ _ (Kd.V_reads' HV.out).2.2 (Kd.V_reads' HV.out).2.1 HACC.out).mono ?_; rintro e w1 ⟨rfl, hb1⟩; have HX1 := Aside0.mk (q19 hX.out hb1); have HZ1 := Aside0.mk (q19 hZ.out hb1); have HB1 := Aside0.mk (q20 HB.out hb1); have HV1 := Aside0.mk (Kd.V_below HV.out hb1); clear hb1))
 clear hx hX hZ HB HV HACC
 have hz := cell3 HZ1.out
 go_upto_block 0 with (first | (go_at_call 40; refine (H.crosstreeref10_Pointer.calls x.n x.b x.f _ _ (ptr_eq x)).mono ?_; rintro e w2 ⟨rfl, hb2⟩; have HX2 := Aside0.mk (q19 HX1.out hb2); have HZ2 := Aside0.mk (q19 HZ1.out hb2); have HB2 := Aside0.mk (q20 HB1.out hb2); have HV2 := Aside0.mk (Kd.V_below HV1.out hb2); clear hz hb2; have hz := cell3 HZ2.out))
 have HXL := Aside0.mk HX2.out
 clear hz HX1 HZ1 HB1 HV1
 go_wp2_with fail
 go_loopw [11, 12, 13] (fun v u i wx => ∃ j : Nat, j ≤ K ∧ u = .int .u64 (x.n % 18446744073709551616 / 2 ^ (8 * j)) ∧ i = .int .i64 j ∧ Hid (Row wx w2.heap.size v ((List.range j).map (fun i => (⟨1, byteOf x.n i, ⟨0, 0, 0⟩⟩ : Bt)))) ∧ Hid (Below w2.heap.size w2 wx)) (fun _ _ i _ => K - (intOf i).toNat)
 case atStart => exact ⟨0, Nat.zero_le _, by rw [IntKind.wrap_u64]; congr 1; show _ = x.n % 18446744073709551616 / 1; omega, rfl, ⟨rfl, .inl ⟨rfl, rfl⟩⟩, Below.refl _ _⟩
 case round =>
  obtain ⟨j, hj, rfl, rfl, hR, hb⟩ := hrel
  have HR := Aside0.mk hR
  have HBW := Aside0.mk hb
  have hz := cell3 (q19 HZ2.out hb.out)
  clear hR hb
  by_cases hlt : j < K
  ·have hnb := num_bytes x.n (show j < 8 by omega)
   have hq1 := hnb.1
   have hq2 := hnb.2
   have HQ1 := Aside0.mk hnb
   clear hnb
   obtain ⟨X, hX⟩ : ∃ X, X = x.n % 18446744073709551616 / 2 ^ (8 * j) := ⟨_, rfl⟩
   rw [← hX] at hq1 hq2
   have hX0 : 0 ≤ X := by rw [hX]; exact Int.ediv_nonneg (by omega) (Int.le_of_lt (Int.pow_pos (by decide)))
   have hXm : X ≤ 18446744073709551615 := by
    rw [hX]
    have h1 : x.n % 18446744073709551616 / 2 ^ (8 * j) ≤ x.n % 18446744073709551616 := Int.ediv_le_self _ (by omega)
    omega
   have hjk : ((j : Int) < k) := by rw [HKK.out]; omega
   have hwj : IntKind.i64.wrap ((j : Int) + 1) = (j : Int) + 1 := by rw [IntKind.wrap_i64]; omega
   rw [← hX]
   clear hX
   have hq3 : X % 256 % 256 = byteOf x.n j := by rw [← hq2, Int.tmod_eq_emod_of_nonneg hX0]
   have hq4 : X % 256 = byteOf x.n j := by rw [← hq3]; omega
   have hq5 : X / 256 = x.n % 18446744073709551616 / 2 ^ (8 * (j + 1)) := by rw [← hq1, Int.tdiv_eq_ediv_of_nonneg hX0, IntKind.wrap_u64]; omega
   have HQ := Aside0.mk (show X % 256 = byteOf x.n j ∧ X / 256 = x.n % 18446744073709551616 / 2 ^ (8 * (j + 1)) from ⟨hq4, hq5⟩)
   clear hq1 hq2 hq3 hq4 hq5
   have HXR := Aside0.mk (show Below w2.heap.size w2 (wr.alloc (.cells #[.int .i64 1, .int .u8 (byteOf x.n j), .int .i64 0, .int .i64 0, .int .i64 0] 42)) from q10 HBW.out _)
   have HY := Aside0.mk (q33 wr (.cells #[.int .i64 1, .int .u8 (byteOf x.n j), .int .i64 0, .int .i64 0, .int .i64 0] 42))
   have HG := Aside0.mk HBW.out.size
   have HR3 : Aside0 (Row (wr.alloc (.cells #[.int .i64 1, .int .u8 (byteOf x.n j), .int .i64 0, .int .i64 0, .int .i64 0] 42)) w2.heap.size u11 (((List.range j).map (fun i => (⟨1, byteOf x.n i, ⟨0, 0, 0⟩⟩ : Bt))))) := Aside0.mk (HR.out.below (q10 (Below.refl _ _) _))
   have HNB : Aside0 (some wr.heap.size ≠ u11.ownBlock) := Aside0.mk (fun he => by obtain ⟨c', hc⟩ := q42 HR.out _ he.symm; have := q30 hc; omega)
   go_upto_region 13 with (fail)
   rw [HQ.out.1]
   clear hz
   generalize wr.heap.size = g14 at HY HG HNB ⊢
   generalize wr.alloc (.cells #[.int .i64 1, .int .u8 (byteOf x.n j), .int .i64 0, .int .i64 0, .int .i64 0] 42) = W3 at HXR HY HR3 ⊢
   have hz := cell3 (q19 HZ2.out HXR.out)
   have HB3 := HXR
   clear HXR
   have hy := cells5 HY.out
   go_wp2_with (first | (at_builtin; refine print_append_cells (w0 := w2) w2.heap.size rfl _ _ 38 42 (.agg #[.int .i64 0, .int .u8 0, .int .i64 0, .int .i64 0, .int .i64 0]) 5 40 rfl Try.underlying38 (by kernel_rfl) (by decide) (by decide) (by decide) u11 ((List.range j).map (fun i => (⟨1, byteOf x.n i, ⟨0, 0, 0⟩⟩ : Bt))).length (encB ((List.range j).map (fun i => (⟨1, byteOf x.n i, ⟨0, 0, 0⟩⟩ : Bt)))) [.int .i64 1, .int .u8 (byteOf x.n j), .int .i64 0, .int .i64 0, .int .i64 0] rfl rfl rfl ?aO HR3.out HB3.out HB3.out.size ?aL ?_; (case aO => (intro u hu; simp only [List.mem_cons, List.not_mem_nil, or_false] at hu; rcases hu with rfl | rfl | rfl | rfl | rfl <;> rfl)); (case aL => (rw [List.length_map, List.length_range]; omega)); intro v1 w1' hR1 hB1 hg1 hat1; have HRN : Aside0 (Row w1' w2.heap.size v1 (((List.range j).map (fun i => (⟨1, byteOf x.n i, ⟨0, 0, 0⟩⟩ : Bt))) ++ [(fun i => (⟨1, byteOf x.n i, ⟨0, 0, 0⟩⟩ : Bt)) j])) := Aside0.mk (by unfold Row; rw [encB_append, List.length_append]; exact hR1); have HBN := Aside0.mk hB1; clear hR1 hB1 hg1 hat1))
   go_roundw
   case rel => exact ⟨j + 1, by omega, by rw [← HQ.out.2], by go_num, by show Row _ _ _ _; rw [List.range_succ, List.map_append]; exact HRN.out, HBN.out⟩
   case measure => simp [intOf]; omega
  ·obtain rfl : j = K := by omega
   have hjk : k ≤ (j : Int) := by rw [HKK.out]; omega
   have hx := cell3 (q19 HXL.out HBW.out)
   have HVW := Aside0.mk (Kd.V_below HV2.out HBW.out)
   have hfo := own_form HR.out
   obtain ⟨A1, c1, hform⟩ := hfo
   subst hform
   have HC1 := Aside0.mk HR.out.C
   have hlay := HLAY.out
   have hc1 := HC1.out
   have hlm : ((List.range j).map (fun i => (⟨1, byteOf x.n i, ⟨0, 0, 0⟩⟩ : Bt))).length = (((List.range j).map (fun i => (⟨1, byteOf x.n i, ⟨0, 0, 0⟩⟩ : Bt))).map e42).length := (List.length_map ..).symm
   rw [hlm] at hc1 ⊢
   generalize hLL : ((List.range j).map (fun i => (⟨1, byteOf x.n i, ⟨0, 0, 0⟩⟩ : Bt))).map e42 = L at hlay hc1 ⊢
   clear hlm hz hLL HC1 HLAY
   have HLAY := Aside0.mk hlay
   have HC1 := Aside0.mk hc1
   clear hlay hc1
   go_wp2_with fail
   refine (H.crosstreeref10_Lay.calls 9000 P A0 c0 (eR s) p.n p.b p.f A1 c1 L _ _ HVW.out HC1.out.2.2 HC1.out.2.1 HLAY.out).mono ?_
   rintro e w4 ⟨v4, rfl, hv4, hb4⟩
   have HV4 := Aside0.mk (Kd.N_V (base' := 0) hv4)
   have HB4 := Aside0.mk hb4
   clear hv4 hb4
   go_wp2_with fail
   go_ret2
   exact ⟨_, rfl, Kd.V_mono HV4.out (fun q hq => hq.imp id (fun h => Nat.le_trans (Nat.le_trans HB2.out.size HBW.out.size) h)), q20 (q20 HB2.out HBW.out) HB4.out⟩
set_option maxRecDepth 100000 in
set_option maxHeartbeats 16000000 in
theorem rstore_ptr (P : Nat → Prop) (A0 : Option Addr) (c0 : Nat) (s : List Mb) (hI : Inv s) (p x : Vl) (hb : I64 p.b) (k : Int) (w : World) (hV : Kd.V H.k69 69 w 0 P (.slice A0 (eR s).length c0) (eR s)) (K : Nat) (hK : k = K) (hK8 : K ≤ 8) (m : Mb) (hm : okS s p k = some m) (hac : (if isW k = true then (if (okS s p k).isSome = true then (0 : Int) else 9) else 1) = 0) (hp : (decide (0 < x.b) && x.f == 0) = true) (hf : (x.f != 0) = false) (hk8 : (k != 8) = false) (hx0 : 0 < x.b) (hxn : 0 ≤ x.b) (hfe : (x.f == 0) = true) :
  Calls Try.prog 26 #[.slice A0 (eR s).length c0, .agg #[.int .i64 p.n, .int .i64 p.b, .int .i64 p.f], .int .i64 k, .agg #[.int .i64 x.n, .int .i64 x.b, .int .i64 x.f]] w fun e w' => ∃ v, e = .returned (.tuple #[v, .int .i64 0]) ∧ VS w' (fun q => P q ∨ w.heap.size ≤ q) v (putS s p ((List.range K).map (fun (i : Nat) => (⟨2, 0, ⟨x.n, x.b, (i : Int) + 1⟩⟩ : Bt)))) ∧ Below w.heap.size w w' := by
 have hacc := access_eq hI p hb k 8999
 rw [hac] at hacc
 have hsp := q49 hm
 have HLAY := Aside0.mk (lay_eq hI hb (by omega) hsp.2.2.2.2.2.1 hsp.2.2.1 ((List.range K).map (fun (i : Nat) => (⟨2, 0, ⟨x.n, x.b, (i : Int) + 1⟩⟩ : Bt))) (by rw [List.length_map, List.length_range]; omega) 9000 (by omega))
 have HKK := Aside0.mk hK
 clear hm hac hsp hK
 have hkk : k = (K : Int) := HKK.out
 have HI := Aside0.mk hI
 have HPB := Aside0.mk hb
 have HB := Aside0.mk (q10 (q10 (Below.refl w.heap.size w) (.cells #[.int .i64 p.n, .int .i64 p.b, .int .i64 p.f] 23)) (.cells #[.int .i64 x.n, .int .i64 x.b, .int .i64 x.f] 23))
 have hX := Aside0.mk (q12 (q33 w (.cells #[.int .i64 p.n, .int .i64 p.b, .int .i64 p.f] 23)) (.cells #[.int .i64 x.n, .int .i64 x.b, .int .i64 x.f] 23))
 have hZ := Aside0.mk (q46 (W := w.alloc (.cells #[.int .i64 p.n, .int .i64 p.b, .int .i64 p.f] 23)) (n := w.heap.size + 1) (.cells #[.int .i64 x.n, .int .i64 x.b, .int .i64 x.f] 23) (by simp))
 have HV := Aside0.mk (Kd.V_alloc (Kd.V_alloc hV (.cells #[.int .i64 p.n, .int .i64 p.b, .int .i64 p.f] 23)) (.cells #[.int .i64 x.n, .int .i64 x.b, .int .i64 x.f] 23))
 have HACC := Aside0.mk hacc
 clear hacc
 clear hI hb hV
 clear hkk
 go_enter Try.func26, Try.ntmps26
 go_upto_region 1 with (fail)
 generalize (w.alloc (.cells #[.int .i64 p.n, .int .i64 p.b, .int .i64 p.f] 23)).alloc (.cells #[.int .i64 x.n, .int .i64 x.b, .int .i64 x.f] 23) = W at HB hX hZ HV ⊢
 have hx := cell3 hX.out
 go_upto_region 2 with (first | (go_at_call 39; refine (H.crosstreeref10_access.calls 9000 A0 c0 (eR s) p.n p.b p.f k _ _ (Kd.V_reads' HV.out).2.2 (Kd.V_reads' HV.out).2.1 HACC.out).mono ?_; rintro e w1 ⟨rfl, hb1⟩; have HX1 := Aside0.mk (q19 hX.out hb1); have HZ1 := Aside0.mk (q19 hZ.out hb1); have HB1 := Aside0.mk (q20 HB.out hb1); have HV1 := Aside0.mk (Kd.V_below HV.out hb1); clear hb1))
 clear hx hX hZ HB HV HACC
 have hz := cell3 HZ1.out
 go_upto_block 0 with (first | (go_at_call 40; refine (H.crosstreeref10_Pointer.calls x.n x.b x.f _ _ (ptr_eq x)).mono ?_; rintro e w2 ⟨rfl, hb2⟩; have HX2 := Aside0.mk (q19 HX1.out hb2); have HZ2 := Aside0.mk (q19 HZ1.out hb2); have HB2 := Aside0.mk (q20 HB1.out hb2); have HV2 := Aside0.mk (Kd.V_below HV1.out hb2); clear hz hb2; have hz := cell3 HZ2.out))
 have HXL := Aside0.mk HX2.out
 clear hz HX1 HZ1 HB1 HV1
 go_wp2_with fail
 go_loopw [11, 12, 13] (fun v u i wx => ∃ j : Nat, j ≤ K ∧ u = .int .u64 (x.n % 18446744073709551616 / 2 ^ (8 * j)) ∧ i = .int .i64 j ∧ Hid (Row wx w2.heap.size v ((List.range j).map (fun (i : Nat) => (⟨2, 0, ⟨x.n, x.b, (i : Int) + 1⟩⟩ : Bt)))) ∧ Hid (Below w2.heap.size w2 wx)) (fun _ _ i _ => K - (intOf i).toNat)
 case atStart => exact ⟨0, Nat.zero_le _, by rw [IntKind.wrap_u64]; congr 1; show _ = x.n % 18446744073709551616 / 1; omega, rfl, ⟨rfl, .inl ⟨rfl, rfl⟩⟩, Below.refl _ _⟩
 case round =>
  obtain ⟨j, hj, rfl, rfl, hR, hb⟩ := hrel
  have HR := Aside0.mk hR
  have HBW := Aside0.mk hb
  have hz := cell3 (q19 HZ2.out hb.out)
  clear hR hb
  by_cases hlt : j < K
  ·have hnb := num_bytes x.n (show j < 8 by omega)
   have hq1 := hnb.1
   have hq2 := hnb.2
   have HQ1 := Aside0.mk hnb
   clear hnb
   obtain ⟨X, hX⟩ : ∃ X, X = x.n % 18446744073709551616 / 2 ^ (8 * j) := ⟨_, rfl⟩
   rw [← hX] at hq1 hq2
   have hX0 : 0 ≤ X := by rw [hX]; exact Int.ediv_nonneg (by omega) (Int.le_of_lt (Int.pow_pos (by decide)))
   have hXm : X ≤ 18446744073709551615 := by
    rw [hX]
    have h1 : x.n % 18446744073709551616 / 2 ^ (8 * j) ≤ x.n % 18446744073709551616 := Int.ediv_le_self _ (by omega)
    omega
   have hjk : ((j : Int) < k) := by rw [HKK.out]; omega
   have hwj : IntKind.i64.wrap ((j : Int) + 1) = (j : Int) + 1 := by rw [IntKind.wrap_i64]; omega
   rw [← hX]
   clear hX
   have hq3 : X % 256 % 256 = byteOf x.n j := by rw [← hq2, Int.tmod_eq_emod_of_nonneg hX0]
   have hq4 : X % 256 = byteOf x.n j := by rw [← hq3]; omega
   have hq5 : X / 256 = x.n % 18446744073709551616 / 2 ^ (8 * (j + 1)) := by rw [← hq1, Int.tdiv_eq_ediv_of_nonneg hX0, IntKind.wrap_u64]; omega
   have HQ := Aside0.mk (show X % 256 = byteOf x.n j ∧ X / 256 = x.n % 18446744073709551616 / 2 ^ (8 * (j + 1)) from ⟨hq4, hq5⟩)
   clear hq1 hq2 hq3 hq4 hq5
   have HXR := Aside0.mk (show Below w2.heap.size w2 (wr.alloc (.cells #[.int .i64 1, .int .u8 (byteOf x.n j), .int .i64 0, .int .i64 0, .int .i64 0] 42)) from q10 HBW.out _)
   have HY := Aside0.mk (q33 wr (.cells #[.int .i64 1, .int .u8 (byteOf x.n j), .int .i64 0, .int .i64 0, .int .i64 0] 42))
   have HG := Aside0.mk HBW.out.size
   have HR3 : Aside0 (Row (wr.alloc (.cells #[.int .i64 1, .int .u8 (byteOf x.n j), .int .i64 0, .int .i64 0, .int .i64 0] 42)) w2.heap.size u11 (((List.range j).map (fun (i : Nat) => (⟨2, 0, ⟨x.n, x.b, (i : Int) + 1⟩⟩ : Bt))))) := Aside0.mk (HR.out.below (q10 (Below.refl _ _) _))
   have HNB : Aside0 (some wr.heap.size ≠ u11.ownBlock) := Aside0.mk (fun he => by obtain ⟨c', hc⟩ := q42 HR.out _ he.symm; have := q30 hc; omega)
   go_upto_region 13 with (fail)
   rw [HQ.out.1]
   clear hz
   generalize wr.heap.size = g14 at HY HG HNB ⊢
   generalize wr.alloc (.cells #[.int .i64 1, .int .u8 (byteOf x.n j), .int .i64 0, .int .i64 0, .int .i64 0] 42) = W3 at HXR HY HR3 ⊢
   have hz := cell3 (q19 HZ2.out HXR.out)
   have HB3 := HXR
   clear HXR
   have hf0 := q0 HY.out 0
   have hf1 := q0 HY.out 1
   have hf2 := q0 HY.out 2
   have hf3 := q0 HY.out 3
   have hf4 := q0 HY.out 4
   have hy := cells5 HY.out
   go_upto_region 17 with (fail)
   clear hf0 hf1 hf2 hf3 hf4 hy
   have HY2 := Aside0.mk (blk_put5' HY.out (.int .i64 2) (.int .u8 0) (.int .i64 x.n) (.int .i64 x.b) (.int .i64 ((j : Int) + 1)))
   have HB4 := Aside0.mk (below_put5' HB3.out HG.out (.int .i64 2) (.int .u8 0) (.int .i64 x.n) (.int .i64 x.b) (.int .i64 ((j : Int) + 1)))
   have HR4 := Aside0.mk (HR3.out.far (W' := ((((W3.setCell ⟨g14, 0, none⟩ (.int .i64 2)).setCell ⟨g14, 1, none⟩ (.int .u8 0)).setCell ⟨g14, 2, none⟩ (.int .i64 x.n)).setCell ⟨g14, 3, none⟩ (.int .i64 x.b)).setCell ⟨g14, 4, none⟩ (.int .i64 ((j : Int) + 1))) HNB.out (fun k hk hne => (kp_put5 (Kp.refl W3 (· = g14)) rfl 0 1 2 3 4 (.int .i64 2) (.int .u8 0) (.int .i64 x.n) (.int .i64 x.b) (.int .i64 ((j : Int) + 1))).block k hk hne))
   generalize ((((W3.setCell ⟨g14, 0, none⟩ (.int .i64 2)).setCell ⟨g14, 1, none⟩ (.int .u8 0)).setCell ⟨g14, 2, none⟩ (.int .i64 x.n)).setCell ⟨g14, 3, none⟩ (.int .i64 x.b)).setCell ⟨g14, 4, none⟩ (.int .i64 ((j : Int) + 1)) = W4 at HY2 HB4 HR4 ⊢
   clear HY HB3 HR3
   have HY := HY2
   have HB3 := HB4
   have HR3 := HR4
   clear HY2 HB4 HR4
   have hy := cells5 HY.out
   go_wp2_with (first | (at_builtin; refine print_append_cells (w0 := w2) w2.heap.size rfl _ _ 38 42 (.agg #[.int .i64 0, .int .u8 0, .int .i64 0, .int .i64 0, .int .i64 0]) 5 40 rfl Try.underlying38 (by kernel_rfl) (by decide) (by decide) (by decide) u11 ((List.range j).map (fun (i : Nat) => (⟨2, 0, ⟨x.n, x.b, (i : Int) + 1⟩⟩ : Bt))).length (encB ((List.range j).map (fun (i : Nat) => (⟨2, 0, ⟨x.n, x.b, (i : Int) + 1⟩⟩ : Bt)))) [.int .i64 2, .int .u8 0, .int .i64 x.n, .int .i64 x.b, .int .i64 ((j : Int) + 1)] rfl rfl rfl ?aO HR3.out HB3.out HB3.out.size ?aL ?_; (case aO => (intro u hu; simp only [List.mem_cons, List.not_mem_nil, or_false] at hu; rcases hu with rfl | rfl | rfl | rfl | rfl <;> rfl)); (case aL => (rw [List.length_map, List.length_range]; omega)); intro v1 w1' hR1 hB1 hg1 hat1; have HRN : Aside0 (Row w1' w2.heap.size v1 (((List.range j).map (fun (i : Nat) => (⟨2, 0, ⟨x.n, x.b, (i : Int) + 1⟩⟩ : Bt))) ++ [(fun (i : Nat) => (⟨2, 0, ⟨x.n, x.b, (i : Int) + 1⟩⟩ : Bt)) j])) := Aside0.mk (by unfold Row; rw [encB_append, List.length_append]; exact hR1); have HBN := Aside0.mk hB1; clear hR1 hB1 hg1 hat1))
   go_roundw
   case rel => exact ⟨j + 1, by omega, by rw [← HQ.out.2], by go_num, by show Row _ _ _ _; rw [List.range_succ, List.map_append]; exact HRN.out, HBN.out⟩
   case measure => simp [intOf]; omega
  ·obtain rfl : j = K := by omega
   have hjk : k ≤ (j : Int) := by rw [HKK.out]; omega
   have hx := cell3 (q19 HXL.out HBW.out)
   have HVW := Aside0.mk (Kd.V_below HV2.out HBW.out)
   have hfo := own_form HR.out
   obtain ⟨A1, c1, hform⟩ := hfo
   subst hform
   have HC1 := Aside0.mk HR.out.C
   have hlay := HLAY.out
   have hc1 := HC1.out
   have hlm : ((List.range j).map (fun (i : Nat) => (⟨2, 0, ⟨x.n, x.b, (i : Int) + 1⟩⟩ : Bt))).length = (((List.range j).map (fun (i : Nat) => (⟨2, 0, ⟨x.n, x.b, (i : Int) + 1⟩⟩ : Bt))).map e42).length := (List.length_map ..).symm
   rw [hlm] at hc1 ⊢
   generalize hLL : ((List.range j).map (fun (i : Nat) => (⟨2, 0, ⟨x.n, x.b, (i : Int) + 1⟩⟩ : Bt))).map e42 = L at hlay hc1 ⊢
   clear hlm hz hLL HC1 HLAY
   have HLAY := Aside0.mk hlay
   have HC1 := Aside0.mk hc1
   clear hlay hc1
   go_wp2_with fail
   refine (H.crosstreeref10_Lay.calls 9000 P A0 c0 (eR s) p.n p.b p.f A1 c1 L _ _ HVW.out HC1.out.2.2 HC1.out.2.1 HLAY.out).mono ?_
   rintro e w4 ⟨v4, rfl, hv4, hb4⟩
   have HV4 := Aside0.mk (Kd.N_V (base' := 0) hv4)
   have HB4 := Aside0.mk hb4
   clear hv4 hb4
   go_wp2_with fail
   go_ret2
   exact ⟨_, rfl, Kd.V_mono HV4.out (fun q hq => hq.imp id (fun h => Nat.le_trans (Nat.le_trans HB2.out.size HBW.out.size) h)), q20 (q20 HB2.out HBW.out) HB4.out⟩
set_option maxRecDepth 100000 in
set_option maxHeartbeats 16000000 in
theorem rstore_part (P : Nat → Prop) (A0 : Option Addr) (c0 : Nat) (s : List Mb) (hI : Inv s) (p x : Vl) (hb : I64 p.b) (k : Int) (w : World) (hV : Kd.V H.k69 69 w 0 P (.slice A0 (eR s).length c0) (eR s)) (K : Nat) (hK : k = K) (hK8 : K ≤ 8) (m : Mb) (hm : okS s p k = some m) (hac : (if isW k = true then (if (okS s p k).isSome = true then (0 : Int) else 9) else 1) = 0) (hp : (decide (0 < x.b) && x.f == 0) = false) (hf : (x.f != 0) = true) (hk1 : (k != 1) = false) (hf0 : 0 ≤ x.f) (hxn : 0 ≤ x.b) :
  Calls Try.prog 26 #[.slice A0 (eR s).length c0, .agg #[.int .i64 p.n, .int .i64 p.b, .int .i64 p.f], .int .i64 k, .agg #[.int .i64 x.n, .int .i64 x.b, .int .i64 x.f]] w fun e w' => ∃ v, e = .returned (.tuple #[v, .int .i64 0]) ∧ VS w' (fun q => P q ∨ w.heap.size ≤ q) v (putS s p ((List.range K).map (fun (_ : Nat) => (⟨2, 0, x⟩ : Bt)))) ∧ Below w.heap.size w w' := by
 have hacc := access_eq hI p hb k 8999
 rw [hac] at hacc
 have hsp := q49 hm
 have HLAY := Aside0.mk (lay_eq hI hb (by omega) hsp.2.2.2.2.2.1 hsp.2.2.1 ((List.range K).map (fun (_ : Nat) => (⟨2, 0, x⟩ : Bt))) (by rw [List.length_map, List.length_range]; omega) 9000 (by omega))
 have HKK := Aside0.mk hK
 clear hm hac hsp hK
 have hkk : k = (K : Int) := HKK.out
 have HI := Aside0.mk hI
 have HPB := Aside0.mk hb
 have HB := Aside0.mk (q10 (q10 (Below.refl w.heap.size w) (.cells #[.int .i64 p.n, .int .i64 p.b, .int .i64 p.f] 23)) (.cells #[.int .i64 x.n, .int .i64 x.b, .int .i64 x.f] 23))
 have hX := Aside0.mk (q12 (q33 w (.cells #[.int .i64 p.n, .int .i64 p.b, .int .i64 p.f] 23)) (.cells #[.int .i64 x.n, .int .i64 x.b, .int .i64 x.f] 23))
 have hZ := Aside0.mk (q46 (W := w.alloc (.cells #[.int .i64 p.n, .int .i64 p.b, .int .i64 p.f] 23)) (n := w.heap.size + 1) (.cells #[.int .i64 x.n, .int .i64 x.b, .int .i64 x.f] 23) (by simp))
 have HV := Aside0.mk (Kd.V_alloc (Kd.V_alloc hV (.cells #[.int .i64 p.n, .int .i64 p.b, .int .i64 p.f] 23)) (.cells #[.int .i64 x.n, .int .i64 x.b, .int .i64 x.f] 23))
 have HACC := Aside0.mk hacc
 clear hacc
 clear hI hb hV
 clear hkk
 go_enter Try.func26, Try.ntmps26
 go_upto_region 1 with (fail)
 generalize (w.alloc (.cells #[.int .i64 p.n, .int .i64 p.b, .int .i64 p.f] 23)).alloc (.cells #[.int .i64 x.n, .int .i64 x.b, .int .i64 x.f] 23) = W at HB hX hZ HV ⊢
 have hx := cell3 hX.out
 go_upto_region 2 with (first | (go_at_call 39; refine (H.crosstreeref10_access.calls 9000 A0 c0 (eR s) p.n p.b p.f k _ _ (Kd.V_reads' HV.out).2.2 (Kd.V_reads' HV.out).2.1 HACC.out).mono ?_; rintro e w1 ⟨rfl, hb1⟩; have HX1 := Aside0.mk (q19 hX.out hb1); have HZ1 := Aside0.mk (q19 hZ.out hb1); have HB1 := Aside0.mk (q20 HB.out hb1); have HV1 := Aside0.mk (Kd.V_below HV.out hb1); clear hb1))
 clear hx hX hZ HB HV HACC
 have hz := cell3 HZ1.out
 go_upto_block 0 with (first | (go_at_call 40; refine (H.crosstreeref10_Pointer.calls x.n x.b x.f _ _ (ptr_eq x)).mono ?_; rintro e w2 ⟨rfl, hb2⟩; have HX2 := Aside0.mk (q19 HX1.out hb2); have HZ2 := Aside0.mk (q19 HZ1.out hb2); have HB2 := Aside0.mk (q20 HB1.out hb2); have HV2 := Aside0.mk (Kd.V_below HV1.out hb2); clear hz hb2; have hz := cell3 HZ2.out))
 have HXL := Aside0.mk HX2.out
 clear hz HX1 HZ1 HB1 HV1
 go_wp2_with fail
 go_loopw [11, 12, 13] (fun v u i wx => ∃ j : Nat, j ≤ K ∧ u = .int .u64 (x.n % 18446744073709551616 / 2 ^ (8 * j)) ∧ i = .int .i64 j ∧ Hid (Row wx w2.heap.size v ((List.range j).map (fun (_ : Nat) => (⟨2, 0, x⟩ : Bt)))) ∧ Hid (Below w2.heap.size w2 wx)) (fun _ _ i _ => K - (intOf i).toNat)
 case atStart => exact ⟨0, Nat.zero_le _, by rw [IntKind.wrap_u64]; congr 1; show _ = x.n % 18446744073709551616 / 1; omega, rfl, ⟨rfl, .inl ⟨rfl, rfl⟩⟩, Below.refl _ _⟩
 case round =>
  obtain ⟨j, hj, rfl, rfl, hR, hb⟩ := hrel
  have HR := Aside0.mk hR
  have HBW := Aside0.mk hb
  have hz := cell3 (q19 HZ2.out hb.out)
  clear hR hb
  by_cases hlt : j < K
  ·have hnb := num_bytes x.n (show j < 8 by omega)
   have hq1 := hnb.1
   have hq2 := hnb.2
   have HQ1 := Aside0.mk hnb
   clear hnb
   obtain ⟨X, hX⟩ : ∃ X, X = x.n % 18446744073709551616 / 2 ^ (8 * j) := ⟨_, rfl⟩
   rw [← hX] at hq1 hq2
   have hX0 : 0 ≤ X := by rw [hX]; exact Int.ediv_nonneg (by omega) (Int.le_of_lt (Int.pow_pos (by decide)))
   have hXm : X ≤ 18446744073709551615 := by
    rw [hX]
    have h1 : x.n % 18446744073709551616 / 2 ^ (8 * j) ≤ x.n % 18446744073709551616 := Int.ediv_le_self _ (by omega)
    omega
   have hjk : ((j : Int) < k) := by rw [HKK.out]; omega
   have hwj : IntKind.i64.wrap ((j : Int) + 1) = (j : Int) + 1 := by rw [IntKind.wrap_i64]; omega
   rw [← hX]
   clear hX
   have hq3 : X % 256 % 256 = byteOf x.n j := by rw [← hq2, Int.tmod_eq_emod_of_nonneg hX0]
   have hq4 : X % 256 = byteOf x.n j := by rw [← hq3]; omega
   have hq5 : X / 256 = x.n % 18446744073709551616 / 2 ^ (8 * (j + 1)) := by rw [← hq1, Int.tdiv_eq_ediv_of_nonneg hX0, IntKind.wrap_u64]; omega
   have HQ := Aside0.mk (show X % 256 = byteOf x.n j ∧ X / 256 = x.n % 18446744073709551616 / 2 ^ (8 * (j + 1)) from ⟨hq4, hq5⟩)
   clear hq1 hq2 hq3 hq4 hq5
   have HXR := Aside0.mk (show Below w2.heap.size w2 (wr.alloc (.cells #[.int .i64 1, .int .u8 (byteOf x.n j), .int .i64 0, .int .i64 0, .int .i64 0] 42)) from q10 HBW.out _)
   have HY := Aside0.mk (q33 wr (.cells #[.int .i64 1, .int .u8 (byteOf x.n j), .int .i64 0, .int .i64 0, .int .i64 0] 42))
   have HG := Aside0.mk HBW.out.size
   have HR3 : Aside0 (Row (wr.alloc (.cells #[.int .i64 1, .int .u8 (byteOf x.n j), .int .i64 0, .int .i64 0, .int .i64 0] 42)) w2.heap.size u11 (((List.range j).map (fun (_ : Nat) => (⟨2, 0, x⟩ : Bt))))) := Aside0.mk (HR.out.below (q10 (Below.refl _ _) _))
   have HNB : Aside0 (some wr.heap.size ≠ u11.ownBlock) := Aside0.mk (fun he => by obtain ⟨c', hc⟩ := q42 HR.out _ he.symm; have := q30 hc; omega)
   go_upto_region 13 with (fail)
   rw [HQ.out.1]
   clear hz
   generalize wr.heap.size = g14 at HY HG HNB ⊢
   generalize wr.alloc (.cells #[.int .i64 1, .int .u8 (byteOf x.n j), .int .i64 0, .int .i64 0, .int .i64 0] 42) = W3 at HXR HY HR3 ⊢
   have hz := cell3 (q19 HZ2.out HXR.out)
   have HB3 := HXR
   clear HXR
   have hf0 := q0 HY.out 0
   have hf1 := q0 HY.out 1
   have hf2 := q0 HY.out 2
   have hf3 := q0 HY.out 3
   have hf4 := q0 HY.out 4
   have hy := cells5 HY.out
   go_upto_region 17 with (fail)
   clear hf0 hf1 hf2 hf3 hf4 hy
   have HY2 := Aside0.mk (blk_put5' HY.out (.int .i64 2) (.int .u8 0) (.int .i64 x.n) (.int .i64 x.b) (.int .i64 x.f))
   have HB4 := Aside0.mk (below_put5' HB3.out HG.out (.int .i64 2) (.int .u8 0) (.int .i64 x.n) (.int .i64 x.b) (.int .i64 x.f))
   have HR4 := Aside0.mk (HR3.out.far (W' := ((((W3.setCell ⟨g14, 0, none⟩ (.int .i64 2)).setCell ⟨g14, 1, none⟩ (.int .u8 0)).setCell ⟨g14, 2, none⟩ (.int .i64 x.n)).setCell ⟨g14, 3, none⟩ (.int .i64 x.b)).setCell ⟨g14, 4, none⟩ (.int .i64 x.f)) HNB.out (fun k hk hne => (kp_put5 (Kp.refl W3 (· = g14)) rfl 0 1 2 3 4 (.int .i64 2) (.int .u8 0) (.int .i64 x.n) (.int .i64 x.b) (.int .i64 x.f)).block k hk hne))
   generalize ((((W3.setCell ⟨g14, 0, none⟩ (.int .i64 2)).setCell ⟨g14, 1, none⟩ (.int .u8 0)).setCell ⟨g14, 2, none⟩ (.int .i64 x.n)).setCell ⟨g14, 3, none⟩ (.int .i64 x.b)).setCell ⟨g14, 4, none⟩ (.int .i64 x.f) = W4 at HY2 HB4 HR4 ⊢
   clear HY HB3 HR3
   have HY := HY2
   have HB3 := HB4
   have HR3 := HR4
   clear HY2 HB4 HR4
   have hy := cells5 HY.out
   go_wp2_with (first | (at_builtin; refine print_append_cells (w0 := w2) w2.heap.size rfl _ _ 38 42 (.agg #[.int .i64 0, .int .u8 0, .int .i64 0, .int .i64 0, .int .i64 0]) 5 40 rfl Try.underlying38 (by kernel_rfl) (by decide) (by decide) (by decide) u11 ((List.range j).map (fun (_ : Nat) => (⟨2, 0, x⟩ : Bt))).length (encB ((List.range j).map (fun (_ : Nat) => (⟨2, 0, x⟩ : Bt)))) [.int .i64 2, .int .u8 0, .int .i64 x.n, .int .i64 x.b, .int .i64 x.f] rfl rfl rfl ?aO HR3.out HB3.out HB3.out.size ?aL ?_; (case aO => (intro u hu; simp only [List.mem_cons, List.not_mem_nil, or_false] at hu; rcases hu with rfl | rfl | rfl | rfl | rfl <;> rfl)); (case aL => (rw [List.length_map, List.length_range]; omega)); intro v1 w1' hR1 hB1 hg1 hat1; have HRN : Aside0 (Row w1' w2.heap.size v1 (((List.range j).map (fun (_ : Nat) => (⟨2, 0, x⟩ : Bt))) ++ [(fun (_ : Nat) => (⟨2, 0, x⟩ : Bt)) j])) := Aside0.mk (by unfold Row; rw [encB_append, List.length_append]; exact hR1); have HBN := Aside0.mk hB1; clear hR1 hB1 hg1 hat1))
   go_roundw
   case rel => exact ⟨j + 1, by omega, by rw [← HQ.out.2], by go_num, by show Row _ _ _ _; rw [List.range_succ, List.map_append]; exact HRN.out, HBN.out⟩
   case measure => simp [intOf]; omega
  ·obtain rfl : j = K := by omega
   have hjk : k ≤ (j : Int) := by rw [HKK.out]; omega
   have hx := cell3 (q19 HXL.out HBW.out)
   have HVW := Aside0.mk (Kd.V_below HV2.out HBW.out)
   have hfo := own_form HR.out
   obtain ⟨A1, c1, hform⟩ := hfo
   subst hform
   have HC1 := Aside0.mk HR.out.C
   have hlay := HLAY.out
   have hc1 := HC1.out
   have hlm : ((List.range j).map (fun (_ : Nat) => (⟨2, 0, x⟩ : Bt))).length = (((List.range j).map (fun (_ : Nat) => (⟨2, 0, x⟩ : Bt))).map e42).length := (List.length_map ..).symm
   rw [hlm] at hc1 ⊢
   generalize hLL : ((List.range j).map (fun (_ : Nat) => (⟨2, 0, x⟩ : Bt))).map e42 = L at hlay hc1 ⊢
   clear hlm hz hLL HC1 HLAY
   have HLAY := Aside0.mk hlay
   have HC1 := Aside0.mk hc1
   clear hlay hc1
   go_wp2_with fail
   refine (H.crosstreeref10_Lay.calls 9000 P A0 c0 (eR s) p.n p.b p.f A1 c1 L _ _ HVW.out HC1.out.2.2 HC1.out.2.1 HLAY.out).mono ?_
   rintro e w4 ⟨v4, rfl, hv4, hb4⟩
   have HV4 := Aside0.mk (Kd.N_V (base' := 0) hv4)
   have HB4 := Aside0.mk hb4
   clear hv4 hb4
   go_wp2_with fail
   go_ret2
   exact ⟨_, rfl, Kd.V_mono HV4.out (fun q hq => hq.imp id (fun h => Nat.le_trans (Nat.le_trans HB2.out.size HBW.out.size) h)), q20 (q20 HB2.out HBW.out) HB4.out⟩
theorem rstore_calls (P : Nat → Prop) (A0 : Option Addr) (c0 : Nat) (s : List Mb) (hI : Inv s) (p x : Vl) (hb : I64 p.b) (k : Int) (w : World) (hV : Kd.V H.k69 69 w 0 P (.slice A0 (eR s).length c0) (eR s)) (hw : Well x) :
  Calls Try.prog 26 #[.slice A0 (eR s).length c0, .agg #[.int .i64 p.n, .int .i64 p.b, .int .i64 p.f], .int .i64 k, .agg #[.int .i64 x.n, .int .i64 x.b, .int .i64 x.f]] w fun e w' => ∃ v, e = .returned (.tuple #[v, .int .i64 (storeS s p k x).2]) ∧ VS w' (fun q => P q ∨ w.heap.size ≤ q) v (storeS s p k x).1 ∧ Below w.heap.size w w' := by
 have hkeep : ∀ {er : Int}, Calls Try.prog 26 #[.slice A0 (eR s).length c0, .agg #[.int .i64 p.n, .int .i64 p.b, .int .i64 p.f], .int .i64 k, .agg #[.int .i64 x.n, .int .i64 x.b, .int .i64 x.f]] w (fun e w' => e = .returned (.tuple #[.slice A0 (eR s).length c0, .int .i64 er]) ∧ VS w' P (.slice A0 (eR s).length c0) s ∧ Below w.heap.size w w') →
   Calls Try.prog 26 #[.slice A0 (eR s).length c0, .agg #[.int .i64 p.n, .int .i64 p.b, .int .i64 p.f], .int .i64 k, .agg #[.int .i64 x.n, .int .i64 x.b, .int .i64 x.f]] w (fun e w' => ∃ v, e = .returned (.tuple #[v, .int .i64 er]) ∧ VS w' (fun q => P q ∨ w.heap.size ≤ q) v s ∧ Below w.heap.size w w') :=
  fun hc => hc.mono (fun e w' ⟨h1, h2, h3⟩ => ⟨_, h1, Kd.V_mono h2 (fun _ h => .inl h), h3⟩)
 obtain ⟨w1, w2, w3, w4⟩ := hw
 cases hk : isW k with
 | false =>
  have : storeS s p k x = (s, 1) := by unfold storeS; rw [hk]; rfl
  rw [this]
  exact hkeep (rstore_acc P A0 c0 s hI p x hb k w hV 1 (by decide) (by rw [hk]; rfl))
 | true =>
  cases hm : okS s p k with
  | none =>
   have : storeS s p k x = (s, 9) := by unfold storeS; rw [hk, hm]; rfl
   rw [this]
   exact hkeep (rstore_acc P A0 c0 s hI p x hb k w hV 9 (by decide) (by rw [hk, hm]; rfl))
  | some m =>
   have hac : (if isW k = true then (if (okS s p k).isSome = true then (0 : Int) else 9) else 1) = 0 := by rw [hk, hm]; rfl
   have hkc : k = 1 ∨ k = 4 ∨ k = 8 := by simpa [isW, or_assoc] using hk
   obtain ⟨K, hK⟩ : ∃ K : Nat, k = K := ⟨k.toNat, by omega⟩
   have hst : ∀ o, encS k x = o → storeS s p k x = (match o with | some seg => (putS s p seg, 0) | none => (s, 9)) := fun o ho => by
    unfold storeS
    rw [hk, hm, ho]
    cases o <;> rfl
   by_cases hf : x.f = 0
   ·have hf1 : (x.f != 0) = false := by simp [hf]
    by_cases hx0 : x.b = 0
    ·have h1 : (decide (0 < x.b) && x.f == 0) = false := by simp [hx0]
     have h2 : (x.b == 0 && x.f == 0) = true := by simp [hx0, hf]
     have he : encS k x = some (numSeg x.n K) := by unfold encS; rw [h2, if_pos rfl, hK]; rfl
     rw [hst _ he]
     exact (rstore_num P A0 c0 s hI p x hb k w hV K hK (by omega) m hm hac h1 hf1 (by omega) w1).mono (fun e w' ⟨v, q1, q2, q3⟩ => ⟨v, q1, q2, q3⟩)
    ·have h1 : (decide (0 < x.b) && x.f == 0) = true := by simp [hf]; omega
     have h2 : (x.b == 0 && x.f == 0) = false := by simp [hx0]
     by_cases h8 : k = 8
     ·have he : encS k x = some (ptrSeg x) := by unfold encS; rw [h2, h1, if_neg (by decide), if_pos ⟨rfl, h8⟩]
      rw [hst _ he]
      have hK8 : K = 8 := by omega
      subst hK8
      exact (rstore_ptr P A0 c0 s hI p x hb k w hV 8 hK (by omega) m hm hac h1 hf1 (by simp [h8]) (by omega) w1 (by simp [hf])).mono (fun e w' ⟨v, q1, q2, q3⟩ => ⟨v, q1, q2, q3⟩)
     ·have he : encS k x = none := by unfold encS; rw [h2, h1, if_neg (by decide), if_neg (fun hh => h8 hh.2), if_neg (fun hh => by omega)]
      rw [hst _ he]
      exact hkeep (rstore_no1 P A0 c0 s hI p x hb k w hV hac h1 (bne_iff_ne.mpr h8))
   ·have hf1 : (x.f != 0) = true := bne_iff_ne.mpr hf
    have h1 : (decide (0 < x.b) && x.f == 0) = false := by simp [hf]
    have h2 : (x.b == 0 && x.f == 0) = false := by simp [hf]
    by_cases h1k : k = 1
    ·have he : encS k x = some [⟨2, 0, x⟩] := by unfold encS; rw [h2, h1, if_neg (by decide), if_neg (by simp), if_pos ⟨by omega, h1k⟩]
     rw [hst _ he]
     have hK1 : K = 1 := by omega
     subst hK1
     exact (rstore_part P A0 c0 s hI p x hb k w hV 1 hK (by omega) m hm hac h1 hf1 (by simp [h1k]) w2 w1).mono (fun e w' ⟨v, q1, q2, q3⟩ => ⟨v, q1, q2, q3⟩)
    ·have he : encS k x = none := by unfold encS; rw [h2, h1, if_neg (by decide), if_neg (by simp), if_neg (fun hh => h1k hh.2)]
     rw [hst _ he]
     exact hkeep (rstore_no2 P A0 c0 s hI p x hb k w hV hac h1 hf1 (bne_iff_ne.mpr h1k))
end Go.Proofs.Yteogfjhmjlelnaa.G
set_option linter.unusedVariables false
set_option linter.unusedSimpArgs false
namespace Go.Proofs.Yteogfjhmjlelnaa.G
open Go.RowKit Go.Proofs.Yteogfjhmjlelnaa.B Go.Proofs.YteogfjhmjlelnaaW.PrintWords Go.Proofs.YteogfjhmjlelnaaW.PrintLast Go.Proofs.YteogfjhmjlelnaaW.PrintMore
section
variable {w W : World} {gm A0n : Nat} {gs X : List Nat} {s s0 : List Mb} {A0 : Option Addr} {c0 : Nat}
def Told (W : World) (gm : Nat) (gs X : List Nat) (s' : List Mb) (w' : World) (f : Value → Value) (e : Ending) : Prop :=
  ∃ A c, e = .returned (f (.slice A (eR s').length c)) ∧ RV w' gm gs X (.slice A (eR s').length c) s' ∧ Below W.heap.size W w'
theorem told {s' : List Mb} {w' : World} {f : Value → Value} {e : Ending} {v : Value} {b : Nat} (hL : Live w W gm gs s0) (hX : ∀ x ∈ X, x < W.heap.size) (he : e = .returned (f v)) (hv : Kd.V H.k69 69 w' b (fun k => okR W gm gs X k ∨ W.heap.size ≤ k) v (eR s')) (hb : Below W.heap.size W w') : Told W gm gs X s' w' f e := by
  have hr := RV.ref hL hX hv hb
  obtain ⟨A, c, rfl⟩ := hr.form
  exact ⟨A, c, he, hr, hb⟩
theorem r_alloc (hL : Live w W gm gs s0) (hI : Inv s) (hR : RV W gm gs X (.slice A0 (eR s).length c0) s) (hX : ∀ x ∈ X, x < W.heap.size) (site size : Int) (zero : Bool) :
    Calls Try.prog 23 #[.slice A0 (eR s).length c0, .int .i64 site, .int .i64 size, .bool zero] W fun e w' => Told W gm gs X (allocS s site size zero).1 w' (fun v => .tuple #[v, .int .i64 (allocS s site size zero).2.1, .int .i64 (allocS s site size zero).2.2]) e :=
  (H.crosstreeref10_Alloc.calls 9000 (okR W gm gs X) A0 c0 (eR s) site size zero _ _ _ W hR.val (alloc_eq hI.len site size zero)).mono (fun e w' ⟨v, h1, h2, h3⟩ => told hL hX h1 (by first | exact Kd.N_V (base' := 0) h2 | exact h2) h3)
theorem r_end (hL : Live w W gm gs s0) (hI : Inv s) (hR : RV W gm gs X (.slice A0 (eR s).length c0) s) (hX : ∀ x ∈ X, x < W.heap.size) (n : Int) (hn : I64 n) :
    Calls Try.prog 24 #[.slice A0 (eR s).length c0, .int .i64 n] W fun e w' => Told W gm gs X (endS s n).1 w' (fun v => .tuple #[v, .int .i64 (endS s n).2]) e :=
  (H.crosstreeref10_End.calls (okR W gm gs X) A0 c0 (eR s) n _ _ W hR.val (end_eq hI n hn)).mono (fun e w' ⟨v, h1, h2, h3⟩ => told hL hX h1 (by first | exact Kd.N_V (base' := 0) h2 | exact h2) h3)
theorem r_load (hL : Live w W gm gs s0) (hI : Inv s) (hR : RV W gm gs X (.slice A0 (eR s).length c0) s) (p : Vl) (hp : I64 p.b) (k : Int) :
    Calls Try.prog 25 #[.slice A0 (eR s).length c0, .agg #[.int .i64 p.n, .int .i64 p.b, .int .i64 p.f], .int .i64 k] W fun e w' => e = .returned (.tuple #[.agg #[.int .i64 (loadS s p k).1.n, .int .i64 (loadS s p k).1.b, .int .i64 (loadS s p k).1.f], .int .i64 (loadS s p k).2]) ∧ Below W.heap.size W w' :=
  H.crosstreeref10_Load.calls 9000 A0 c0 (eR s) p.n p.b p.f k _ _ _ _ W (Kd.V_reads' hR.val).2.2 (Kd.V_reads' hR.val).2.1 (load_eq hI p k hp)
theorem r_store (hL : Live w W gm gs s0) (hI : Inv s) (hR : RV W gm gs X (.slice A0 (eR s).length c0) s) (hX : ∀ x ∈ X, x < W.heap.size) (p x : Vl) (hp : I64 p.b) (k : Int) (hw : Well x) :
    Calls Try.prog 26 #[.slice A0 (eR s).length c0, .agg #[.int .i64 p.n, .int .i64 p.b, .int .i64 p.f], .int .i64 k, .agg #[.int .i64 x.n, .int .i64 x.b, .int .i64 x.f]] W fun e w' => Told W gm gs X (storeS s p k x).1 w' (fun v => .tuple #[v, .int .i64 (storeS s p k x).2]) e :=
  (rstore_calls (okR W gm gs X) A0 c0 s hI p x hp k W hR.val hw).mono (fun e w' ⟨v, h1, h2, h3⟩ => told hL hX h1 h2 h3)
theorem r_copy (hL : Live w W gm gs s0) (hI : Inv s) (hR : RV W gm gs X (.slice A0 (eR s).length c0) s) (hX : ∀ x ∈ X, x < W.heap.size) (p q : Vl) (hp : I64 p.b) (hq : I64 q.b) (n : Int) :
    Calls Try.prog 27 #[.slice A0 (eR s).length c0, .agg #[.int .i64 p.n, .int .i64 p.b, .int .i64 p.f], .agg #[.int .i64 q.n, .int .i64 q.b, .int .i64 q.f], .int .i64 n] W fun e w' => Told W gm gs X (copyS s p q n).1 w' (fun v => .tuple #[v, .int .i64 (copyS s p q n).2]) e :=
  (H.crosstreeref10_Copy.calls 9000 (okR W gm gs X) A0 c0 (eR s) p.n p.b p.f q.n q.b q.f n _ _ W hR.val (copy_eq hI p q n hp hq)).mono (fun e w' ⟨v, h1, h2, h3⟩ => told hL hX h1 (by first | exact Kd.N_V (base' := 0) h2 | exact h2) h3)
theorem r_fill (hL : Live w W gm gs s0) (hI : Inv s) (hR : RV W gm gs X (.slice A0 (eR s).length c0) s) (hX : ∀ x ∈ X, x < W.heap.size) (p v n : Vl) (hp : I64 p.b) :
    Calls Try.prog 28 #[.slice A0 (eR s).length c0, .agg #[.int .i64 p.n, .int .i64 p.b, .int .i64 p.f], .agg #[.int .i64 v.n, .int .i64 v.b, .int .i64 v.f], .agg #[.int .i64 n.n, .int .i64 n.b, .int .i64 n.f]] W fun e w' => Told W gm gs X (fillS s p v n).1 w' (fun u => .tuple #[u, .int .i64 (fillS s p v n).2]) e :=
  (H.crosstreeref10_Fill.calls 9000 (okR W gm gs X) A0 c0 (eR s) p.n p.b p.f v.n v.b v.f n.n n.b n.f _ _ W hR.val (fill_eq hI p v n hp)).mono (fun e w' ⟨v, h1, h2, h3⟩ => told hL hX h1 (by first | exact Kd.N_V (base' := 0) h2 | exact h2) h3)
theorem r_add (hL : Live w W gm gs s0) (hI : Inv s) (hR : RV W gm gs X (.slice A0 (eR s).length c0) s) (v : Vl) (hv : I64 v.b) (n : Int) (hn : I64 n) :
    Calls Try.prog 30 #[.slice A0 (eR s).length c0, .agg #[.int .i64 v.n, .int .i64 v.b, .int .i64 v.f], .int .i64 n] W fun e w' => e = .returned (.tuple #[.agg #[.int .i64 (addS s v n).1.n, .int .i64 (addS s v n).1.b, .int .i64 (addS s v n).1.f], .int .i64 (addS s v n).2]) ∧ Below W.heap.size W w' :=
  H.crosstreeref10_Add.calls 9000 A0 c0 (eR s) v.n v.b v.f n _ _ _ _ W (Kd.V_reads' hR.val).2.2 (Kd.V_reads' hR.val).2.1 (add_eq hI v n hv hn)
theorem r_is (hR : RV W gm gs X (.slice A0 (eR s).length c0) s) (n : Int) :
    Calls Try.prog 31 #[.slice A0 (eR s).length c0, .int .i64 n] W fun e w' => e = .returned (.bool (findS s n).isSome) ∧ Below W.heap.size W w' :=
  (H.crosstreeref10_Is.calls A0 c0 (eR s) n _ W (Kd.V_reads' hR.val).2.2 (Kd.V_reads' hR.val).2.1 (is_eq s n)).mono fun e w' h => by
    obtain ⟨he, ⟨nd, rfl⟩⟩ := h
    exact ⟨he, q9 (Below.refl _ _) _⟩
end
end Go.Proofs.Yteogfjhmjlelnaa.G
set_option linter.unusedVariables false
set_option linter.unusedSimpArgs false
namespace Go.Proofs.Yteogfjhmjlelnaa.G
open Go.RowKit Go.Proofs.Yteogfjhmjlelnaa.B Go.Proofs.YteogfjhmjlelnaaW.PrintWords Go.Proofs.YteogfjhmjlelnaaW.PrintLast Go.Proofs.YteogfjhmjlelnaaW.PrintMore
def arrV (a : Vl) : Array Value := #[.int .i64 a.n, .int .i64 a.b, .int .i64 a.f]
theorem plain23 : Plain 23 := ⟨by decide, by decide, by decide⟩
theorem plain55 : Plain 55 := ⟨by decide, by decide, by decide⟩
structure St (w W : World) (gm : Nat) (gs : List Nat) (R : Value) (sM sR : List Mb) (g7 g8 g9 : Nat) (o7 : Array Value) (a b : Vl) : Prop where
  live : Live w W gm gs sM
  rv : RV W gm gs [g9, g8] R sR
  b7 : W.heap[g7]? = some (.cells o7 55 (0, 0))
  b8 : W.heap[g8]? = some (.cells #[.int .i64 a.n, .int .i64 a.b, .int .i64 a.f] 23 (0, 0))
  b9 : W.heap[g9]? = some (.cells #[.int .i64 b.n, .int .i64 b.b, .int .i64 b.f] 23 (0, 0))
  n7 : w.heap.size ≤ g7
  n8 : g7 < g8
  n9 : g8 < g9
section
variable {w W W' : World} {gm g7 g8 g9 : Nat} {gs gs' : List Nat} {R R' : Value} {sM sR s' : List Mb} {o7 : Array Value} {a b : Vl}
theorem St.low (h : St w W gm gs R sM sR g7 g8 g9 o7 a b) (hb : Below W.heap.size W W') : St w W' gm gs R sM sR g7 g8 g9 o7 a b :=
  ⟨h.live.low hb, h.rv.below h.live hb, q19 h.b7 hb, q19 h.b8 hb, q19 h.b9 hb, h.n7, h.n8, h.n9⟩
theorem St.fr (h : St w W gm gs R sM sR g7 g8 g9 o7 a b) (hL : Live w W' gm gs' s') (hF : Fr W W' gm gs) (hg : ∀ g ∈ gs', g ∈ gs ∨ W.heap.size ≤ g) : St w W' gm gs' R s' sR g7 g8 g9 o7 a b :=
  ⟨hL, h.rv.fr h.live hF hg, h.live.boxed h.b7 plain55 hF, h.live.boxed h.b8 plain23 hF, h.live.boxed h.b9 plain23 hF, h.n7, h.n8, h.n9⟩
theorem St.x (h : St w W gm gs R sM sR g7 g8 g9 o7 a b) : ∀ x ∈ [g9, g8], x < W.heap.size := by
  intro x hx
  rcases List.mem_cons.1 hx with rfl | hx
  · exact q30 h.b9
  · obtain rfl := List.mem_singleton.1 hx
    exact q30 h.b8
theorem St.ref (h : St w W gm gs R sM sR g7 g8 g9 o7 a b) (hr : RV W' gm gs [g9, g8] R' s') (hb : Below W.heap.size W W') : St w W' gm gs R' sM s' g7 g8 g9 o7 a b :=
  ⟨h.live.low hb, hr, q19 h.b7 hb, q19 h.b8 hb, q19 h.b9 hb, h.n7, h.n8, h.n9⟩
theorem St.set8 (h : St w W gm gs R sM sR g7 g8 g9 o7 a b) (i : Nat) (u : Value) (a' : Vl) (e : (arrV a).setIfInBounds i u = arrV a') : St w (W.setCell ⟨g8, i, none⟩ u) gm gs R sM sR g7 g8 g9 o7 a' b :=
  ⟨h.live.put h.b8 plain23 (Nat.le_trans h.n7 (Nat.le_of_lt h.n8)) i u, h.rv.put (List.mem_cons_of_mem _ (List.mem_singleton.2 rfl)) (h.live.apart h.b8 plain23).1 i u, q40 h.b7 (Nat.ne_of_lt h.n8) u, q28 h.b8 i u e, q40 h.b9 (Nat.ne_of_gt h.n9) u, h.n7, h.n8, h.n9⟩
theorem St.set9 (h : St w W gm gs R sM sR g7 g8 g9 o7 a b) (i : Nat) (u : Value) (b' : Vl) (e : (arrV b).setIfInBounds i u = arrV b') : St w (W.setCell ⟨g9, i, none⟩ u) gm gs R sM sR g7 g8 g9 o7 a b' :=
  ⟨h.live.put h.b9 plain23 (Nat.le_trans h.n7 (Nat.le_of_lt (Nat.lt_trans h.n8 h.n9))) i u, h.rv.put (List.mem_cons.2 (.inl rfl)) (h.live.apart h.b9 plain23).1 i u, q40 h.b7 (Nat.ne_of_lt (Nat.lt_trans h.n8 h.n9)) u, q40 h.b8 (Nat.ne_of_lt h.n9) u, q28 h.b9 i u e, h.n7, h.n8, h.n9⟩
theorem St.put8 (h : St w W gm gs R sM sR g7 g8 g9 o7 a b) (x : Vl) : St w (((W.setCell ⟨g8, 0, none⟩ (.int .i64 x.n)).setCell ⟨g8, 1, none⟩ (.int .i64 x.b)).setCell ⟨g8, 2, none⟩ (.int .i64 x.f)) gm gs R sM sR g7 g8 g9 o7 x b :=
  ((h.set8 0 (.int .i64 x.n) ⟨x.n, a.b, a.f⟩ rfl).set8 1 (.int .i64 x.b) ⟨x.n, x.b, a.f⟩ rfl).set8 2 (.int .i64 x.f) x rfl
theorem St.put9 (h : St w W gm gs R sM sR g7 g8 g9 o7 a b) (x : Vl) : St w (((W.setCell ⟨g9, 0, none⟩ (.int .i64 x.n)).setCell ⟨g9, 1, none⟩ (.int .i64 x.b)).setCell ⟨g9, 2, none⟩ (.int .i64 x.f)) gm gs R sM sR g7 g8 g9 o7 a x :=
  ((h.set9 0 (.int .i64 x.n) ⟨x.n, b.b, b.f⟩ rfl).set9 1 (.int .i64 x.b) ⟨x.n, x.b, b.f⟩ rfl).set9 2 (.int .i64 x.f) x rfl
theorem St.at8 (h : St w W gm gs R sM sR g7 g8 g9 o7 a b) (n : Int) : St w (W.setCell ⟨g8, 1, none⟩ (.int .i64 n)) gm gs R sM sR g7 g8 g9 o7 ⟨a.n, n, a.f⟩ b := h.set8 1 _ ⟨a.n, n, a.f⟩ rfl
theorem St.at9 (h : St w W gm gs R sM sR g7 g8 g9 o7 a b) (n : Int) : St w (W.setCell ⟨g9, 1, none⟩ (.int .i64 n)) gm gs R sM sR g7 g8 g9 o7 a ⟨b.n, n, b.f⟩ := h.set9 1 _ ⟨b.n, n, b.f⟩ rfl
theorem St.out (h : St w W gm gs R sM sR g7 g8 g9 o7 a b) : Live w W gm gs sM ∧ RV W gm gs [] R sR := ⟨h.live, h.rv.drop⟩
theorem Live.alloc' (h : Live w W gm gs sM) (hs : sM.length ≤ 2000) (site size : Int) (z : Bool) :
    Calls Try.prog 12 #[.pointer (some ⟨gm, 0, none⟩), .int .i64 site, .int .i64 size, .bool z] W fun e w' => e = .returned (.tuple #[.int .i64 (allocS sM site size z).2.1, .int .i64 (allocS sM site size z).2.2]) ∧ ∃ gs', Live w w' gm gs' (allocS sM site size z).1 ∧ Fr W w' gm gs ∧ ∀ g ∈ gs', g ∈ gs ∨ W.heap.size ≤ g :=
  (alloc_calls h.mine.holds hs site size z).mono fun e w' ⟨h1, gs', h2, h3, h4, h5⟩ => ⟨h1, gs', ⟨h.mine.fr h.size h2 h3, Nat.le_trans h.size h3.size⟩, h3, h4⟩
end
end Go.Proofs.Yteogfjhmjlelnaa.G
set_option linter.unusedVariables false
set_option linter.unusedSimpArgs false
namespace Go.Proofs.Yteogfjhmjlelnaa.G
open Go.RowKit Go.Proofs.Yteogfjhmjlelnaa.B Go.Proofs.YteogfjhmjlelnaaW.PrintWords Go.Proofs.YteogfjhmjlelnaaW.PrintLast Go.Proofs.YteogfjhmjlelnaaW.PrintMore
theorem same_l0 (l : List H.S42) (hl : l.length ≤ 4096) : ∀ (k i : Nat), i ≤ l.length → l.length - i < k → H.crosstreeref10_Same.l0 k l l (i : Int) = some true := by
  intro k
  induction k with
  | zero => intro i h1 h2; omega
  | succ k ih =>
    intro i h1 h2
    unfold H.crosstreeref10_Same.l0
    by_cases hi : i < l.length
    · have hi' : (i : Int) < (l.length : Int) := by omega
      have hw : wrap64 ((i : Int) + 1) = ((i + 1 : Nat) : Int) := by unfold wrap64; omega
      rw [if_pos hi', if_pos (Int.natCast_nonneg i), if_pos hi', if_neg (by simp), hw]
      exact ih (i + 1) (by omega) (by omega)
    · rw [if_neg (by omega)]
theorem same_f (l : List H.S42) (hl : l.length ≤ 4096) : H.crosstreeref10_Same.f 5000 l l = some true := by
  unfold H.crosstreeref10_Same.f
  rw [if_pos rfl]
  exact same_l0 l hl 5000 0 (Nat.zero_le _) (by omega)
theorem r_same {W : World} {b c c2 n : Nat} {A A2 : Option Addr} {l : List Bt} (h : Row W b (.slice A n c) l) (hl : l.length ≤ 4096) (h2 : Kd.C H.k42 W A2 (l.map e42).length (l.map e42)) (hc2 : (l.map e42).length ≤ c2) :
    Calls Try.prog 22 #[.slice A n c, .slice A2 (l.map e42).length c2] W fun e w' => e = .returned (.bool true) ∧ Below W.heap.size W w' := by
  obtain ⟨hn, hnc, hC⟩ := h.C
  have hm : (l.map e42).length = l.length := List.length_map ..
  obtain rfl : n = (l.map e42).length := by omega
  exact (H.crosstreeref10_Same.calls 5000 A c (l.map e42) A2 c2 (l.map e42) true W hC hnc h2 hc2 (same_f _ (by omega))).mono fun e w' ⟨he, ⟨nd, hw⟩⟩ => ⟨he, by subst hw; exact q9 (Below.refl _ _) _⟩
end Go.Proofs.Yteogfjhmjlelnaa.G
