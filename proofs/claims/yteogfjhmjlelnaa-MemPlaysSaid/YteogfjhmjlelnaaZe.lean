/- Merged texts (by slim.py): what the law's proof names. -/
import Derived.Test.YteogfjhmjlelnaaZd
namespace Go.Proofs.Yteogfjhmjlelnaa.H
open Go.RowKit Go.Proofs.YteogfjhmjlelnaaW.PrintWords Go.Proofs.YteogfjhmjlelnaaW.PrintLast Go.Proofs.YteogfjhmjlelnaaW.PrintMore
attribute [local go_sem] max2_int min2_int max_two min_two max_three min_three max_four min_four
set_option linter.unusedVariables false
set_option linter.unusedSimpArgs false
mutual
def crosstreeref10_Load.l0 : Nat → Int → List (S42) → Int → Int → Option (Int × Int × Int × Int)
 | 0, _, _, _, _ => none
 | k + 1, x2, x9, x10, x11 => if x11 < x2 then (if 0 ≤ x11 then (if x11 < (x9.length : Int) then (if ((q27 x9 x11).f0) = 1 then (crosstreeref10_Load.l0 k x2 x9 (wrap64 (x10 + 1)) (wrap64 (x11 + 1))) else (crosstreeref10_Load.l0 k x2 x9 x10 (wrap64 (x11 + 1)))) else (none)) else (none)) else (if x10 = x2 then (if x2 > 1 then (if 0 ≤ (wrap64 (x2 - 1)) then (if (wrap64 (x2 - 1)) < (x9.length : Int) then (crosstreeref10_Load.j1 k x2 x9 0 (decide (((q27 x9 (wrap64 (x2 - 1))).f1) ≥ 128))) else (none)) else (none)) else (crosstreeref10_Load.j1 k x2 x9 0 false)) else (if x10 > 0 then (crosstreeref10_Load.j4 k x2 x9 true) else (if 0 < (x9.length : Int) then (crosstreeref10_Load.j4 k x2 x9 (((q27 x9 0).f0) != 2)) else (none))))
def crosstreeref10_Load.j1 : Nat → Int → List (S42) → Int → Bool → Option (Int × Int × Int × Int)
 | 0, _, _, _, _ => none
 | k + 1, x2, x9, x12, x64 => if x64 = true then (crosstreeref10_Load.j2 k x2 x9 (-1)) else (crosstreeref10_Load.j2 k x2 x9 x12)
def crosstreeref10_Load.j2 : Nat → Int → List (S42) → Int → Option (Int × Int × Int × Int)
 | 0, _, _, _ => none
 | k + 1, x2, x9, x12 => crosstreeref10_Load.l1 k x9 x12 (wrap64 (x2 - 1))
def crosstreeref10_Load.l1 : Nat → List (S42) → Int → Int → Option (Int × Int × Int × Int)
 | 0, _, _, _ => none
 | k + 1, x9, x12, x13 => if x13 ≥ 0 then (if 0 ≤ x13 then (if x13 < (x9.length : Int) then (crosstreeref10_Load.l1 k x9 (wrap64 ((wrap64 (x12 * 256)) + (wrap64 ((q27 x9 x13).f1)))) (wrap64 (x13 - 1))) else (none)) else (none)) else (some (x12, 0, 0, 0))
def crosstreeref10_Load.j4 : Nat → Int → List (S42) → Bool → Option (Int × Int × Int × Int)
 | 0, _, _, _ => none
 | k + 1, x2, x9, x90 => if x90 = true then (some (0, 0, 0, 9)) else (if 0 < (x9.length : Int) then (if x2 = 1 then (some ((q27 x9 0).f2.f0, (q27 x9 0).f2.f1, (q27 x9 0).f2.f2, 0)) else (crosstreeref10_Load.l2 k x2 x9 0 ((q27 x9 0).f2.f0) ((q27 x9 0).f2.f1) ((q27 x9 0).f2.f2))) else (none))
def crosstreeref10_Load.l2 : Nat → Int → List (S42) → Int → Int → Int → Int → Option (Int × Int × Int × Int)
 | 0, _, _, _, _, _, _ => none
 | k + 1, x2, x9, x15, x184000, x184001, x184002 => if x15 < x2 then (if x2 = 8 then (if 0 ≤ x15 then (if x15 < (x9.length : Int) then (if ((q27 x9 x15).f0) = 2 then (if ((q27 x9 x15).f2.f2) = (wrap64 (x15 + 1)) then (if ((q27 x9 x15).f2.f0) = x184000 then (if ((q27 x9 x15).f2.f1) = x184001 then (crosstreeref10_Load.l2 k x2 x9 (wrap64 (x15 + 1)) x184000 x184001 x184002) else (some (0, 0, 0, 9))) else (some (0, 0, 0, 9))) else (some (0, 0, 0, 9))) else (some (0, 0, 0, 9))) else (none)) else (none)) else (some (0, 0, 0, 9))) else (some (x184000, x184001, 0, 0))
end
def crosstreeref10_Load.f (k : Nat) (l0 : List (S69)) (a1_0 : Int) (a1_1 : Int) (a1_2 : Int) (a2 : Int) : Option (Int × Int × Int × Int) := (crosstreeref10_access.f k l0 a1_0 a1_1 a1_2 a2).bind fun t172 => (if t172 = 0 then (if 0 ≤ (wrap64 (a1_1 - 1)) then (if (wrap64 (a1_1 - 1)) < (l0.length : Int) then (if 0 ≤ a1_0 then (if a1_0 ≤ (wrap64 (a1_0 + a2)) then (if (wrap64 (a1_0 + a2)) ≤ (((q23 l0 (wrap64 (a1_1 - 1))).f1).length : Int) then (crosstreeref10_Load.l0 k a2 ((((q23 l0 (wrap64 (a1_1 - 1))).f1).take ((wrap64 (a1_0 + a2)) : Int).toNat).drop (a1_0 : Int).toNat) 0 0) else (none)) else (none)) else (none)) else (none)) else (none)) else (some (0, 0, 0, t172)))
theorem crosstreeref10_Load.mono_l : ∀ k, (∀ y0 y1 y2 y3, LeO (crosstreeref10_Load.l0 k y0 y1 y2 y3) (crosstreeref10_Load.l0 (k + 1) y0 y1 y2 y3)) ∧ (∀ y0 y1 y2 y3, LeO (crosstreeref10_Load.j1 k y0 y1 y2 y3) (crosstreeref10_Load.j1 (k + 1) y0 y1 y2 y3)) ∧ (∀ y0 y1 y2, LeO (crosstreeref10_Load.j2 k y0 y1 y2) (crosstreeref10_Load.j2 (k + 1) y0 y1 y2)) ∧ (∀ y0 y1 y2, LeO (crosstreeref10_Load.l1 k y0 y1 y2) (crosstreeref10_Load.l1 (k + 1) y0 y1 y2)) ∧ (∀ y0 y1 y2, LeO (crosstreeref10_Load.j4 k y0 y1 y2) (crosstreeref10_Load.j4 (k + 1) y0 y1 y2)) ∧ (∀ y0 y1 y2 y3 y4 y5, LeO (crosstreeref10_Load.l2 k y0 y1 y2 y3 y4 y5) (crosstreeref10_Load.l2 (k + 1) y0 y1 y2 y3 y4 y5))
 | 0 => ⟨fun _ _ _ _ r h => by simp [crosstreeref10_Load.l0] at h, fun _ _ _ _ r h => by simp [crosstreeref10_Load.j1] at h, fun _ _ _ r h => by simp [crosstreeref10_Load.j2] at h, fun _ _ _ r h => by simp [crosstreeref10_Load.l1] at h, fun _ _ _ r h => by simp [crosstreeref10_Load.j4] at h, fun _ _ _ _ _ _ r h => by simp [crosstreeref10_Load.l2] at h⟩
 | k + 1 => by
  obtain ⟨ih0, ih1, ih2, ih3, ih4, ih5⟩ := crosstreeref10_Load.mono_l k
  refine ⟨?_, ?_, ?_, ?_, ?_, ?_⟩
  ·intro y0 y1 y2 y3
   unfold crosstreeref10_Load.l0
   repeat' first
   | (with_reducible exact ih0 _ _ _ _)
   | (with_reducible exact ih1 _ _ _ _)
   | (with_reducible exact ih2 _ _ _)
   | (with_reducible exact ih3 _ _ _)
   | (with_reducible exact ih4 _ _ _)
   | (with_reducible exact ih5 _ _ _ _ _ _)
   | (with_reducible exact crosstreeref10_access.mono _ _ _ _ _ _)
   | (with_reducible exact LeO.refl _)
   | (with_reducible exact LeO.none _)
   | (with_reducible refine LeO.ite ?_ ?_)
   | (with_reducible refine LeO.bind ?_ (fun _ => ?_))
   | exact ih0 _ _ _ _
   | exact ih1 _ _ _ _
   | exact ih2 _ _ _
   | exact ih3 _ _ _
   | exact ih4 _ _ _
   | exact ih5 _ _ _ _ _ _
   | exact crosstreeref10_access.mono _ _ _ _ _ _
   | exact LeO.none _
   | refine LeO.ite ?_ ?_
   | refine LeO.bind ?_ (fun _ => ?_)
  ·intro y0 y1 y2 y3
   unfold crosstreeref10_Load.j1
   repeat' first
   | (with_reducible exact ih0 _ _ _ _)
   | (with_reducible exact ih1 _ _ _ _)
   | (with_reducible exact ih2 _ _ _)
   | (with_reducible exact ih3 _ _ _)
   | (with_reducible exact ih4 _ _ _)
   | (with_reducible exact ih5 _ _ _ _ _ _)
   | (with_reducible exact crosstreeref10_access.mono _ _ _ _ _ _)
   | (with_reducible exact LeO.refl _)
   | (with_reducible exact LeO.none _)
   | (with_reducible refine LeO.ite ?_ ?_)
   | (with_reducible refine LeO.bind ?_ (fun _ => ?_))
   | exact ih0 _ _ _ _
   | exact ih1 _ _ _ _
   | exact ih2 _ _ _
   | exact ih3 _ _ _
   | exact ih4 _ _ _
   | exact ih5 _ _ _ _ _ _
   | exact crosstreeref10_access.mono _ _ _ _ _ _
   | exact LeO.none _
   | refine LeO.ite ?_ ?_
   | refine LeO.bind ?_ (fun _ => ?_)
  ·intro y0 y1 y2
   unfold crosstreeref10_Load.j2
   repeat' first
   | (with_reducible exact ih0 _ _ _ _)
   | (with_reducible exact ih1 _ _ _ _)
   | (with_reducible exact ih2 _ _ _)
   | (with_reducible exact ih3 _ _ _)
   | (with_reducible exact ih4 _ _ _)
   | (with_reducible exact ih5 _ _ _ _ _ _)
   | (with_reducible exact crosstreeref10_access.mono _ _ _ _ _ _)
   | (with_reducible exact LeO.refl _)
   | (with_reducible exact LeO.none _)
   | (with_reducible refine LeO.ite ?_ ?_)
   | (with_reducible refine LeO.bind ?_ (fun _ => ?_))
   | exact ih0 _ _ _ _
   | exact ih1 _ _ _ _
   | exact ih2 _ _ _
   | exact ih3 _ _ _
   | exact ih4 _ _ _
   | exact ih5 _ _ _ _ _ _
   | exact crosstreeref10_access.mono _ _ _ _ _ _
   | exact LeO.none _
   | refine LeO.ite ?_ ?_
   | refine LeO.bind ?_ (fun _ => ?_)
  ·intro y0 y1 y2
   unfold crosstreeref10_Load.l1
   repeat' first
   | (with_reducible exact ih0 _ _ _ _)
   | (with_reducible exact ih1 _ _ _ _)
   | (with_reducible exact ih2 _ _ _)
   | (with_reducible exact ih3 _ _ _)
   | (with_reducible exact ih4 _ _ _)
   | (with_reducible exact ih5 _ _ _ _ _ _)
   | (with_reducible exact crosstreeref10_access.mono _ _ _ _ _ _)
   | (with_reducible exact LeO.refl _)
   | (with_reducible exact LeO.none _)
   | (with_reducible refine LeO.ite ?_ ?_)
   | (with_reducible refine LeO.bind ?_ (fun _ => ?_))
   | exact ih0 _ _ _ _
   | exact ih1 _ _ _ _
   | exact ih2 _ _ _
   | exact ih3 _ _ _
   | exact ih4 _ _ _
   | exact ih5 _ _ _ _ _ _
   | exact crosstreeref10_access.mono _ _ _ _ _ _
   | exact LeO.none _
   | refine LeO.ite ?_ ?_
   | refine LeO.bind ?_ (fun _ => ?_)
  ·intro y0 y1 y2
   unfold crosstreeref10_Load.j4
   repeat' first
   | (with_reducible exact ih0 _ _ _ _)
   | (with_reducible exact ih1 _ _ _ _)
   | (with_reducible exact ih2 _ _ _)
   | (with_reducible exact ih3 _ _ _)
   | (with_reducible exact ih4 _ _ _)
   | (with_reducible exact ih5 _ _ _ _ _ _)
   | (with_reducible exact crosstreeref10_access.mono _ _ _ _ _ _)
   | (with_reducible exact LeO.refl _)
   | (with_reducible exact LeO.none _)
   | (with_reducible refine LeO.ite ?_ ?_)
   | (with_reducible refine LeO.bind ?_ (fun _ => ?_))
   | exact ih0 _ _ _ _
   | exact ih1 _ _ _ _
   | exact ih2 _ _ _
   | exact ih3 _ _ _
   | exact ih4 _ _ _
   | exact ih5 _ _ _ _ _ _
   | exact crosstreeref10_access.mono _ _ _ _ _ _
   | exact LeO.none _
   | refine LeO.ite ?_ ?_
   | refine LeO.bind ?_ (fun _ => ?_)
  ·intro y0 y1 y2 y3 y4 y5
   unfold crosstreeref10_Load.l2
   repeat' first
   | (with_reducible exact ih0 _ _ _ _)
   | (with_reducible exact ih1 _ _ _ _)
   | (with_reducible exact ih2 _ _ _)
   | (with_reducible exact ih3 _ _ _)
   | (with_reducible exact ih4 _ _ _)
   | (with_reducible exact ih5 _ _ _ _ _ _)
   | (with_reducible exact crosstreeref10_access.mono _ _ _ _ _ _)
   | (with_reducible exact LeO.refl _)
   | (with_reducible exact LeO.none _)
   | (with_reducible refine LeO.ite ?_ ?_)
   | (with_reducible refine LeO.bind ?_ (fun _ => ?_))
   | exact ih0 _ _ _ _
   | exact ih1 _ _ _ _
   | exact ih2 _ _ _
   | exact ih3 _ _ _
   | exact ih4 _ _ _
   | exact ih5 _ _ _ _ _ _
   | exact crosstreeref10_access.mono _ _ _ _ _ _
   | exact LeO.none _
   | refine LeO.ite ?_ ?_
   | refine LeO.bind ?_ (fun _ => ?_)
theorem crosstreeref10_Load.mono : ∀ a0 a1 a2 a3 a4 k, LeO (crosstreeref10_Load.f k a0 a1 a2 a3 a4) (crosstreeref10_Load.f (k + 1) a0 a1 a2 a3 a4) := by
 intro a0 a1 a2 a3 a4 k
 obtain ⟨ih0, ih1, ih2, ih3, ih4, ih5⟩ := crosstreeref10_Load.mono_l k
 unfold crosstreeref10_Load.f
 repeat' first
   | (with_reducible exact ih0 _ _ _ _)
   | (with_reducible exact ih1 _ _ _ _)
   | (with_reducible exact ih2 _ _ _)
   | (with_reducible exact ih3 _ _ _)
   | (with_reducible exact ih4 _ _ _)
   | (with_reducible exact ih5 _ _ _ _ _ _)
   | (with_reducible exact crosstreeref10_access.mono _ _ _ _ _ _)
   | (with_reducible exact LeO.refl _)
   | (with_reducible exact LeO.none _)
   | (with_reducible refine LeO.ite ?_ ?_)
   | (with_reducible refine LeO.bind ?_ (fun _ => ?_))
   | exact ih0 _ _ _ _
   | exact ih1 _ _ _ _
   | exact ih2 _ _ _
   | exact ih3 _ _ _
   | exact ih4 _ _ _
   | exact ih5 _ _ _ _ _ _
   | exact crosstreeref10_access.mono _ _ _ _ _ _
   | exact LeO.none _
   | refine LeO.ite ?_ ?_
   | refine LeO.bind ?_ (fun _ => ?_)
set_option maxHeartbeats 8000000 in
set_option maxRecDepth 100000 in
theorem crosstreeref10_Load.calls (k : Nat) (A0 : Option Addr) (c0 : Nat) (l0 : List (S69)) (a1_0 : Int) (a1_1 : Int) (a1_2 : Int) (a2 : Int) (r1 : Int) (r2 : Int) (r3 : Int) (r4 : Int) (w : World) (hr0 : Kd.C k69 w A0 l0.length l0) (hc0 : l0.length ≤ c0) (h : crosstreeref10_Load.f k l0 a1_0 a1_1 a1_2 a2 = some (r1, r2, r3, r4)) :
  Calls Try.prog 25 #[.slice A0 l0.length c0, .agg #[.int .i64 a1_0, .int .i64 a1_1, .int .i64 a1_2], .int .i64 a2] w fun e w' => e = .returned (.tuple #[.agg #[.int .i64 r1, .int .i64 r2, .int .i64 r3], .int .i64 r4]) ∧ Below w.heap.size w w' := by
 have hu23 := Try.underlying23
 have HR0 := Aside0.mk hr0
 have HC0 := Aside0.mk hc0
 clear hr0 hc0
 have HB := Aside0.mk (Below.refl w.heap.size w)
 have H : ((crosstreeref10_access.f k l0 a1_0 a1_1 a1_2 a2).bind fun t172 => (if t172 = 0 then (if 0 ≤ (wrap64 (a1_1 - 1)) then (if (wrap64 (a1_1 - 1)) < (l0.length : Int) then (if 0 ≤ a1_0 then (if a1_0 ≤ (wrap64 (a1_0 + a2)) then (if (wrap64 (a1_0 + a2)) ≤ (((q23 l0 (wrap64 (a1_1 - 1))).f1).length : Int) then (crosstreeref10_Load.l0 k a2 ((((q23 l0 (wrap64 (a1_1 - 1))).f1).take ((wrap64 (a1_0 + a2)) : Int).toNat).drop (a1_0 : Int).toNat) 0 0) else (none)) else (none)) else (none)) else (none)) else (none)) else (some (0, 0, 0, t172)))) = some (r1, r2, r3, r4) := h
 clear h
 replace H := Option.bind_eq_some_iff.mp H
 obtain ⟨t172, A40, H⟩ := H
 replace H : (if t172 = 0 then (if 0 ≤ (wrap64 (a1_1 - 1)) then (if (wrap64 (a1_1 - 1)) < (l0.length : Int) then (if 0 ≤ a1_0 then (if a1_0 ≤ (wrap64 (a1_0 + a2)) then (if (wrap64 (a1_0 + a2)) ≤ (((q23 l0 (wrap64 (a1_1 - 1))).f1).length : Int) then (crosstreeref10_Load.l0 k a2 ((((q23 l0 (wrap64 (a1_1 - 1))).f1).take ((wrap64 (a1_0 + a2)) : Int).toNat).drop (a1_0 : Int).toNat) 0 0) else (none)) else (none)) else (none)) else (none)) else (none)) else (some (0, 0, 0, t172))) = some (r1, r2, r3, r4) := H
 have A4 := Aside0.mk A40
 clear A40
 by_cases c5 : t172 = 0
 ·rw [if_pos c5] at H
  have c5b0 : (t172 == 0) = true := beq_iff_eq.mpr c5
  have c5b1 : (t172 != 0) = false := bne_eq_false_iff_eq.mpr c5
  clear c5
  obtain ⟨ji6, hji6⟩ : ∃ j_ : Int, (wrap64 (a1_1 - 1)) = j_ := ⟨_, rfl⟩
  replace H : (if 0 ≤ (ji6) then (if (ji6) < (l0.length : Int) then (if 0 ≤ a1_0 then (if a1_0 ≤ (wrap64 (a1_0 + a2)) then (if (wrap64 (a1_0 + a2)) ≤ (((q23 l0 (ji6)).f1).length : Int) then (crosstreeref10_Load.l0 k a2 ((((q23 l0 (ji6)).f1).take ((wrap64 (a1_0 + a2)) : Int).toNat).drop (a1_0 : Int).toNat) 0 0) else (none)) else (none)) else (none)) else (none)) else (none)) = some (r1, r2, r3, r4) := by first | (rw [hji6] at H; exact H) | (simp only [hji6] at H ⊢; exact H)
  (try rw [hji6] at A4)
  have hji6w : (IntKind.i64.wrap (a1_1 - 1)) = ji6 := (i64_w _).trans hji6
  by_cases c7 : 0 ≤ (ji6)
  ·rw [if_pos c7] at H
   have c7b0 : decide (0 ≤ (ji6)) = true := decide_eq_true c7
   clear c7
   by_cases c8 : (ji6) < (l0.length : Int)
   ·rw [if_pos c8] at H
    have c8b0 : decide ((ji6) < (l0.length : Int)) = true := decide_eq_true c8
    clear c8
    by_cases c9 : 0 ≤ a1_0
    ·rw [if_pos c9] at H
     have c9b0 := eq_true c9
     have c9b1 : decide (0 ≤ a1_0) = true := decide_eq_true c9
     clear c9
     by_cases c10 : a1_0 ≤ (wrap64 (a1_0 + a2))
     ·rw [if_pos c10] at H
      have c10b0 := eq_true c10
      have c10b1 : decide (a1_0 ≤ (wrap64 (a1_0 + a2))) = true := decide_eq_true c10
      by_cases c11 : (wrap64 (a1_0 + a2)) ≤ (((q23 l0 (ji6)).f1).length : Int)
      ·rw [if_pos c11] at H
       have c11b0 := eq_true c11
       have c11b1 : decide ((wrap64 (a1_0 + a2)) ≤ (((q23 l0 (ji6)).f1).length : Int)) = true := decide_eq_true c11
       obtain ⟨y174, hy174⟩ : ∃ y_ : List (S42), y_ = ((((q23 l0 (ji6)).f1).take ((wrap64 (a1_0 + a2)) : Int).toNat).drop (a1_0 : Int).toNat) := ⟨_, rfl⟩
       replace H : (crosstreeref10_Load.l0 k a2 y174 0 0) = some (r1, r2, r3, r4) := by first | (rw [hy174]; with_reducible exact H) | (have H2_ := (Option.bind_some _ _).symm.trans H; rw [hy174]; with_reducible exact H2_) | (have H2_ := (Option.bind_some _ _).symm.trans H; with_reducible exact H2_) | with_reducible exact H | (rw [hy174]; exact H) | exact H
       have Ny174 := Aside0.mk hy174
       clear hy174
       have H' := Aside0.mk H
       clear H
       go_enter Try.func25, Try.ntmps25
       go_wp2_with (first | ((with_reducible refine q32 (N := 4) rfl ?_); refine q29 ?hg (N := 4) ?hd (cs := #[.int .i64 a1_0, .int .i64 a1_1, .int .i64 a1_2]) (t := 23) ?hr ?_; (case hd => rfl); (case hg => rfl); (case hr => first | (go_simp; done) | (go_simp; rfl)); intro gb170 hg w12 hbox hb; have n0_ := Aside0.mk (q20 (by repeat (first | (with_reducible first | exact HB.out | apply q10 | apply q9 | apply q11) | exact HB.out)) hb); have n1_ := Aside0.mk (hbox); have n2_ := Aside0.mk ((by rw [hg]; exact (q21 (by repeat (first | (with_reducible first | exact HB.out | apply q10 | apply q9 | apply q11) | exact HB.out))) : w.heap.size ≤ gb170)); have n3_ := Aside0.mk ((by rw [hg]; exact (q21 (by repeat (first | (with_reducible first | exact HB.out | apply q10 | apply q9 | apply q11) | exact HB.out))) : w.heap.size ≤ gb170)); clear HB; have HB := n0_; have BK170 := n1_; have GW170 := n2_; have GE170 := n3_; clear n0_ n1_ n2_ n3_; clear hb hbox hg) | ((with_reducible refine q32 (N := 6) rfl ?_); refine q29 ?hg (N := 6) ?hd (cs := #[.int .i64 0, .int .i64 0, .int .i64 0]) (t := 23) ?hr ?_; (case hd => rfl); (case hg => rfl); (case hr => first | (go_simp; done) | (go_simp; rfl)); intro gb171 hg w13 hbox hb; have n0_ := Aside0.mk (q19 (g := gb170) (o := .cells #[.int .i64 a1_0, .int .i64 a1_1, .int .i64 a1_2] 23 (0, 0)) (by (with_reducible repeat (first | refine q13 ?_ _ | refine q15 ?_ | refine q12 ?_ _)); exact BK170.out) hb); have n1_ := Aside0.mk (q20 (by repeat (first | (with_reducible first | exact HB.out | apply q10 | apply q9 | apply q11 | refine q14 ?_ GE170.out) | exact HB.out)) hb); have n2_ := Aside0.mk (hbox); have n3_ := Aside0.mk ((by rw [hg]; exact (q21 (by repeat (first | (with_reducible first | exact HB.out | apply q10 | apply q9 | apply q11 | refine q14 ?_ GE170.out) | exact HB.out))) : w.heap.size ≤ gb171)); have n4_ := Aside0.mk ((by rw [hg]; exact (q21 (by repeat (first | (with_reducible first | exact HB.out | apply q10 | apply q9 | apply q11 | refine q14 ?_ GE170.out) | exact HB.out))) : w.heap.size ≤ gb171)); have n5_ := Aside0.mk ((by rw [hg]; exact Nat.ne_of_lt (q30 (g := gb170) (o := .cells #[.int .i64 a1_0, .int .i64 a1_1, .int .i64 a1_2] 23 (0, 0)) (by (with_reducible repeat (first | refine q13 ?_ _ | refine q15 ?_ | refine q12 ?_ _)); exact BK170.out)) : gb170 ≠ gb171)); have n6_ := Aside0.mk ((by rw [hg]; exact Nat.ne_of_gt (q30 (g := gb170) (o := .cells #[.int .i64 a1_0, .int .i64 a1_1, .int .i64 a1_2] 23 (0, 0)) (by (with_reducible repeat (first | refine q13 ?_ _ | refine q15 ?_ | refine q12 ?_ _)); exact BK170.out)) : gb171 ≠ gb170)); clear BK170; clear HB; have BK170 := n0_; have HB := n1_; have BK171 := n2_; have GW171 := n3_; have GE171 := n4_; have NB170_171 := n5_; have NB171_170 := n6_; clear n0_ n1_ n2_ n3_ n4_ n5_ n6_; clear hb hbox hg; have hnb14 := NB170_171.out; have hnc14 := NB171_170.out; have hcz15_0 : w13.cell? ⟨gb170, 0, none⟩ = some (.int .i64 a1_0) := (q16 BK170.out 0).trans rfl; have hcz15_1 : w13.cell? ⟨gb170, 1, none⟩ = some (.int .i64 a1_1) := (q16 BK170.out 1).trans rfl; have hcz15_2 : w13.cell? ⟨gb170, 2, none⟩ = some (.int .i64 a1_2) := (q16 BK170.out 2).trans rfl; have hfz15_0 := q0 BK170.out 0; have hfz15_1 := q0 BK170.out 1; have hfz15_2 := q0 BK170.out 2) | (go_at_call 39; (with_reducible refine (crosstreeref10_access.calls k _ _ l0 a1_0 a1_1 a1_2 a2 t172 _ ?side1 ?side2 A4.out).mono ?_); (case side1 => repeat (first | exact (Kd.C_below HR0.out HB.out) | (with_reducible refine Kd.C_alloc ?_ _) | (with_reducible refine Kd.C_drewN ?_ _) | (with_reducible refine Kd.C_drew ?_))); (case side2 => exact HC0.out); rintro e w16 ⟨rfl, hb⟩; have n0_ := Aside0.mk (q19 (g := gb170) (o := .cells #[.int .i64 a1_0, .int .i64 a1_1, .int .i64 a1_2] 23 (0, 0)) (by (with_reducible repeat (first | refine q13 ?_ _ | refine q15 ?_ | refine q12 ?_ _)); exact BK170.out) hb); have n1_ := Aside0.mk (q19 (g := gb171) (o := .cells #[.int .i64 0, .int .i64 0, .int .i64 0] 23 (0, 0)) (by (with_reducible repeat (first | refine q13 ?_ _ | refine q15 ?_ | refine q12 ?_ _)); exact BK171.out) hb); have n2_ := Aside0.mk (q20 (by repeat (first | (with_reducible first | exact HB.out | apply q10 | apply q9 | apply q11 | refine q14 ?_ GE170.out | refine q14 ?_ GE171.out) | exact HB.out)) hb); clear BK170; clear BK171; clear HB; have BK170 := n0_; have BK171 := n1_; have HB := n2_; clear n0_ n1_ n2_; (try clear hb); (try clear hb2); (try clear hk); (try clear hi); have hcz17_0 : w16.cell? ⟨gb170, 0, none⟩ = some (.int .i64 a1_0) := (q16 BK170.out 0).trans rfl; have hcz17_1 : w16.cell? ⟨gb170, 1, none⟩ = some (.int .i64 a1_1) := (q16 BK170.out 1).trans rfl; have hcz17_2 : w16.cell? ⟨gb170, 2, none⟩ = some (.int .i64 a1_2) := (q16 BK170.out 2).trans rfl; have hfz17_0 := q0 BK170.out 0; have hfz17_1 := q0 BK170.out 1; have hfz17_2 := q0 BK170.out 2; have p173 : 0 ≤ ((ji6) : Int) := of_decide_eq_true (by first | (with_reducible assumption) | assumption); have q173 : (ji6) < (l0.length : Int) := of_decide_eq_true (by first | (with_reducible assumption) | assumption); obtain ⟨ad173, A173_1, c173_1, e173, hx173_0, hx173_1, hx173_2, hl173_1, hi173_1⟩ := at_T69 HR0.out (ji6) p173 q173; cases e173; replace hx173_0 := (HB.out.cell (World.block_lt_of_cell? w _ hx173_0)).trans hx173_0; replace hx173_1 := (HB.out.cell (World.block_lt_of_cell? w _ hx173_1)).trans hx173_1; replace hx173_2 := (HB.out.cell (World.block_lt_of_cell? w _ hx173_2)).trans hx173_2; have HR173_1 := Aside0.mk hi173_1; have HC173_1 := Aside0.mk hl173_1; clear hi173_1 hl173_1; replace p173 := eq_true p173; replace q173 := eq_true q173; have q18 : ((wrap64 (a1_0 + a2)) : Int) ≤ ((((q23 l0 (ji6)).f1).length : Int) : Int) := of_decide_eq_true (by first | (with_reducible assumption) | assumption); obtain ⟨i018, hi018, _, hsz18, _⟩ := info_parts info42; have hroom18 : ((q23 l0 (ji6)).f1).length ≤ c173_1 := HC173_1.out; have hC18 : Kd.C k42 _ A173_1 ((q23 l0 (ji6)).f1).length ((q23 l0 (ji6)).f1) := HR173_1.out; have ql18 : (a1_0 : Int) ≤ ((wrap64 (a1_0 + a2)) : Int) := of_decide_eq_true (by first | (with_reducible assumption) | assumption); have q018 : (0 : Int) ≤ (a1_0 : Int) := of_decide_eq_true (by first | (with_reducible assumption) | assumption); have hcut18 := cut_mid (P := Try.prog) 38 42 .i64 .i64 Try.underlying38 hi018 5 hsz18 A173_1 ((q23 l0 (ji6)).f1).length c173_1 a1_0 (wrap64 (a1_0 + a2)) q018 ql18 q18 hroom18; have hr18 := Kd.C_mid (lo := (a1_0 : Int).toNat) (hi := ((wrap64 (a1_0 + a2)) : Int).toNat) (c := c173_1) hC18 (by omega) (by omega) hroom18; obtain ⟨A18, hA18⟩ : ∃ A1, A1 = (if c173_1 = (a1_0 : Int).toNat then A173_1 else (A173_1 : Option Addr).map (·.add ((a1_0 : Int).toNat * 5))) := ⟨_, rfl⟩; obtain ⟨c18, hc18⟩ : ∃ c1, c1 = c173_1 - (a1_0 : Int).toNat := ⟨_, rfl⟩; have hy18 : y174.length = ((wrap64 (a1_0 + a2)) : Int).toNat - (a1_0 : Int).toNat := (by rw [Ny174.out, List.length_drop, List.length_take] <;> omega); rw [show (((q23 l0 (ji6)).f1).take ((wrap64 (a1_0 + a2)) : Int).toNat).drop (a1_0 : Int).toNat = y174 from Ny174.out.symm] at hr18; replace hr18 : Kd.C k42 _ A18 y174.length y174 := (by rw [hA18]; exact hr18); rw [← hy18, ← hA18, ← hc18] at hcut18; have HR177 := Aside0.mk hr18; have HC177 := Aside0.mk (show y174.length ≤ c18 from by rw [hy18, hc18]; exact Nat.sub_le_sub_right (Nat.le_trans (by omega) hroom18) _); clear hr18 hC18 hroom18 hi018 hsz18 hc18; have KY18 := Aside0.mk hy18; have KA18 := Aside0.mk hA18; clear hy18 hA18; replace q18 := eq_true q18))
       repeat (go_quiet (first | ((with_reducible refine q32 (N := 4) rfl ?_); refine q29 ?hg (N := 4) ?hd (cs := #[.int .i64 a1_0, .int .i64 a1_1, .int .i64 a1_2]) (t := 23) ?hr ?_; (case hd => rfl); (case hg => rfl); (case hr => first | (go_simp; done) | (go_simp; rfl)); intro gb170 hg w12 hbox hb; have n0_ := Aside0.mk (q20 (by repeat (first | (with_reducible first | exact HB.out | apply q10 | apply q9 | apply q11) | exact HB.out)) hb); have n1_ := Aside0.mk (hbox); have n2_ := Aside0.mk ((by rw [hg]; exact (q21 (by repeat (first | (with_reducible first | exact HB.out | apply q10 | apply q9 | apply q11) | exact HB.out))) : w.heap.size ≤ gb170)); have n3_ := Aside0.mk ((by rw [hg]; exact (q21 (by repeat (first | (with_reducible first | exact HB.out | apply q10 | apply q9 | apply q11) | exact HB.out))) : w.heap.size ≤ gb170)); clear HB; have HB := n0_; have BK170 := n1_; have GW170 := n2_; have GE170 := n3_; clear n0_ n1_ n2_ n3_; clear hb hbox hg) | ((with_reducible refine q32 (N := 6) rfl ?_); refine q29 ?hg (N := 6) ?hd (cs := #[.int .i64 0, .int .i64 0, .int .i64 0]) (t := 23) ?hr ?_; (case hd => rfl); (case hg => rfl); (case hr => first | (go_simp; done) | (go_simp; rfl)); intro gb171 hg w13 hbox hb; have n0_ := Aside0.mk (q19 (g := gb170) (o := .cells #[.int .i64 a1_0, .int .i64 a1_1, .int .i64 a1_2] 23 (0, 0)) (by (with_reducible repeat (first | refine q13 ?_ _ | refine q15 ?_ | refine q12 ?_ _)); exact BK170.out) hb); have n1_ := Aside0.mk (q20 (by repeat (first | (with_reducible first | exact HB.out | apply q10 | apply q9 | apply q11 | refine q14 ?_ GE170.out) | exact HB.out)) hb); have n2_ := Aside0.mk (hbox); have n3_ := Aside0.mk ((by rw [hg]; exact (q21 (by repeat (first | (with_reducible first | exact HB.out | apply q10 | apply q9 | apply q11 | refine q14 ?_ GE170.out) | exact HB.out))) : w.heap.size ≤ gb171)); have n4_ := Aside0.mk ((by rw [hg]; exact (q21 (by repeat (first | (with_reducible first | exact HB.out | apply q10 | apply q9 | apply q11 | refine q14 ?_ GE170.out) | exact HB.out))) : w.heap.size ≤ gb171)); have n5_ := Aside0.mk ((by rw [hg]; exact Nat.ne_of_lt (q30 (g := gb170) (o := .cells #[.int .i64 a1_0, .int .i64 a1_1, .int .i64 a1_2] 23 (0, 0)) (by (with_reducible repeat (first | refine q13 ?_ _ | refine q15 ?_ | refine q12 ?_ _)); exact BK170.out)) : gb170 ≠ gb171)); have n6_ := Aside0.mk ((by rw [hg]; exact Nat.ne_of_gt (q30 (g := gb170) (o := .cells #[.int .i64 a1_0, .int .i64 a1_1, .int .i64 a1_2] 23 (0, 0)) (by (with_reducible repeat (first | refine q13 ?_ _ | refine q15 ?_ | refine q12 ?_ _)); exact BK170.out)) : gb171 ≠ gb170)); clear BK170; clear HB; have BK170 := n0_; have HB := n1_; have BK171 := n2_; have GW171 := n3_; have GE171 := n4_; have NB170_171 := n5_; have NB171_170 := n6_; clear n0_ n1_ n2_ n3_ n4_ n5_ n6_; clear hb hbox hg; have hnb14 := NB170_171.out; have hnc14 := NB171_170.out; have hcz15_0 : w13.cell? ⟨gb170, 0, none⟩ = some (.int .i64 a1_0) := (q16 BK170.out 0).trans rfl; have hcz15_1 : w13.cell? ⟨gb170, 1, none⟩ = some (.int .i64 a1_1) := (q16 BK170.out 1).trans rfl; have hcz15_2 : w13.cell? ⟨gb170, 2, none⟩ = some (.int .i64 a1_2) := (q16 BK170.out 2).trans rfl; have hfz15_0 := q0 BK170.out 0; have hfz15_1 := q0 BK170.out 1; have hfz15_2 := q0 BK170.out 2) | (go_at_call 39; (with_reducible refine (crosstreeref10_access.calls k _ _ l0 a1_0 a1_1 a1_2 a2 t172 _ ?side1 ?side2 A4.out).mono ?_); (case side1 => repeat (first | exact (Kd.C_below HR0.out HB.out) | (with_reducible refine Kd.C_alloc ?_ _) | (with_reducible refine Kd.C_drewN ?_ _) | (with_reducible refine Kd.C_drew ?_))); (case side2 => exact HC0.out); rintro e w16 ⟨rfl, hb⟩; have n0_ := Aside0.mk (q19 (g := gb170) (o := .cells #[.int .i64 a1_0, .int .i64 a1_1, .int .i64 a1_2] 23 (0, 0)) (by (with_reducible repeat (first | refine q13 ?_ _ | refine q15 ?_ | refine q12 ?_ _)); exact BK170.out) hb); have n1_ := Aside0.mk (q19 (g := gb171) (o := .cells #[.int .i64 0, .int .i64 0, .int .i64 0] 23 (0, 0)) (by (with_reducible repeat (first | refine q13 ?_ _ | refine q15 ?_ | refine q12 ?_ _)); exact BK171.out) hb); have n2_ := Aside0.mk (q20 (by repeat (first | (with_reducible first | exact HB.out | apply q10 | apply q9 | apply q11 | refine q14 ?_ GE170.out | refine q14 ?_ GE171.out) | exact HB.out)) hb); clear BK170; clear BK171; clear HB; have BK170 := n0_; have BK171 := n1_; have HB := n2_; clear n0_ n1_ n2_; (try clear hb); (try clear hb2); (try clear hk); (try clear hi); have hcz17_0 : w16.cell? ⟨gb170, 0, none⟩ = some (.int .i64 a1_0) := (q16 BK170.out 0).trans rfl; have hcz17_1 : w16.cell? ⟨gb170, 1, none⟩ = some (.int .i64 a1_1) := (q16 BK170.out 1).trans rfl; have hcz17_2 : w16.cell? ⟨gb170, 2, none⟩ = some (.int .i64 a1_2) := (q16 BK170.out 2).trans rfl; have hfz17_0 := q0 BK170.out 0; have hfz17_1 := q0 BK170.out 1; have hfz17_2 := q0 BK170.out 2; have p173 : 0 ≤ ((ji6) : Int) := of_decide_eq_true (by first | (with_reducible assumption) | assumption); have q173 : (ji6) < (l0.length : Int) := of_decide_eq_true (by first | (with_reducible assumption) | assumption); obtain ⟨ad173, A173_1, c173_1, e173, hx173_0, hx173_1, hx173_2, hl173_1, hi173_1⟩ := at_T69 HR0.out (ji6) p173 q173; cases e173; replace hx173_0 := (HB.out.cell (World.block_lt_of_cell? w _ hx173_0)).trans hx173_0; replace hx173_1 := (HB.out.cell (World.block_lt_of_cell? w _ hx173_1)).trans hx173_1; replace hx173_2 := (HB.out.cell (World.block_lt_of_cell? w _ hx173_2)).trans hx173_2; have HR173_1 := Aside0.mk hi173_1; have HC173_1 := Aside0.mk hl173_1; clear hi173_1 hl173_1; replace p173 := eq_true p173; replace q173 := eq_true q173; have q18 : ((wrap64 (a1_0 + a2)) : Int) ≤ ((((q23 l0 (ji6)).f1).length : Int) : Int) := of_decide_eq_true (by first | (with_reducible assumption) | assumption); obtain ⟨i018, hi018, _, hsz18, _⟩ := info_parts info42; have hroom18 : ((q23 l0 (ji6)).f1).length ≤ c173_1 := HC173_1.out; have hC18 : Kd.C k42 _ A173_1 ((q23 l0 (ji6)).f1).length ((q23 l0 (ji6)).f1) := HR173_1.out; have ql18 : (a1_0 : Int) ≤ ((wrap64 (a1_0 + a2)) : Int) := of_decide_eq_true (by first | (with_reducible assumption) | assumption); have q018 : (0 : Int) ≤ (a1_0 : Int) := of_decide_eq_true (by first | (with_reducible assumption) | assumption); have hcut18 := cut_mid (P := Try.prog) 38 42 .i64 .i64 Try.underlying38 hi018 5 hsz18 A173_1 ((q23 l0 (ji6)).f1).length c173_1 a1_0 (wrap64 (a1_0 + a2)) q018 ql18 q18 hroom18; have hr18 := Kd.C_mid (lo := (a1_0 : Int).toNat) (hi := ((wrap64 (a1_0 + a2)) : Int).toNat) (c := c173_1) hC18 (by omega) (by omega) hroom18; obtain ⟨A18, hA18⟩ : ∃ A1, A1 = (if c173_1 = (a1_0 : Int).toNat then A173_1 else (A173_1 : Option Addr).map (·.add ((a1_0 : Int).toNat * 5))) := ⟨_, rfl⟩; obtain ⟨c18, hc18⟩ : ∃ c1, c1 = c173_1 - (a1_0 : Int).toNat := ⟨_, rfl⟩; have hy18 : y174.length = ((wrap64 (a1_0 + a2)) : Int).toNat - (a1_0 : Int).toNat := (by rw [Ny174.out, List.length_drop, List.length_take] <;> omega); rw [show (((q23 l0 (ji6)).f1).take ((wrap64 (a1_0 + a2)) : Int).toNat).drop (a1_0 : Int).toNat = y174 from Ny174.out.symm] at hr18; replace hr18 : Kd.C k42 _ A18 y174.length y174 := (by rw [hA18]; exact hr18); rw [← hy18, ← hA18, ← hc18] at hcut18; have HR177 := Aside0.mk hr18; have HC177 := Aside0.mk (show y174.length ≤ c18 from by rw [hy18, hc18]; exact Nat.sub_le_sub_right (Nat.le_trans (by omega) hroom18) _); clear hr18 hC18 hroom18 hi018 hsz18 hc18; have KY18 := Aside0.mk hy18; have KA18 := Aside0.mk hA18; clear hy18 hA18; replace q18 := eq_true q18)); try go_wp2_with (first | ((with_reducible refine q32 (N := 4) rfl ?_); refine q29 ?hg (N := 4) ?hd (cs := #[.int .i64 a1_0, .int .i64 a1_1, .int .i64 a1_2]) (t := 23) ?hr ?_; (case hd => rfl); (case hg => rfl); (case hr => first | (go_simp; done) | (go_simp; rfl)); intro gb170 hg w12 hbox hb; have n0_ := Aside0.mk (q20 (by repeat (first | (with_reducible first | exact HB.out | apply q10 | apply q9 | apply q11) | exact HB.out)) hb); have n1_ := Aside0.mk (hbox); have n2_ := Aside0.mk ((by rw [hg]; exact (q21 (by repeat (first | (with_reducible first | exact HB.out | apply q10 | apply q9 | apply q11) | exact HB.out))) : w.heap.size ≤ gb170)); have n3_ := Aside0.mk ((by rw [hg]; exact (q21 (by repeat (first | (with_reducible first | exact HB.out | apply q10 | apply q9 | apply q11) | exact HB.out))) : w.heap.size ≤ gb170)); clear HB; have HB := n0_; have BK170 := n1_; have GW170 := n2_; have GE170 := n3_; clear n0_ n1_ n2_ n3_; clear hb hbox hg) | ((with_reducible refine q32 (N := 6) rfl ?_); refine q29 ?hg (N := 6) ?hd (cs := #[.int .i64 0, .int .i64 0, .int .i64 0]) (t := 23) ?hr ?_; (case hd => rfl); (case hg => rfl); (case hr => first | (go_simp; done) | (go_simp; rfl)); intro gb171 hg w13 hbox hb; have n0_ := Aside0.mk (q19 (g := gb170) (o := .cells #[.int .i64 a1_0, .int .i64 a1_1, .int .i64 a1_2] 23 (0, 0)) (by (with_reducible repeat (first | refine q13 ?_ _ | refine q15 ?_ | refine q12 ?_ _)); exact BK170.out) hb); have n1_ := Aside0.mk (q20 (by repeat (first | (with_reducible first | exact HB.out | apply q10 | apply q9 | apply q11 | refine q14 ?_ GE170.out) | exact HB.out)) hb); have n2_ := Aside0.mk (hbox); have n3_ := Aside0.mk ((by rw [hg]; exact (q21 (by repeat (first | (with_reducible first | exact HB.out | apply q10 | apply q9 | apply q11 | refine q14 ?_ GE170.out) | exact HB.out))) : w.heap.size ≤ gb171)); have n4_ := Aside0.mk ((by rw [hg]; exact (q21 (by repeat (first | (with_reducible first | exact HB.out | apply q10 | apply q9 | apply q11 | refine q14 ?_ GE170.out) | exact HB.out))) : w.heap.size ≤ gb171)); have n5_ := Aside0.mk ((by rw [hg]; exact Nat.ne_of_lt (q30 (g := gb170) (o := .cells #[.int .i64 a1_0, .int .i64 a1_1, .int .i64 a1_2] 23 (0, 0)) (by (with_reducible repeat (first | refine q13 ?_ _ | refine q15 ?_ | refine q12 ?_ _)); exact BK170.out)) : gb170 ≠ gb171)); have n6_ := Aside0.mk ((by rw [hg]; exact Nat.ne_of_gt (q30 (g := gb170) (o := .cells #[.int .i64 a1_0, .int .i64 a1_1, .int .i64 a1_2] 23 (0, 0)) (by (with_reducible repeat (first | refine q13 ?_ _ | refine q15 ?_ | refine q12 ?_ _)); exact BK170.out)) : gb171 ≠ gb170)); clear BK170; clear HB; have BK170 := n0_; have HB := n1_; have BK171 := n2_; have GW171 := n3_; have GE171 := n4_; have NB170_171 := n5_; have NB171_170 := n6_; clear n0_ n1_ n2_ n3_ n4_ n5_ n6_; clear hb hbox hg; have hnb14 := NB170_171.out; have hnc14 := NB171_170.out; have hcz15_0 : w13.cell? ⟨gb170, 0, none⟩ = some (.int .i64 a1_0) := (q16 BK170.out 0).trans rfl; have hcz15_1 : w13.cell? ⟨gb170, 1, none⟩ = some (.int .i64 a1_1) := (q16 BK170.out 1).trans rfl; have hcz15_2 : w13.cell? ⟨gb170, 2, none⟩ = some (.int .i64 a1_2) := (q16 BK170.out 2).trans rfl; have hfz15_0 := q0 BK170.out 0; have hfz15_1 := q0 BK170.out 1; have hfz15_2 := q0 BK170.out 2) | (go_at_call 39; (with_reducible refine (crosstreeref10_access.calls k _ _ l0 a1_0 a1_1 a1_2 a2 t172 _ ?side1 ?side2 A4.out).mono ?_); (case side1 => repeat (first | exact (Kd.C_below HR0.out HB.out) | (with_reducible refine Kd.C_alloc ?_ _) | (with_reducible refine Kd.C_drewN ?_ _) | (with_reducible refine Kd.C_drew ?_))); (case side2 => exact HC0.out); rintro e w16 ⟨rfl, hb⟩; have n0_ := Aside0.mk (q19 (g := gb170) (o := .cells #[.int .i64 a1_0, .int .i64 a1_1, .int .i64 a1_2] 23 (0, 0)) (by (with_reducible repeat (first | refine q13 ?_ _ | refine q15 ?_ | refine q12 ?_ _)); exact BK170.out) hb); have n1_ := Aside0.mk (q19 (g := gb171) (o := .cells #[.int .i64 0, .int .i64 0, .int .i64 0] 23 (0, 0)) (by (with_reducible repeat (first | refine q13 ?_ _ | refine q15 ?_ | refine q12 ?_ _)); exact BK171.out) hb); have n2_ := Aside0.mk (q20 (by repeat (first | (with_reducible first | exact HB.out | apply q10 | apply q9 | apply q11 | refine q14 ?_ GE170.out | refine q14 ?_ GE171.out) | exact HB.out)) hb); clear BK170; clear BK171; clear HB; have BK170 := n0_; have BK171 := n1_; have HB := n2_; clear n0_ n1_ n2_; (try clear hb); (try clear hb2); (try clear hk); (try clear hi); have hcz17_0 : w16.cell? ⟨gb170, 0, none⟩ = some (.int .i64 a1_0) := (q16 BK170.out 0).trans rfl; have hcz17_1 : w16.cell? ⟨gb170, 1, none⟩ = some (.int .i64 a1_1) := (q16 BK170.out 1).trans rfl; have hcz17_2 : w16.cell? ⟨gb170, 2, none⟩ = some (.int .i64 a1_2) := (q16 BK170.out 2).trans rfl; have hfz17_0 := q0 BK170.out 0; have hfz17_1 := q0 BK170.out 1; have hfz17_2 := q0 BK170.out 2; have p173 : 0 ≤ ((ji6) : Int) := of_decide_eq_true (by first | (with_reducible assumption) | assumption); have q173 : (ji6) < (l0.length : Int) := of_decide_eq_true (by first | (with_reducible assumption) | assumption); obtain ⟨ad173, A173_1, c173_1, e173, hx173_0, hx173_1, hx173_2, hl173_1, hi173_1⟩ := at_T69 HR0.out (ji6) p173 q173; cases e173; replace hx173_0 := (HB.out.cell (World.block_lt_of_cell? w _ hx173_0)).trans hx173_0; replace hx173_1 := (HB.out.cell (World.block_lt_of_cell? w _ hx173_1)).trans hx173_1; replace hx173_2 := (HB.out.cell (World.block_lt_of_cell? w _ hx173_2)).trans hx173_2; have HR173_1 := Aside0.mk hi173_1; have HC173_1 := Aside0.mk hl173_1; clear hi173_1 hl173_1; replace p173 := eq_true p173; replace q173 := eq_true q173; have q18 : ((wrap64 (a1_0 + a2)) : Int) ≤ ((((q23 l0 (ji6)).f1).length : Int) : Int) := of_decide_eq_true (by first | (with_reducible assumption) | assumption); obtain ⟨i018, hi018, _, hsz18, _⟩ := info_parts info42; have hroom18 : ((q23 l0 (ji6)).f1).length ≤ c173_1 := HC173_1.out; have hC18 : Kd.C k42 _ A173_1 ((q23 l0 (ji6)).f1).length ((q23 l0 (ji6)).f1) := HR173_1.out; have ql18 : (a1_0 : Int) ≤ ((wrap64 (a1_0 + a2)) : Int) := of_decide_eq_true (by first | (with_reducible assumption) | assumption); have q018 : (0 : Int) ≤ (a1_0 : Int) := of_decide_eq_true (by first | (with_reducible assumption) | assumption); have hcut18 := cut_mid (P := Try.prog) 38 42 .i64 .i64 Try.underlying38 hi018 5 hsz18 A173_1 ((q23 l0 (ji6)).f1).length c173_1 a1_0 (wrap64 (a1_0 + a2)) q018 ql18 q18 hroom18; have hr18 := Kd.C_mid (lo := (a1_0 : Int).toNat) (hi := ((wrap64 (a1_0 + a2)) : Int).toNat) (c := c173_1) hC18 (by omega) (by omega) hroom18; obtain ⟨A18, hA18⟩ : ∃ A1, A1 = (if c173_1 = (a1_0 : Int).toNat then A173_1 else (A173_1 : Option Addr).map (·.add ((a1_0 : Int).toNat * 5))) := ⟨_, rfl⟩; obtain ⟨c18, hc18⟩ : ∃ c1, c1 = c173_1 - (a1_0 : Int).toNat := ⟨_, rfl⟩; have hy18 : y174.length = ((wrap64 (a1_0 + a2)) : Int).toNat - (a1_0 : Int).toNat := (by rw [Ny174.out, List.length_drop, List.length_take] <;> omega); rw [show (((q23 l0 (ji6)).f1).take ((wrap64 (a1_0 + a2)) : Int).toNat).drop (a1_0 : Int).toNat = y174 from Ny174.out.symm] at hr18; replace hr18 : Kd.C k42 _ A18 y174.length y174 := (by rw [hA18]; exact hr18); rw [← hy18, ← hA18, ← hc18] at hcut18; have HR177 := Aside0.mk hr18; have HC177 := Aside0.mk (show y174.length ≤ c18 from by rw [hy18, hc18]; exact Nat.sub_le_sub_right (Nat.le_trans (by omega) hroom18) _); clear hr18 hC18 hroom18 hi018 hsz18 hc18; have KY18 := Aside0.mk hy18; have KA18 := Aside0.mk hA18; clear hy18 hA18; replace q18 := eq_true q18)))
       go_loopg [10, 11] k (fun kq v10 v11 w' => ∃ (x10_1 : Int) (x11_1 : Int), v10 = .int .i64 x10_1 ∧ v11 = .int .i64 x11_1 ∧ Aside0 (crosstreeref10_Load.l0 kq a2 y174 x10_1 x11_1 = some (r1, r2, r3, r4)) ∧ Aside0 (kq ≤ k) ∧ Aside0 (w'.heap[gb170]? = some (.cells #[.int .i64 a1_0, .int .i64 a1_1, .int .i64 a1_2] 23 (0, 0))) ∧ Aside0 (w'.heap[gb171]? = some (.cells #[.int .i64 0, .int .i64 0, .int .i64 0] 23 (0, 0))) ∧ Aside0 (Below w.heap.size w w'))
       case atStart => exact ⟨(0), (0), (by first | rfl | (simp; done) | (simp [*]; done)), (by first | rfl | (simp; done) | (simp [*]; done)), H', ⟨Nat.le_refl _⟩, ⟨by (with_reducible repeat (first | refine q13 ?_ _ | refine q15 ?_ | refine q12 ?_ _)); exact BK170.out⟩, ⟨by (with_reducible repeat (first | refine q13 ?_ _ | refine q15 ?_ | refine q12 ?_ _)); exact BK171.out⟩, ⟨by repeat (first | (with_reducible first | exact HB.out | apply q10 | apply q9 | apply q11 | refine q14 ?_ GE170.out | refine q14 ?_ GE171.out) | exact HB.out)⟩⟩
       case round =>
        clear H'
        try clear c1
        try clear p1
        try clear q1
        try clear hx1
        try clear c2
        try clear p2
        try clear c5
        try clear c5b0
        try clear c5b1
        try clear p6
        try clear c7
        try clear c7b0
        try clear c8
        try clear c8b0
        try clear c9
        try clear c9b0
        try clear c9b1
        try clear c10
        try clear c10b0
        try clear c10b1
        try clear c11
        try clear c11b0
        try clear c11b1
        try clear c14
        try clear c17
        try clear p17
        try clear q17
        try clear hx17
        try clear c18
        try clear q18
        try clear hcz15_0
        try clear hcz15_1
        try clear hcz15_2
        try clear hcz17_0
        try clear hcz17_1
        try clear hcz17_2
        try clear hfz15_0
        try clear hfz15_1
        try clear hfz15_2
        try clear hfz17_0
        try clear hfz17_1
        try clear hfz17_2
        try clear hx173_0
        try clear hx173_1
        try clear hx173_2
        try clear p173
        try clear q018
        try clear q173
        try clear q18
        obtain ⟨x10_1, x11_1, rfl, rfl, HA, HK1, BK170, BK171, HB⟩ := hrel
        cases gk with
        | zero => exact absurd HA.out (by simp [crosstreeref10_Load.l0])
        | succ k1 =>
         have H := HA.out
         clear HA
         simp only [crosstreeref10_Load.l0] at H
         by_cases c19 : x11_1 < a2
         ·rw [if_pos c19] at H
          have c19b0 : decide (x11_1 < a2) = true := decide_eq_true c19
          clear c19
          by_cases c20 : 0 ≤ x11_1
          ·rw [if_pos c20] at H
           have c20b0 : decide (0 ≤ x11_1) = true := decide_eq_true c20
           clear c20
           by_cases c21 : x11_1 < (y174.length : Int)
           ·rw [if_pos c21] at H
            have c21b0 : decide (x11_1 < (y174.length : Int)) = true := decide_eq_true c21
            clear c21
            by_cases c22 : ((q27 y174 x11_1).f0) = 1
            ·rw [if_pos c22] at H
             have c22b0 : (((q27 y174 x11_1).f0) == 1) = true := beq_iff_eq.mpr c22
             have c22b1 : (((q27 y174 x11_1).f0) != 1) = false := bne_eq_false_iff_eq.mpr c22
             clear c22
             have H' := Aside0.mk H
             clear H
             have p178 : 0 ≤ (x11_1 : Int) := of_decide_eq_true (by first | (with_reducible assumption) | assumption)
             have q178 : x11_1 < (y174.length : Int) := of_decide_eq_true (by first | (with_reducible assumption) | assumption)
             obtain ⟨ad178, e178, hx178_0, hx178_1, hx178_2, hx178_3, hx178_4⟩ := at_T42 HR177.out x11_1 p178 q178
             cases e178
             replace hx178_0 := (HB.out.cell (World.block_lt_of_cell? w _ hx178_0)).trans hx178_0
             replace hx178_1 := (HB.out.cell (World.block_lt_of_cell? w _ hx178_1)).trans hx178_1
             replace hx178_2 := (HB.out.cell (World.block_lt_of_cell? w _ hx178_2)).trans hx178_2
             replace hx178_3 := (HB.out.cell (World.block_lt_of_cell? w _ hx178_3)).trans hx178_3
             replace hx178_4 := (HB.out.cell (World.block_lt_of_cell? w _ hx178_4)).trans hx178_4
             replace p178 := eq_true p178
             replace q178 := eq_true q178
             go_wp2
             repeat (go_quiet (fail); try go_wp2)
             go_roundg k1
             case measure => have := HK1.out; omega
             case rel => exact ⟨(wrap64 (x10_1 + 1)), (wrap64 (x11_1 + 1)), (by first | rfl | (simp; done) | (simp [*]; done)), (by first | rfl | (simp; done) | (simp [*]; done)), H', ⟨by have := HK1.out; omega⟩, ⟨by (with_reducible repeat (first | refine q13 ?_ _ | refine q15 ?_ | refine q12 ?_ _)); exact BK170.out⟩, ⟨by (with_reducible repeat (first | refine q13 ?_ _ | refine q15 ?_ | refine q12 ?_ _)); exact BK171.out⟩, ⟨by repeat (first | (with_reducible first | exact HB.out | apply q10 | apply q9 | apply q11 | refine q14 ?_ GE170.out | refine q14 ?_ GE171.out) | exact HB.out)⟩⟩
            ·rw [if_neg c22] at H
             have c22b0 : (((q27 y174 x11_1).f0) == 1) = false := beq_eq_false_iff_ne.mpr c22
             have c22b1 : (((q27 y174 x11_1).f0) != 1) = true := bne_iff_ne.mpr c22
             have H' := Aside0.mk H
             clear H
             have p178 : 0 ≤ (x11_1 : Int) := of_decide_eq_true (by first | (with_reducible assumption) | assumption)
             have q178 : x11_1 < (y174.length : Int) := of_decide_eq_true (by first | (with_reducible assumption) | assumption)
             obtain ⟨ad178, e178, hx178_0, hx178_1, hx178_2, hx178_3, hx178_4⟩ := at_T42 HR177.out x11_1 p178 q178
             cases e178
             replace hx178_0 := (HB.out.cell (World.block_lt_of_cell? w _ hx178_0)).trans hx178_0
             replace hx178_1 := (HB.out.cell (World.block_lt_of_cell? w _ hx178_1)).trans hx178_1
             replace hx178_2 := (HB.out.cell (World.block_lt_of_cell? w _ hx178_2)).trans hx178_2
             replace hx178_3 := (HB.out.cell (World.block_lt_of_cell? w _ hx178_3)).trans hx178_3
             replace hx178_4 := (HB.out.cell (World.block_lt_of_cell? w _ hx178_4)).trans hx178_4
             replace p178 := eq_true p178
             replace q178 := eq_true q178
             go_wp2
             repeat (go_quiet (fail); try go_wp2)
             go_roundg k1
             case measure => have := HK1.out; omega
             case rel => exact ⟨(x10_1), (wrap64 (x11_1 + 1)), (by first | rfl | (simp; done) | (simp [*]; done)), (by first | rfl | (simp; done) | (simp [*]; done)), H', ⟨by have := HK1.out; omega⟩, ⟨by (with_reducible repeat (first | refine q13 ?_ _ | refine q15 ?_ | refine q12 ?_ _)); exact BK170.out⟩, ⟨by (with_reducible repeat (first | refine q13 ?_ _ | refine q15 ?_ | refine q12 ?_ _)); exact BK171.out⟩, ⟨by repeat (first | (with_reducible first | exact HB.out | apply q10 | apply q9 | apply q11 | refine q14 ?_ GE170.out | refine q14 ?_ GE171.out) | exact HB.out)⟩⟩
           ·rw [if_neg c21] at H
            exact absurd H (by simp)
          ·rw [if_neg c20] at H
           exact absurd H (by simp)
         ·rw [if_neg c19] at H
          have c19b0 : decide (x11_1 < a2) = false := decide_eq_false c19
          clear c19
          by_cases c23 : x10_1 = a2
          ·rw [if_pos c23] at H
           have c23b0 : (x10_1 == a2) = true := beq_iff_eq.mpr c23
           have c23b1 : (x10_1 != a2) = false := bne_eq_false_iff_eq.mpr c23
           clear c23
           have HC24 := Aside0.mk H
           clear H
           go_upto_region 13 with (fail)
           repeat (go_quiet (fail); go_upto_region 13 with (fail))
           go_cut [64] (fun v64 wc => ∃ (kq : Nat) (x64_23 : Bool), v64 = .bool x64_23 ∧ Aside0 (crosstreeref10_Load.j1 kq a2 y174 0 x64_23 = some (r1, r2, r3, r4)) ∧ Aside0 (kq ≤ k1) ∧ Aside0 (wc.heap[gb170]? = some (.cells #[.int .i64 a1_0, .int .i64 a1_1, .int .i64 a1_2] 23 (0, 0))) ∧ Aside0 (wc.heap[gb171]? = some (.cells #[.int .i64 0, .int .i64 0, .int .i64 0] 23 (0, 0))) ∧ Aside0 (Below w.heap.size w wc))
           case first =>
            have H := HC24.out
            clear HC24
            by_cases c25 : a2 > 1
            ·rw [if_pos c25] at H
             have c25b0 : decide (1 < a2) = true := decide_eq_true c25
             clear c25
             (first | rw [c25b0] | (simp only [i64_w, i32_w]; rw [c25b0]) | skip)
             obtain ⟨ji26, hji26⟩ : ∃ j_ : Int, (wrap64 (a2 - 1)) = j_ := ⟨_, rfl⟩
             replace H : (if 0 ≤ (ji26) then (if (ji26) < (y174.length : Int) then (crosstreeref10_Load.j1 k1 a2 y174 0 (decide (((q27 y174 (ji26)).f1) ≥ 128))) else (none)) else (none)) = some (r1, r2, r3, r4) := by first | (rw [hji26] at H; exact H) | (simp only [hji26] at H ⊢; exact H)
             have hji26w : (IntKind.i64.wrap (a2 - 1)) = ji26 := (i64_w _).trans hji26
             by_cases c27 : 0 ≤ (ji26)
             ·rw [if_pos c27] at H
              have c27b0 : decide (0 ≤ (ji26)) = true := decide_eq_true c27
              clear c27
              by_cases c28 : (ji26) < (y174.length : Int)
              ·rw [if_pos c28] at H
               have c28b0 : decide ((ji26) < (y174.length : Int)) = true := decide_eq_true c28
               clear c28
               have H' := Aside0.mk H
               clear H
               have p179 : 0 ≤ ((ji26) : Int) := of_decide_eq_true (by first | (with_reducible assumption) | assumption)
               have q179 : (ji26) < (y174.length : Int) := of_decide_eq_true (by first | (with_reducible assumption) | assumption)
               obtain ⟨ad179, e179, hx179_0, hx179_1, hx179_2, hx179_3, hx179_4⟩ := at_T42 HR177.out (ji26) p179 q179
               cases e179
               replace hx179_0 := (HB.out.cell (World.block_lt_of_cell? w _ hx179_0)).trans hx179_0
               replace hx179_1 := (HB.out.cell (World.block_lt_of_cell? w _ hx179_1)).trans hx179_1
               replace hx179_2 := (HB.out.cell (World.block_lt_of_cell? w _ hx179_2)).trans hx179_2
               replace hx179_3 := (HB.out.cell (World.block_lt_of_cell? w _ hx179_3)).trans hx179_3
               replace hx179_4 := (HB.out.cell (World.block_lt_of_cell? w _ hx179_4)).trans hx179_4
               replace p179 := eq_true p179
               replace q179 := eq_true q179
               go_wp2
               repeat (go_quiet (fail); try go_wp2)
               go_meet
               case rel => exact ⟨_, (decide (((q27 y174 (ji26)).f1) ≥ 128)), (by first | rfl | (simp; done) | (simp only [← hji26] <;> (first | rfl | simp)) | (simp [*]; done)), H', ⟨by have := HK1.out; first | omega | exact Nat.le_refl _⟩, ⟨by (with_reducible repeat (first | refine q13 ?_ _ | refine q15 ?_ | refine q12 ?_ _)); exact BK170.out⟩, ⟨by (with_reducible repeat (first | refine q13 ?_ _ | refine q15 ?_ | refine q12 ?_ _)); exact BK171.out⟩, ⟨by repeat (first | (with_reducible first | exact HB.out | apply q10 | apply q9 | apply q11 | refine q14 ?_ GE170.out | refine q14 ?_ GE171.out) | exact HB.out)⟩⟩
              ·rw [if_neg c28] at H
               exact absurd H (by simp)
             ·rw [if_neg c27] at H
              exact absurd H (by simp)
            ·rw [if_neg c25] at H
             have c25b0 : decide (1 < a2) = false := decide_eq_false c25
             clear c25
             (first | rw [c25b0] | (simp only [i64_w, i32_w]; rw [c25b0]) | skip)
             have H' := Aside0.mk H
             clear H
             go_wp2
             repeat (go_quiet (fail); try go_wp2)
             go_meet
             case rel => exact ⟨_, (false), (by first | rfl | (simp; done) | (simp [*]; done)), H', ⟨by have := HK1.out; first | omega | exact Nat.le_refl _⟩, ⟨by (with_reducible repeat (first | refine q13 ?_ _ | refine q15 ?_ | refine q12 ?_ _)); exact BK170.out⟩, ⟨by (with_reducible repeat (first | refine q13 ?_ _ | refine q15 ?_ | refine q12 ?_ _)); exact BK171.out⟩, ⟨by repeat (first | (with_reducible first | exact HB.out | apply q10 | apply q9 | apply q11 | refine q14 ?_ GE170.out | refine q14 ?_ GE171.out) | exact HB.out)⟩⟩
           case rest =>
            clear HC24
            try clear c1
            try clear p1
            try clear q1
            try clear hx1
            try clear c2
            try clear p2
            try clear c5
            try clear c5b0
            try clear c5b1
            try clear p6
            try clear c7
            try clear c7b0
            try clear c8
            try clear c8b0
            try clear c9
            try clear c9b0
            try clear c9b1
            try clear c10
            try clear c10b0
            try clear c10b1
            try clear c11
            try clear c11b0
            try clear c11b1
            try clear c14
            try clear c17
            try clear p17
            try clear q17
            try clear hx17
            try clear c18
            try clear q18
            try clear c19
            try clear c19b0
            try clear c20
            try clear c20b0
            try clear c21
            try clear c21b0
            try clear c22
            try clear c22b0
            try clear c22b1
            try clear c23
            try clear c23b0
            try clear c23b1
            try clear c25
            try clear c25b0
            try clear c27
            try clear c27b0
            try clear c28
            try clear c28b0
            try clear hcz15_0
            try clear hcz15_1
            try clear hcz15_2
            try clear hcz17_0
            try clear hcz17_1
            try clear hcz17_2
            try clear hfz15_0
            try clear hfz15_1
            try clear hfz15_2
            try clear hfz17_0
            try clear hfz17_1
            try clear hfz17_2
            try clear hx173_0
            try clear hx173_1
            try clear hx173_2
            try clear hx178_0
            try clear hx178_1
            try clear hx178_2
            try clear hx178_3
            try clear hx178_4
            try clear hx179_0
            try clear hx179_1
            try clear hx179_2
            try clear hx179_3
            try clear hx179_4
            try clear p1
            try clear p17
            try clear p173
            try clear p178
            try clear p179
            try clear p2
            try clear p6
            try clear q018
            try clear q1
            try clear q17
            try clear q173
            try clear q178
            try clear q179
            try clear q18
            obtain ⟨kq, x64_23, rfl, HA, HJ23, BK170, BK171, HB⟩ := hcut
            cases kq with
            | zero => exact absurd HA.out (by simp [crosstreeref10_Load.j1])
            | succ kj23 =>
             have H := HA.out
             clear HA
             simp only [crosstreeref10_Load.j1] at H
             have HC29 := Aside0.mk H
             clear H
             go_upto_if 64 with (fail)
             repeat (go_quiet (fail); go_upto_if 64 with (fail))
             go_cut [12] (fun v12 wc => ∃ (kq : Nat) (x12_28 : Int), v12 = .int .i64 x12_28 ∧ Aside0 (crosstreeref10_Load.j2 kq a2 y174 x12_28 = some (r1, r2, r3, r4)) ∧ Aside0 (kq ≤ kj23) ∧ Aside0 (wc.heap[gb170]? = some (.cells #[.int .i64 a1_0, .int .i64 a1_1, .int .i64 a1_2] 23 (0, 0))) ∧ Aside0 (wc.heap[gb171]? = some (.cells #[.int .i64 0, .int .i64 0, .int .i64 0] 23 (0, 0))) ∧ Aside0 (Below w.heap.size w wc))
             case first =>
              have H := HC29.out
              clear HC29
              by_cases c30 : x64_23 = true
              ·subst c30
               have H1 : (crosstreeref10_Load.j2 kj23 a2 y174 (-1)) = some (r1, r2, r3, r4) := by rw [if_pos rfl] at H; exact H
               clear H
               have H := H1
               clear H1
               have H' := Aside0.mk H
               clear H
               go_wp2
               repeat (go_quiet (fail); try go_wp2)
               go_meet
               case rel => exact ⟨_, ((-1)), (by first | rfl | (simp; done) | (simp [*]; done)), H', ⟨by have := HK1.out; have := HJ23.out; first | omega | exact Nat.le_refl _⟩, ⟨by (with_reducible repeat (first | refine q13 ?_ _ | refine q15 ?_ | refine q12 ?_ _)); exact BK170.out⟩, ⟨by (with_reducible repeat (first | refine q13 ?_ _ | refine q15 ?_ | refine q12 ?_ _)); exact BK171.out⟩, ⟨by repeat (first | (with_reducible first | exact HB.out | apply q10 | apply q9 | apply q11 | refine q14 ?_ GE170.out | refine q14 ?_ GE171.out) | exact HB.out)⟩⟩
              ·replace c30 := Bool.eq_false_iff.mpr c30
               subst c30
               have H1 : (crosstreeref10_Load.j2 kj23 a2 y174 0) = some (r1, r2, r3, r4) := by rw [if_neg (show ¬ (false = true) by decide)] at H; exact H
               clear H
               have H := H1
               clear H1
               have H' := Aside0.mk H
               clear H
               go_wp2
               repeat (go_quiet (fail); try go_wp2)
               go_meet
               case rel => exact ⟨_, (0), (by first | rfl | (simp; done) | (simp [*]; done)), H', ⟨by have := HK1.out; have := HJ23.out; first | omega | exact Nat.le_refl _⟩, ⟨by (with_reducible repeat (first | refine q13 ?_ _ | refine q15 ?_ | refine q12 ?_ _)); exact BK170.out⟩, ⟨by (with_reducible repeat (first | refine q13 ?_ _ | refine q15 ?_ | refine q12 ?_ _)); exact BK171.out⟩, ⟨by repeat (first | (with_reducible first | exact HB.out | apply q10 | apply q9 | apply q11 | refine q14 ?_ GE170.out | refine q14 ?_ GE171.out) | exact HB.out)⟩⟩
             case rest =>
              clear HC29
              try clear c1
              try clear p1
              try clear q1
              try clear hx1
              try clear c2
              try clear p2
              try clear c3
              try clear c5
              try clear c5b0
              try clear c5b1
              try clear p6
              try clear c7
              try clear c7b0
              try clear c8
              try clear c8b0
              try clear c9
              try clear c9b0
              try clear c9b1
              try clear c10
              try clear c10b0
              try clear c10b1
              try clear c11
              try clear c11b0
              try clear c11b1
              try clear c14
              try clear c17
              try clear p17
              try clear q17
              try clear hx17
              try clear c18
              try clear q18
              try clear c19
              try clear c19b0
              try clear c20
              try clear c20b0
              try clear c21
              try clear c21b0
              try clear c22
              try clear c22b0
              try clear c22b1
              try clear c23
              try clear c23b0
              try clear c23b1
              try clear c25
              try clear c25b0
              try clear c27
              try clear c27b0
              try clear c28
              try clear c28b0
              try clear c30
              try clear hcz15_0
              try clear hcz15_1
              try clear hcz15_2
              try clear hcz17_0
              try clear hcz17_1
              try clear hcz17_2
              try clear hfz15_0
              try clear hfz15_1
              try clear hfz15_2
              try clear hfz17_0
              try clear hfz17_1
              try clear hfz17_2
              try clear hx173_0
              try clear hx173_1
              try clear hx173_2
              try clear hx178_0
              try clear hx178_1
              try clear hx178_2
              try clear hx178_3
              try clear hx178_4
              try clear hx179_0
              try clear hx179_1
              try clear hx179_2
              try clear hx179_3
              try clear hx179_4
              try clear p1
              try clear p17
              try clear p173
              try clear p178
              try clear p179
              try clear p2
              try clear p6
              try clear q018
              try clear q1
              try clear q17
              try clear q173
              try clear q178
              try clear q179
              try clear q18
              obtain ⟨kq, x12_28, rfl, HA, HJ28, BK170, BK171, HB⟩ := hcut
              cases kq with
              | zero => exact absurd HA.out (by simp [crosstreeref10_Load.j2])
              | succ kj28 =>
               have H := HA.out
               clear HA
               simp only [crosstreeref10_Load.j2] at H
               have H' := Aside0.mk H
               clear H
               go_wp2
               repeat (go_quiet (fail); try go_wp2)
               go_loopg [12, 13] kj28 (fun kq v12 v13 w' => ∃ (x12_4 : Int) (x13_4 : Int), v12 = .int .i64 x12_4 ∧ v13 = .int .i64 x13_4 ∧ Aside0 (crosstreeref10_Load.l1 kq y174 x12_4 x13_4 = some (r1, r2, r3, r4)) ∧ Aside0 (kq ≤ kj28) ∧ Aside0 (w'.heap[gb170]? = some (.cells #[.int .i64 a1_0, .int .i64 a1_1, .int .i64 a1_2] 23 (0, 0))) ∧ Aside0 (w'.heap[gb171]? = some (.cells #[.int .i64 0, .int .i64 0, .int .i64 0] 23 (0, 0))) ∧ Aside0 (Below w.heap.size w w'))
               case atStart => exact ⟨(x12_28), (wrap64 (a2 - 1)), (by first | rfl | (simp; done) | (simp [*]; done)), (by first | rfl | (simp; done) | (simp [*]; done)), H', ⟨Nat.le_refl _⟩, ⟨by (with_reducible repeat (first | refine q13 ?_ _ | refine q15 ?_ | refine q12 ?_ _)); exact BK170.out⟩, ⟨by (with_reducible repeat (first | refine q13 ?_ _ | refine q15 ?_ | refine q12 ?_ _)); exact BK171.out⟩, ⟨by repeat (first | (with_reducible first | exact HB.out | apply q10 | apply q9 | apply q11 | refine q14 ?_ GE170.out | refine q14 ?_ GE171.out) | exact HB.out)⟩⟩
               case round =>
                clear H'
                try clear c1
                try clear p1
                try clear q1
                try clear hx1
                try clear c2
                try clear p2
                try clear c3
                try clear c5
                try clear c5b0
                try clear c5b1
                try clear p6
                try clear c7
                try clear c7b0
                try clear c8
                try clear c8b0
                try clear c9
                try clear c9b0
                try clear c9b1
                try clear c10
                try clear c10b0
                try clear c10b1
                try clear c11
                try clear c11b0
                try clear c11b1
                try clear c14
                try clear c17
                try clear p17
                try clear q17
                try clear hx17
                try clear c18
                try clear q18
                try clear c19
                try clear c19b0
                try clear c20
                try clear c20b0
                try clear c21
                try clear c21b0
                try clear c22
                try clear c22b0
                try clear c22b1
                try clear c23
                try clear c23b0
                try clear c23b1
                try clear c25
                try clear c25b0
                try clear c27
                try clear c27b0
                try clear c28
                try clear c28b0
                try clear c30
                try clear hcz15_0
                try clear hcz15_1
                try clear hcz15_2
                try clear hcz17_0
                try clear hcz17_1
                try clear hcz17_2
                try clear hfz15_0
                try clear hfz15_1
                try clear hfz15_2
                try clear hfz17_0
                try clear hfz17_1
                try clear hfz17_2
                try clear hx173_0
                try clear hx173_1
                try clear hx173_2
                try clear hx178_0
                try clear hx178_1
                try clear hx178_2
                try clear hx178_3
                try clear hx178_4
                try clear hx179_0
                try clear hx179_1
                try clear hx179_2
                try clear hx179_3
                try clear hx179_4
                try clear p1
                try clear p17
                try clear p173
                try clear p178
                try clear p179
                try clear p2
                try clear p6
                try clear q018
                try clear q1
                try clear q17
                try clear q173
                try clear q178
                try clear q179
                try clear q18
                obtain ⟨x12_4, x13_4, rfl, rfl, HA, HK4, BK170, BK171, HB⟩ := hrel
                cases gk with
                | zero => exact absurd HA.out (by simp [crosstreeref10_Load.l1])
                | succ k4 =>
                 have H := HA.out
                 clear HA
                 simp only [crosstreeref10_Load.l1] at H
                 by_cases c31 : x13_4 ≥ 0
                 ·rw [if_pos c31] at H
                  have c31b0 : decide (0 ≤ x13_4) = true := decide_eq_true c31
                  clear c31
                  by_cases c32 : 0 ≤ x13_4
                  ·rw [if_pos c32] at H
                   have c32b0 : decide (0 ≤ x13_4) = true := decide_eq_true c32
                   clear c32
                   by_cases c33 : x13_4 < (y174.length : Int)
                   ·rw [if_pos c33] at H
                    have c33b0 : decide (x13_4 < (y174.length : Int)) = true := decide_eq_true c33
                    clear c33
                    have H' := Aside0.mk H
                    clear H
                    have p180 : 0 ≤ (x13_4 : Int) := of_decide_eq_true (by first | (with_reducible assumption) | assumption)
                    have q180 : x13_4 < (y174.length : Int) := of_decide_eq_true (by first | (with_reducible assumption) | assumption)
                    obtain ⟨ad180, e180, hx180_0, hx180_1, hx180_2, hx180_3, hx180_4⟩ := at_T42 HR177.out x13_4 p180 q180
                    cases e180
                    replace hx180_0 := (HB.out.cell (World.block_lt_of_cell? w _ hx180_0)).trans hx180_0
                    replace hx180_1 := (HB.out.cell (World.block_lt_of_cell? w _ hx180_1)).trans hx180_1
                    replace hx180_2 := (HB.out.cell (World.block_lt_of_cell? w _ hx180_2)).trans hx180_2
                    replace hx180_3 := (HB.out.cell (World.block_lt_of_cell? w _ hx180_3)).trans hx180_3
                    replace hx180_4 := (HB.out.cell (World.block_lt_of_cell? w _ hx180_4)).trans hx180_4
                    replace p180 := eq_true p180
                    replace q180 := eq_true q180
                    go_wp2
                    repeat (go_quiet (fail); try go_wp2)
                    go_roundg k4
                    case measure => have := HK1.out; have := HJ23.out; have := HJ28.out; have := HK4.out; omega
                    case rel => exact ⟨(wrap64 ((wrap64 (x12_4 * 256)) + (wrap64 ((q27 y174 x13_4).f1)))), (wrap64 (x13_4 - 1)), (by first | rfl | (simp; done) | (simp [*]; done)), (by first | rfl | (simp; done) | (simp [*]; done)), H', ⟨by have := HK1.out; have := HJ23.out; have := HJ28.out; have := HK4.out; omega⟩, ⟨by (with_reducible repeat (first | refine q13 ?_ _ | refine q15 ?_ | refine q12 ?_ _)); exact BK170.out⟩, ⟨by (with_reducible repeat (first | refine q13 ?_ _ | refine q15 ?_ | refine q12 ?_ _)); exact BK171.out⟩, ⟨by repeat (first | (with_reducible first | exact HB.out | apply q10 | apply q9 | apply q11 | refine q14 ?_ GE170.out | refine q14 ?_ GE171.out) | exact HB.out)⟩⟩
                   ·rw [if_neg c33] at H
                    exact absurd H (by simp)
                  ·rw [if_neg c32] at H
                   exact absurd H (by simp)
                 ·rw [if_neg c31] at H
                  have c31b0 : decide (0 ≤ x13_4) = false := decide_eq_false c31
                  clear c31
                  simp only [Option.some.injEq, Prod.mk.injEq] at H
                  obtain ⟨rfl, rfl, rfl, rfl⟩ := H
                  have hnb34 := NB171_170.out
                  have hnc34 := NB170_171.out
                  have hcz35_0 : wr.cell? ⟨gb171, 0, none⟩ = some (.int .i64 0) := (q16 BK171.out 0).trans rfl
                  have hcz35_1 : wr.cell? ⟨gb171, 1, none⟩ = some (.int .i64 0) := (q16 BK171.out 1).trans rfl
                  have hcz35_2 : wr.cell? ⟨gb171, 2, none⟩ = some (.int .i64 0) := (q16 BK171.out 2).trans rfl
                  have hfz35_0 := q0 BK171.out 0
                  have hfz35_1 := q0 BK171.out 1
                  have hfz35_2 := q0 BK171.out 2
                  go_wp2
                  repeat (go_quiet (fail); try go_wp2)
                  refine bodyPost_ret (q41 rfl _ _ gb171 23 #[.int .i64 x12_4, .int .i64 0, .int .i64 0] (0, 0) _ rfl (by (with_reducible repeat (first | refine q13 ?_ _ | refine q15 ?_ | refine q12 ?_ _)); refine q28 (cs := #[.int .i64 x12_4, .int .i64 0, .int .i64 0]) ?_ 2 _ rfl; (with_reducible repeat (first | refine q13 ?_ _ | refine q15 ?_ | refine q12 ?_ _)); refine q28 (cs := #[.int .i64 x12_4, .int .i64 0, .int .i64 0]) ?_ 1 _ rfl; (with_reducible repeat (first | refine q13 ?_ _ | refine q15 ?_ | refine q12 ?_ _)); refine q28 (cs := #[.int .i64 0, .int .i64 0, .int .i64 0]) ?_ 0 _ rfl; (with_reducible repeat (first | refine q13 ?_ _ | refine q15 ?_ | refine q12 ?_ _)); exact BK171.out) Try.underlying23 rfl (by kernel_rfl)) rfl ?_
                  exact ⟨by first | rfl | (simp [q26, q25] <;> rfl) | (simp only [← hji6]; first | rfl | (simp [q26, q25] <;> rfl)) | (simp [*, q26, q25] <;> rfl), by repeat (first | (with_reducible first | exact HB.out | apply q10 | apply q9 | apply q11 | refine q14 ?_ GE170.out | refine q14 ?_ GE171.out) | exact HB.out)⟩
          ·rw [if_neg c23] at H
           have c23b0 : (x10_1 == a2) = false := beq_eq_false_iff_ne.mpr c23
           have c23b1 : (x10_1 != a2) = true := bne_iff_ne.mpr c23
           have HC36 := Aside0.mk H
           clear H
           go_upto_region 20 with (fail)
           repeat (go_quiet (fail); go_upto_region 20 with (fail))
           go_cut [90] (fun v90 wc => ∃ (kq : Nat) (x90_35 : Bool), v90 = .bool x90_35 ∧ Aside0 (crosstreeref10_Load.j4 kq a2 y174 x90_35 = some (r1, r2, r3, r4)) ∧ Aside0 (kq ≤ k1) ∧ Aside0 (wc.heap[gb170]? = some (.cells #[.int .i64 a1_0, .int .i64 a1_1, .int .i64 a1_2] 23 (0, 0))) ∧ Aside0 (wc.heap[gb171]? = some (.cells #[.int .i64 0, .int .i64 0, .int .i64 0] 23 (0, 0))) ∧ Aside0 (Below w.heap.size w wc))
           case first =>
            have H := HC36.out
            clear HC36
            by_cases c37 : x10_1 > 0
            ·rw [if_pos c37] at H
             have c37b0 : decide (0 < x10_1) = true := decide_eq_true c37
             clear c37
             (first | rw [c37b0] | (simp only [i64_w, i32_w]; rw [c37b0]) | skip)
             have H' := Aside0.mk H
             clear H
             go_wp2
             repeat (go_quiet (fail); try go_wp2)
             go_meet
             case rel => exact ⟨_, (true), (by first | rfl | (simp; done) | (simp [*]; done)), H', ⟨by have := HK1.out; first | omega | exact Nat.le_refl _⟩, ⟨by (with_reducible repeat (first | refine q13 ?_ _ | refine q15 ?_ | refine q12 ?_ _)); exact BK170.out⟩, ⟨by (with_reducible repeat (first | refine q13 ?_ _ | refine q15 ?_ | refine q12 ?_ _)); exact BK171.out⟩, ⟨by repeat (first | (with_reducible first | exact HB.out | apply q10 | apply q9 | apply q11 | refine q14 ?_ GE170.out | refine q14 ?_ GE171.out) | exact HB.out)⟩⟩
            ·rw [if_neg c37] at H
             have c37b0 : decide (0 < x10_1) = false := decide_eq_false c37
             clear c37
             (first | rw [c37b0] | (simp only [i64_w, i32_w]; rw [c37b0]) | skip)
             by_cases c38 : 0 < (y174.length : Int)
             ·rw [if_pos c38] at H
              have c38b0 : decide (0 < (y174.length : Int)) = true := decide_eq_true c38
              have c38b1 : decide (0 < y174.length) = true := decide_eq_true (by omega)
              clear c38
              have H' := Aside0.mk H
              clear H
              have p181 : 0 ≤ (0 : Int) := (by omega)
              have q181 : 0 < (y174.length : Int) := of_decide_eq_true (by first | (with_reducible assumption) | assumption)
              obtain ⟨ad181, e181, hx181_0, hx181_1, hx181_2, hx181_3, hx181_4⟩ := at_T42 HR177.out 0 p181 q181
              cases e181
              have qi181 : (0 < y174.length) = True := eq_true (by omega)
              (try rw [show ((0 : Int)).toNat = 0 from rfl] at hx181_0)
              (try rw [show 0 * 5 = 0 from rfl] at hx181_0)
              (try rw [Addr.add_zero'] at hx181_0)
              (try rw [show ((0 : Int)).toNat = 0 from rfl] at hx181_1)
              (try rw [show 0 * 5 = 0 from rfl] at hx181_1)
              (try rw [Addr.add_zero'] at hx181_1)
              (try rw [show ((0 : Int)).toNat = 0 from rfl] at hx181_2)
              (try rw [show 0 * 5 = 0 from rfl] at hx181_2)
              (try rw [Addr.add_zero'] at hx181_2)
              (try rw [show ((0 : Int)).toNat = 0 from rfl] at hx181_3)
              (try rw [show 0 * 5 = 0 from rfl] at hx181_3)
              (try rw [Addr.add_zero'] at hx181_3)
              (try rw [show ((0 : Int)).toNat = 0 from rfl] at hx181_4)
              (try rw [show 0 * 5 = 0 from rfl] at hx181_4)
              (try rw [Addr.add_zero'] at hx181_4)
              replace hx181_0 := (HB.out.cell (World.block_lt_of_cell? w _ hx181_0)).trans hx181_0
              replace hx181_1 := (HB.out.cell (World.block_lt_of_cell? w _ hx181_1)).trans hx181_1
              replace hx181_2 := (HB.out.cell (World.block_lt_of_cell? w _ hx181_2)).trans hx181_2
              replace hx181_3 := (HB.out.cell (World.block_lt_of_cell? w _ hx181_3)).trans hx181_3
              replace hx181_4 := (HB.out.cell (World.block_lt_of_cell? w _ hx181_4)).trans hx181_4
              replace p181 := eq_true p181
              replace q181 := eq_true q181
              go_wp2
              repeat (go_quiet (fail); try go_wp2)
              go_meet
              case rel => exact ⟨_, ((((q27 y174 0).f0) != 2)), (by first | rfl | (simp; done) | (simp [*]; done)), H', ⟨by have := HK1.out; first | omega | exact Nat.le_refl _⟩, ⟨by (with_reducible repeat (first | refine q13 ?_ _ | refine q15 ?_ | refine q12 ?_ _)); exact BK170.out⟩, ⟨by (with_reducible repeat (first | refine q13 ?_ _ | refine q15 ?_ | refine q12 ?_ _)); exact BK171.out⟩, ⟨by repeat (first | (with_reducible first | exact HB.out | apply q10 | apply q9 | apply q11 | refine q14 ?_ GE170.out | refine q14 ?_ GE171.out) | exact HB.out)⟩⟩
             ·rw [if_neg c38] at H
              exact absurd H (by simp)
           case rest =>
            clear HC36
            try clear c1
            try clear p1
            try clear q1
            try clear hx1
            try clear qi1
            try clear c2
            try clear p2
            try clear c3
            try clear c5
            try clear c5b0
            try clear c5b1
            try clear p6
            try clear c7
            try clear c7b0
            try clear c8
            try clear c8b0
            try clear c9
            try clear c9b0
            try clear c9b1
            try clear c10
            try clear c10b0
            try clear c10b1
            try clear c11
            try clear c11b0
            try clear c11b1
            try clear c14
            try clear c17
            try clear p17
            try clear q17
            try clear hx17
            try clear c18
            try clear p18
            try clear q18
            try clear hx18
            try clear qi18
            try clear c19
            try clear c19b0
            try clear c20
            try clear c20b0
            try clear c21
            try clear c21b0
            try clear c22
            try clear c22b0
            try clear c22b1
            try clear c23
            try clear c23b0
            try clear c23b1
            try clear c25
            try clear c25b0
            try clear c27
            try clear c27b0
            try clear c28
            try clear c28b0
            try clear c30
            try clear c31
            try clear c31b0
            try clear c32
            try clear c32b0
            try clear c33
            try clear c33b0
            try clear c34
            try clear c37
            try clear c37b0
            try clear c38
            try clear c38b0
            try clear c38b1
            try clear hcz15_0
            try clear hcz15_1
            try clear hcz15_2
            try clear hcz17_0
            try clear hcz17_1
            try clear hcz17_2
            try clear hcz35_0
            try clear hcz35_1
            try clear hcz35_2
            try clear hfz15_0
            try clear hfz15_1
            try clear hfz15_2
            try clear hfz17_0
            try clear hfz17_1
            try clear hfz17_2
            try clear hfz35_0
            try clear hfz35_1
            try clear hfz35_2
            try clear hx173_0
            try clear hx173_1
            try clear hx173_2
            try clear hx178_0
            try clear hx178_1
            try clear hx178_2
            try clear hx178_3
            try clear hx178_4
            try clear hx179_0
            try clear hx179_1
            try clear hx179_2
            try clear hx179_3
            try clear hx179_4
            try clear hx180_0
            try clear hx180_1
            try clear hx180_2
            try clear hx180_3
            try clear hx180_4
            try clear hx181_0
            try clear hx181_1
            try clear hx181_2
            try clear hx181_3
            try clear hx181_4
            try clear p1
            try clear p17
            try clear p173
            try clear p178
            try clear p179
            try clear p180
            try clear p181
            try clear p2
            try clear p6
            try clear q018
            try clear q1
            try clear q17
            try clear q173
            try clear q178
            try clear q179
            try clear q18
            try clear q180
            try clear q181
            obtain ⟨kq, x90_35, rfl, HA, HJ35, BK170, BK171, HB⟩ := hcut
            cases kq with
            | zero => exact absurd HA.out (by simp [crosstreeref10_Load.j4])
            | succ kj35 =>
             have H := HA.out
             clear HA
             simp only [crosstreeref10_Load.j4] at H
             by_cases c39 : x90_35 = true
             ·subst c39
              have H1 : (some (0, 0, 0, 9)) = some (r1, r2, r3, r4) := by rw [if_pos rfl] at H; exact H
              clear H
              have H := H1
              clear H1
              simp only [Option.some.injEq, Prod.mk.injEq] at H
              obtain ⟨rfl, rfl, rfl, rfl⟩ := H
              have hnb40 := NB171_170.out
              have hnc40 := NB170_171.out
              have hcz41_0 : wc.cell? ⟨gb171, 0, none⟩ = some (.int .i64 0) := (q16 BK171.out 0).trans rfl
              have hcz41_1 : wc.cell? ⟨gb171, 1, none⟩ = some (.int .i64 0) := (q16 BK171.out 1).trans rfl
              have hcz41_2 : wc.cell? ⟨gb171, 2, none⟩ = some (.int .i64 0) := (q16 BK171.out 2).trans rfl
              have hfz41_0 := q0 BK171.out 0
              have hfz41_1 := q0 BK171.out 1
              have hfz41_2 := q0 BK171.out 2
              go_wp2
              repeat (go_quiet (fail); try go_wp2)
              refine bodyPost_ret (q41 rfl _ _ gb171 23 #[.int .i64 0, .int .i64 0, .int .i64 0] (0, 0) _ rfl (by (with_reducible repeat (first | refine q13 ?_ _ | refine q15 ?_ | refine q12 ?_ _)); refine q28 (cs := #[.int .i64 0, .int .i64 0, .int .i64 0]) ?_ 2 _ rfl; (with_reducible repeat (first | refine q13 ?_ _ | refine q15 ?_ | refine q12 ?_ _)); refine q28 (cs := #[.int .i64 0, .int .i64 0, .int .i64 0]) ?_ 1 _ rfl; (with_reducible repeat (first | refine q13 ?_ _ | refine q15 ?_ | refine q12 ?_ _)); refine q28 (cs := #[.int .i64 0, .int .i64 0, .int .i64 0]) ?_ 0 _ rfl; (with_reducible repeat (first | refine q13 ?_ _ | refine q15 ?_ | refine q12 ?_ _)); exact BK171.out) Try.underlying23 rfl (by kernel_rfl)) rfl ?_
              exact ⟨by first | rfl | (simp [q26, q25] <;> rfl) | (simp only [← hji6]; first | rfl | (simp [q26, q25] <;> rfl)) | (simp [*, q26, q25] <;> rfl), by repeat (first | (with_reducible first | exact HB.out | apply q10 | apply q9 | apply q11 | refine q14 ?_ GE170.out | refine q14 ?_ GE171.out) | exact HB.out)⟩
             ·replace c39 := Bool.eq_false_iff.mpr c39
              subst c39
              have H1 : (if 0 < (y174.length : Int) then (if a2 = 1 then (some ((q27 y174 0).f2.f0, (q27 y174 0).f2.f1, (q27 y174 0).f2.f2, 0)) else (crosstreeref10_Load.l2 kj35 a2 y174 0 ((q27 y174 0).f2.f0) ((q27 y174 0).f2.f1) ((q27 y174 0).f2.f2))) else (none)) = some (r1, r2, r3, r4) := by rw [if_neg (show ¬ (false = true) by decide)] at H; exact H
              clear H
              have H := H1
              clear H1
              by_cases c42 : 0 < (y174.length : Int)
              ·rw [if_pos c42] at H
               have c42b0 : decide (0 < (y174.length : Int)) = true := decide_eq_true c42
               have c42b1 : decide (0 < y174.length) = true := decide_eq_true (by omega)
               clear c42
               by_cases c43 : a2 = 1
               ·rw [if_pos c43] at H
                have c43b0 : (a2 == 1) = true := beq_iff_eq.mpr c43
                have c43b1 : (a2 != 1) = false := bne_eq_false_iff_eq.mpr c43
                clear c43
                simp only [Option.some.injEq, Prod.mk.injEq] at H
                obtain ⟨rfl, rfl, rfl, rfl⟩ := H
                have p182 : 0 ≤ (0 : Int) := (by omega)
                have q182 : 0 < (y174.length : Int) := of_decide_eq_true (by first | (with_reducible assumption) | assumption)
                obtain ⟨ad182, e182, hx182_0, hx182_1, hx182_2, hx182_3, hx182_4⟩ := at_T42 HR177.out 0 p182 q182
                cases e182
                have qi182 : (0 < y174.length) = True := eq_true (by omega)
                (try rw [show ((0 : Int)).toNat = 0 from rfl] at hx182_0)
                (try rw [show 0 * 5 = 0 from rfl] at hx182_0)
                (try rw [Addr.add_zero'] at hx182_0)
                (try rw [show ((0 : Int)).toNat = 0 from rfl] at hx182_1)
                (try rw [show 0 * 5 = 0 from rfl] at hx182_1)
                (try rw [Addr.add_zero'] at hx182_1)
                (try rw [show ((0 : Int)).toNat = 0 from rfl] at hx182_2)
                (try rw [show 0 * 5 = 0 from rfl] at hx182_2)
                (try rw [Addr.add_zero'] at hx182_2)
                (try rw [show ((0 : Int)).toNat = 0 from rfl] at hx182_3)
                (try rw [show 0 * 5 = 0 from rfl] at hx182_3)
                (try rw [Addr.add_zero'] at hx182_3)
                (try rw [show ((0 : Int)).toNat = 0 from rfl] at hx182_4)
                (try rw [show 0 * 5 = 0 from rfl] at hx182_4)
                (try rw [Addr.add_zero'] at hx182_4)
                replace hx182_0 := (HB.out.cell (World.block_lt_of_cell? w _ hx182_0)).trans hx182_0
                replace hx182_1 := (HB.out.cell (World.block_lt_of_cell? w _ hx182_1)).trans hx182_1
                replace hx182_2 := (HB.out.cell (World.block_lt_of_cell? w _ hx182_2)).trans hx182_2
                replace hx182_3 := (HB.out.cell (World.block_lt_of_cell? w _ hx182_3)).trans hx182_3
                replace hx182_4 := (HB.out.cell (World.block_lt_of_cell? w _ hx182_4)).trans hx182_4
                replace p182 := eq_true p182
                replace q182 := eq_true q182
                go_wp2_with (first | ((with_reducible refine q32 (N := 14) rfl ?_); refine q29 ?hg (N := 14) ?hd (cs := #[.int .i64 0, .int .i64 0, .int .i64 0]) (t := 23) ?hr ?_; (case hd => rfl); (case hg => rfl); (case hr => first | (go_simp; done) | (go_simp; rfl)); intro gb183 hg w44 hbox hb; have n0_ := Aside0.mk (q19 (g := gb170) (o := .cells #[.int .i64 a1_0, .int .i64 a1_1, .int .i64 a1_2] 23 (0, 0)) (by (with_reducible repeat (first | refine q13 ?_ _ | refine q15 ?_ | refine q12 ?_ _)); exact BK170.out) hb); have n1_ := Aside0.mk (q19 (g := gb171) (o := .cells #[.int .i64 0, .int .i64 0, .int .i64 0] 23 (0, 0)) (by (with_reducible repeat (first | refine q13 ?_ _ | refine q15 ?_ | refine q12 ?_ _)); exact BK171.out) hb); have n2_ := Aside0.mk (q20 (by repeat (first | (with_reducible first | exact HB.out | apply q10 | apply q9 | apply q11 | refine q14 ?_ GE170.out | refine q14 ?_ GE171.out) | exact HB.out)) hb); have n3_ := Aside0.mk (hbox); have n4_ := Aside0.mk ((by rw [hg]; exact (q21 (by repeat (first | (with_reducible first | exact HB.out | apply q10 | apply q9 | apply q11 | refine q14 ?_ GE170.out | refine q14 ?_ GE171.out) | exact HB.out))) : w.heap.size ≤ gb183)); have n5_ := Aside0.mk ((by rw [hg]; exact (q21 (by repeat (first | (with_reducible first | exact HB.out | apply q10 | apply q9 | apply q11 | refine q14 ?_ GE170.out | refine q14 ?_ GE171.out) | exact HB.out))) : w.heap.size ≤ gb183)); have n6_ := Aside0.mk ((by rw [hg]; exact Nat.ne_of_lt (q30 (g := gb170) (o := .cells #[.int .i64 a1_0, .int .i64 a1_1, .int .i64 a1_2] 23 (0, 0)) (by (with_reducible repeat (first | refine q13 ?_ _ | refine q15 ?_ | refine q12 ?_ _)); exact BK170.out)) : gb170 ≠ gb183)); have n7_ := Aside0.mk ((by rw [hg]; exact Nat.ne_of_gt (q30 (g := gb170) (o := .cells #[.int .i64 a1_0, .int .i64 a1_1, .int .i64 a1_2] 23 (0, 0)) (by (with_reducible repeat (first | refine q13 ?_ _ | refine q15 ?_ | refine q12 ?_ _)); exact BK170.out)) : gb183 ≠ gb170)); have n8_ := Aside0.mk ((by rw [hg]; exact Nat.ne_of_lt (q30 (g := gb171) (o := .cells #[.int .i64 0, .int .i64 0, .int .i64 0] 23 (0, 0)) (by (with_reducible repeat (first | refine q13 ?_ _ | refine q15 ?_ | refine q12 ?_ _)); exact BK171.out)) : gb171 ≠ gb183)); have n9_ := Aside0.mk ((by rw [hg]; exact Nat.ne_of_gt (q30 (g := gb171) (o := .cells #[.int .i64 0, .int .i64 0, .int .i64 0] 23 (0, 0)) (by (with_reducible repeat (first | refine q13 ?_ _ | refine q15 ?_ | refine q12 ?_ _)); exact BK171.out)) : gb183 ≠ gb171)); clear BK170; clear BK171; clear HB; have BK170 := n0_; have BK171 := n1_; have HB := n2_; have BK183 := n3_; have GW183 := n4_; have GE183 := n5_; have NB170_183 := n6_; have NB183_170 := n7_; have NB171_183 := n8_; have NB183_171 := n9_; clear n0_ n1_ n2_ n3_ n4_ n5_ n6_ n7_ n8_ n9_; clear hb hbox hg; have hnb45 := NB183_170.out; have hnc45 := NB170_183.out; have hnb46 := NB183_171.out; have hnc46 := NB171_183.out; have hcz47_0 : w44.cell? ⟨gb183, 0, none⟩ = some (.int .i64 0) := (q16 BK183.out 0).trans rfl; have hcz47_1 : w44.cell? ⟨gb183, 1, none⟩ = some (.int .i64 0) := (q16 BK183.out 1).trans rfl; have hcz47_2 : w44.cell? ⟨gb183, 2, none⟩ = some (.int .i64 0) := (q16 BK183.out 2).trans rfl; have hfz47_0 := q0 BK183.out 0; have hfz47_1 := q0 BK183.out 1; have hfz47_2 := q0 BK183.out 2; have hnb48 := NB171_170.out; have hnc48 := NB170_171.out; have hcz49_0 : w44.cell? ⟨gb171, 0, none⟩ = some (.int .i64 0) := (q16 BK171.out 0).trans rfl; have hcz49_1 : w44.cell? ⟨gb171, 1, none⟩ = some (.int .i64 0) := (q16 BK171.out 1).trans rfl; have hcz49_2 : w44.cell? ⟨gb171, 2, none⟩ = some (.int .i64 0) := (q16 BK171.out 2).trans rfl; have hfz49_0 := q0 BK171.out 0; have hfz49_1 := q0 BK171.out 1; have hfz49_2 := q0 BK171.out 2))
                repeat (go_quiet (first | ((with_reducible refine q32 (N := 14) rfl ?_); refine q29 ?hg (N := 14) ?hd (cs := #[.int .i64 0, .int .i64 0, .int .i64 0]) (t := 23) ?hr ?_; (case hd => rfl); (case hg => rfl); (case hr => first | (go_simp; done) | (go_simp; rfl)); intro gb183 hg w44 hbox hb; have n0_ := Aside0.mk (q19 (g := gb170) (o := .cells #[.int .i64 a1_0, .int .i64 a1_1, .int .i64 a1_2] 23 (0, 0)) (by (with_reducible repeat (first | refine q13 ?_ _ | refine q15 ?_ | refine q12 ?_ _)); exact BK170.out) hb); have n1_ := Aside0.mk (q19 (g := gb171) (o := .cells #[.int .i64 0, .int .i64 0, .int .i64 0] 23 (0, 0)) (by (with_reducible repeat (first | refine q13 ?_ _ | refine q15 ?_ | refine q12 ?_ _)); exact BK171.out) hb); have n2_ := Aside0.mk (q20 (by repeat (first | (with_reducible first | exact HB.out | apply q10 | apply q9 | apply q11 | refine q14 ?_ GE170.out | refine q14 ?_ GE171.out) | exact HB.out)) hb); have n3_ := Aside0.mk (hbox); have n4_ := Aside0.mk ((by rw [hg]; exact (q21 (by repeat (first | (with_reducible first | exact HB.out | apply q10 | apply q9 | apply q11 | refine q14 ?_ GE170.out | refine q14 ?_ GE171.out) | exact HB.out))) : w.heap.size ≤ gb183)); have n5_ := Aside0.mk ((by rw [hg]; exact (q21 (by repeat (first | (with_reducible first | exact HB.out | apply q10 | apply q9 | apply q11 | refine q14 ?_ GE170.out | refine q14 ?_ GE171.out) | exact HB.out))) : w.heap.size ≤ gb183)); have n6_ := Aside0.mk ((by rw [hg]; exact Nat.ne_of_lt (q30 (g := gb170) (o := .cells #[.int .i64 a1_0, .int .i64 a1_1, .int .i64 a1_2] 23 (0, 0)) (by (with_reducible repeat (first | refine q13 ?_ _ | refine q15 ?_ | refine q12 ?_ _)); exact BK170.out)) : gb170 ≠ gb183)); have n7_ := Aside0.mk ((by rw [hg]; exact Nat.ne_of_gt (q30 (g := gb170) (o := .cells #[.int .i64 a1_0, .int .i64 a1_1, .int .i64 a1_2] 23 (0, 0)) (by (with_reducible repeat (first | refine q13 ?_ _ | refine q15 ?_ | refine q12 ?_ _)); exact BK170.out)) : gb183 ≠ gb170)); have n8_ := Aside0.mk ((by rw [hg]; exact Nat.ne_of_lt (q30 (g := gb171) (o := .cells #[.int .i64 0, .int .i64 0, .int .i64 0] 23 (0, 0)) (by (with_reducible repeat (first | refine q13 ?_ _ | refine q15 ?_ | refine q12 ?_ _)); exact BK171.out)) : gb171 ≠ gb183)); have n9_ := Aside0.mk ((by rw [hg]; exact Nat.ne_of_gt (q30 (g := gb171) (o := .cells #[.int .i64 0, .int .i64 0, .int .i64 0] 23 (0, 0)) (by (with_reducible repeat (first | refine q13 ?_ _ | refine q15 ?_ | refine q12 ?_ _)); exact BK171.out)) : gb183 ≠ gb171)); clear BK170; clear BK171; clear HB; have BK170 := n0_; have BK171 := n1_; have HB := n2_; have BK183 := n3_; have GW183 := n4_; have GE183 := n5_; have NB170_183 := n6_; have NB183_170 := n7_; have NB171_183 := n8_; have NB183_171 := n9_; clear n0_ n1_ n2_ n3_ n4_ n5_ n6_ n7_ n8_ n9_; clear hb hbox hg; have hnb45 := NB183_170.out; have hnc45 := NB170_183.out; have hnb46 := NB183_171.out; have hnc46 := NB171_183.out; have hcz47_0 : w44.cell? ⟨gb183, 0, none⟩ = some (.int .i64 0) := (q16 BK183.out 0).trans rfl; have hcz47_1 : w44.cell? ⟨gb183, 1, none⟩ = some (.int .i64 0) := (q16 BK183.out 1).trans rfl; have hcz47_2 : w44.cell? ⟨gb183, 2, none⟩ = some (.int .i64 0) := (q16 BK183.out 2).trans rfl; have hfz47_0 := q0 BK183.out 0; have hfz47_1 := q0 BK183.out 1; have hfz47_2 := q0 BK183.out 2; have hnb48 := NB171_170.out; have hnc48 := NB170_171.out; have hcz49_0 : w44.cell? ⟨gb171, 0, none⟩ = some (.int .i64 0) := (q16 BK171.out 0).trans rfl; have hcz49_1 : w44.cell? ⟨gb171, 1, none⟩ = some (.int .i64 0) := (q16 BK171.out 1).trans rfl; have hcz49_2 : w44.cell? ⟨gb171, 2, none⟩ = some (.int .i64 0) := (q16 BK171.out 2).trans rfl; have hfz49_0 := q0 BK171.out 0; have hfz49_1 := q0 BK171.out 1; have hfz49_2 := q0 BK171.out 2)); try go_wp2_with (first | ((with_reducible refine q32 (N := 14) rfl ?_); refine q29 ?hg (N := 14) ?hd (cs := #[.int .i64 0, .int .i64 0, .int .i64 0]) (t := 23) ?hr ?_; (case hd => rfl); (case hg => rfl); (case hr => first | (go_simp; done) | (go_simp; rfl)); intro gb183 hg w44 hbox hb; have n0_ := Aside0.mk (q19 (g := gb170) (o := .cells #[.int .i64 a1_0, .int .i64 a1_1, .int .i64 a1_2] 23 (0, 0)) (by (with_reducible repeat (first | refine q13 ?_ _ | refine q15 ?_ | refine q12 ?_ _)); exact BK170.out) hb); have n1_ := Aside0.mk (q19 (g := gb171) (o := .cells #[.int .i64 0, .int .i64 0, .int .i64 0] 23 (0, 0)) (by (with_reducible repeat (first | refine q13 ?_ _ | refine q15 ?_ | refine q12 ?_ _)); exact BK171.out) hb); have n2_ := Aside0.mk (q20 (by repeat (first | (with_reducible first | exact HB.out | apply q10 | apply q9 | apply q11 | refine q14 ?_ GE170.out | refine q14 ?_ GE171.out) | exact HB.out)) hb); have n3_ := Aside0.mk (hbox); have n4_ := Aside0.mk ((by rw [hg]; exact (q21 (by repeat (first | (with_reducible first | exact HB.out | apply q10 | apply q9 | apply q11 | refine q14 ?_ GE170.out | refine q14 ?_ GE171.out) | exact HB.out))) : w.heap.size ≤ gb183)); have n5_ := Aside0.mk ((by rw [hg]; exact (q21 (by repeat (first | (with_reducible first | exact HB.out | apply q10 | apply q9 | apply q11 | refine q14 ?_ GE170.out | refine q14 ?_ GE171.out) | exact HB.out))) : w.heap.size ≤ gb183)); have n6_ := Aside0.mk ((by rw [hg]; exact Nat.ne_of_lt (q30 (g := gb170) (o := .cells #[.int .i64 a1_0, .int .i64 a1_1, .int .i64 a1_2] 23 (0, 0)) (by (with_reducible repeat (first | refine q13 ?_ _ | refine q15 ?_ | refine q12 ?_ _)); exact BK170.out)) : gb170 ≠ gb183)); have n7_ := Aside0.mk ((by rw [hg]; exact Nat.ne_of_gt (q30 (g := gb170) (o := .cells #[.int .i64 a1_0, .int .i64 a1_1, .int .i64 a1_2] 23 (0, 0)) (by (with_reducible repeat (first | refine q13 ?_ _ | refine q15 ?_ | refine q12 ?_ _)); exact BK170.out)) : gb183 ≠ gb170)); have n8_ := Aside0.mk ((by rw [hg]; exact Nat.ne_of_lt (q30 (g := gb171) (o := .cells #[.int .i64 0, .int .i64 0, .int .i64 0] 23 (0, 0)) (by (with_reducible repeat (first | refine q13 ?_ _ | refine q15 ?_ | refine q12 ?_ _)); exact BK171.out)) : gb171 ≠ gb183)); have n9_ := Aside0.mk ((by rw [hg]; exact Nat.ne_of_gt (q30 (g := gb171) (o := .cells #[.int .i64 0, .int .i64 0, .int .i64 0] 23 (0, 0)) (by (with_reducible repeat (first | refine q13 ?_ _ | refine q15 ?_ | refine q12 ?_ _)); exact BK171.out)) : gb183 ≠ gb171)); clear BK170; clear BK171; clear HB; have BK170 := n0_; have BK171 := n1_; have HB := n2_; have BK183 := n3_; have GW183 := n4_; have GE183 := n5_; have NB170_183 := n6_; have NB183_170 := n7_; have NB171_183 := n8_; have NB183_171 := n9_; clear n0_ n1_ n2_ n3_ n4_ n5_ n6_ n7_ n8_ n9_; clear hb hbox hg; have hnb45 := NB183_170.out; have hnc45 := NB170_183.out; have hnb46 := NB183_171.out; have hnc46 := NB171_183.out; have hcz47_0 : w44.cell? ⟨gb183, 0, none⟩ = some (.int .i64 0) := (q16 BK183.out 0).trans rfl; have hcz47_1 : w44.cell? ⟨gb183, 1, none⟩ = some (.int .i64 0) := (q16 BK183.out 1).trans rfl; have hcz47_2 : w44.cell? ⟨gb183, 2, none⟩ = some (.int .i64 0) := (q16 BK183.out 2).trans rfl; have hfz47_0 := q0 BK183.out 0; have hfz47_1 := q0 BK183.out 1; have hfz47_2 := q0 BK183.out 2; have hnb48 := NB171_170.out; have hnc48 := NB170_171.out; have hcz49_0 : w44.cell? ⟨gb171, 0, none⟩ = some (.int .i64 0) := (q16 BK171.out 0).trans rfl; have hcz49_1 : w44.cell? ⟨gb171, 1, none⟩ = some (.int .i64 0) := (q16 BK171.out 1).trans rfl; have hcz49_2 : w44.cell? ⟨gb171, 2, none⟩ = some (.int .i64 0) := (q16 BK171.out 2).trans rfl; have hfz49_0 := q0 BK171.out 0; have hfz49_1 := q0 BK171.out 1; have hfz49_2 := q0 BK171.out 2)))
                refine bodyPost_ret (q41 rfl _ _ gb171 23 #[.int .i64 ((q27 y174 0).f2.f0), .int .i64 ((q27 y174 0).f2.f1), .int .i64 ((q27 y174 0).f2.f2)] (0, 0) _ rfl (by (with_reducible repeat (first | refine q13 ?_ _ | refine q15 ?_ | refine q12 ?_ _)); refine q28 (cs := #[.int .i64 ((q27 y174 0).f2.f0), .int .i64 ((q27 y174 0).f2.f1), .int .i64 0]) ?_ 2 _ rfl; (with_reducible repeat (first | refine q13 ?_ _ | refine q15 ?_ | refine q12 ?_ _)); refine q28 (cs := #[.int .i64 ((q27 y174 0).f2.f0), .int .i64 0, .int .i64 0]) ?_ 1 _ rfl; (with_reducible repeat (first | refine q13 ?_ _ | refine q15 ?_ | refine q12 ?_ _)); refine q28 (cs := #[.int .i64 0, .int .i64 0, .int .i64 0]) ?_ 0 _ rfl; (with_reducible repeat (first | refine q13 ?_ _ | refine q15 ?_ | refine q12 ?_ _)); refine q40 ?_ NB171_183.out _; (with_reducible repeat (first | refine q13 ?_ _ | refine q15 ?_ | refine q12 ?_ _)); refine q40 ?_ NB171_183.out _; (with_reducible repeat (first | refine q13 ?_ _ | refine q15 ?_ | refine q12 ?_ _)); refine q40 ?_ NB171_183.out _; (with_reducible repeat (first | refine q13 ?_ _ | refine q15 ?_ | refine q12 ?_ _)); exact BK171.out) Try.underlying23 rfl (by kernel_rfl)) rfl ?_
                exact ⟨by first | rfl | (simp [q26, q25] <;> rfl) | (simp only [← hji6]; first | rfl | (simp [q26, q25] <;> rfl)) | (simp [*, q26, q25] <;> rfl), by repeat (first | (with_reducible first | exact HB.out | apply q10 | apply q9 | apply q11 | refine q14 ?_ GE170.out | refine q14 ?_ GE171.out | refine q14 ?_ GE183.out) | exact HB.out)⟩
               ·rw [if_neg c43] at H
                have c43b0 : (a2 == 1) = false := beq_eq_false_iff_ne.mpr c43
                have c43b1 : (a2 != 1) = true := bne_iff_ne.mpr c43
                have H' := Aside0.mk H
                clear H
                have p182 : 0 ≤ (0 : Int) := (by omega)
                have q182 : 0 < (y174.length : Int) := of_decide_eq_true (by first | (with_reducible assumption) | assumption)
                obtain ⟨ad182, e182, hx182_0, hx182_1, hx182_2, hx182_3, hx182_4⟩ := at_T42 HR177.out 0 p182 q182
                cases e182
                have qi182 : (0 < y174.length) = True := eq_true (by omega)
                (try rw [show ((0 : Int)).toNat = 0 from rfl] at hx182_0)
                (try rw [show 0 * 5 = 0 from rfl] at hx182_0)
                (try rw [Addr.add_zero'] at hx182_0)
                (try rw [show ((0 : Int)).toNat = 0 from rfl] at hx182_1)
                (try rw [show 0 * 5 = 0 from rfl] at hx182_1)
                (try rw [Addr.add_zero'] at hx182_1)
                (try rw [show ((0 : Int)).toNat = 0 from rfl] at hx182_2)
                (try rw [show 0 * 5 = 0 from rfl] at hx182_2)
                (try rw [Addr.add_zero'] at hx182_2)
                (try rw [show ((0 : Int)).toNat = 0 from rfl] at hx182_3)
                (try rw [show 0 * 5 = 0 from rfl] at hx182_3)
                (try rw [Addr.add_zero'] at hx182_3)
                (try rw [show ((0 : Int)).toNat = 0 from rfl] at hx182_4)
                (try rw [show 0 * 5 = 0 from rfl] at hx182_4)
                (try rw [Addr.add_zero'] at hx182_4)
                replace hx182_0 := (HB.out.cell (World.block_lt_of_cell? w _ hx182_0)).trans hx182_0
                replace hx182_1 := (HB.out.cell (World.block_lt_of_cell? w _ hx182_1)).trans hx182_1
                replace hx182_2 := (HB.out.cell (World.block_lt_of_cell? w _ hx182_2)).trans hx182_2
                replace hx182_3 := (HB.out.cell (World.block_lt_of_cell? w _ hx182_3)).trans hx182_3
                replace hx182_4 := (HB.out.cell (World.block_lt_of_cell? w _ hx182_4)).trans hx182_4
                replace p182 := eq_true p182
                replace q182 := eq_true q182
                go_wp2_with (first | ((with_reducible refine q32 (N := 14) rfl ?_); refine q29 ?hg (N := 14) ?hd (cs := #[.int .i64 0, .int .i64 0, .int .i64 0]) (t := 23) ?hr ?_; (case hd => rfl); (case hg => rfl); (case hr => first | (go_simp; done) | (go_simp; rfl)); intro gb183 hg w50 hbox hb; have n0_ := Aside0.mk (q19 (g := gb170) (o := .cells #[.int .i64 a1_0, .int .i64 a1_1, .int .i64 a1_2] 23 (0, 0)) (by (with_reducible repeat (first | refine q13 ?_ _ | refine q15 ?_ | refine q12 ?_ _)); exact BK170.out) hb); have n1_ := Aside0.mk (q19 (g := gb171) (o := .cells #[.int .i64 0, .int .i64 0, .int .i64 0] 23 (0, 0)) (by (with_reducible repeat (first | refine q13 ?_ _ | refine q15 ?_ | refine q12 ?_ _)); exact BK171.out) hb); have n2_ := Aside0.mk (q20 (by repeat (first | (with_reducible first | exact HB.out | apply q10 | apply q9 | apply q11 | refine q14 ?_ GE170.out | refine q14 ?_ GE171.out) | exact HB.out)) hb); have n3_ := Aside0.mk (hbox); have n4_ := Aside0.mk ((by rw [hg]; exact (q21 (by repeat (first | (with_reducible first | exact HB.out | apply q10 | apply q9 | apply q11 | refine q14 ?_ GE170.out | refine q14 ?_ GE171.out) | exact HB.out))) : w.heap.size ≤ gb183)); have n5_ := Aside0.mk ((by rw [hg]; exact (q21 (by repeat (first | (with_reducible first | exact HB.out | apply q10 | apply q9 | apply q11 | refine q14 ?_ GE170.out | refine q14 ?_ GE171.out) | exact HB.out))) : w.heap.size ≤ gb183)); have n6_ := Aside0.mk ((by rw [hg]; exact Nat.ne_of_lt (q30 (g := gb170) (o := .cells #[.int .i64 a1_0, .int .i64 a1_1, .int .i64 a1_2] 23 (0, 0)) (by (with_reducible repeat (first | refine q13 ?_ _ | refine q15 ?_ | refine q12 ?_ _)); exact BK170.out)) : gb170 ≠ gb183)); have n7_ := Aside0.mk ((by rw [hg]; exact Nat.ne_of_gt (q30 (g := gb170) (o := .cells #[.int .i64 a1_0, .int .i64 a1_1, .int .i64 a1_2] 23 (0, 0)) (by (with_reducible repeat (first | refine q13 ?_ _ | refine q15 ?_ | refine q12 ?_ _)); exact BK170.out)) : gb183 ≠ gb170)); have n8_ := Aside0.mk ((by rw [hg]; exact Nat.ne_of_lt (q30 (g := gb171) (o := .cells #[.int .i64 0, .int .i64 0, .int .i64 0] 23 (0, 0)) (by (with_reducible repeat (first | refine q13 ?_ _ | refine q15 ?_ | refine q12 ?_ _)); exact BK171.out)) : gb171 ≠ gb183)); have n9_ := Aside0.mk ((by rw [hg]; exact Nat.ne_of_gt (q30 (g := gb171) (o := .cells #[.int .i64 0, .int .i64 0, .int .i64 0] 23 (0, 0)) (by (with_reducible repeat (first | refine q13 ?_ _ | refine q15 ?_ | refine q12 ?_ _)); exact BK171.out)) : gb183 ≠ gb171)); clear BK170; clear BK171; clear HB; have BK170 := n0_; have BK171 := n1_; have HB := n2_; have BK183 := n3_; have GW183 := n4_; have GE183 := n5_; have NB170_183 := n6_; have NB183_170 := n7_; have NB171_183 := n8_; have NB183_171 := n9_; clear n0_ n1_ n2_ n3_ n4_ n5_ n6_ n7_ n8_ n9_; clear hb hbox hg; have hnb51 := NB183_170.out; have hnc51 := NB170_183.out; have hnb52 := NB183_171.out; have hnc52 := NB171_183.out; have hcz53_0 : w50.cell? ⟨gb183, 0, none⟩ = some (.int .i64 0) := (q16 BK183.out 0).trans rfl; have hcz53_1 : w50.cell? ⟨gb183, 1, none⟩ = some (.int .i64 0) := (q16 BK183.out 1).trans rfl; have hcz53_2 : w50.cell? ⟨gb183, 2, none⟩ = some (.int .i64 0) := (q16 BK183.out 2).trans rfl; have hfz53_0 := q0 BK183.out 0; have hfz53_1 := q0 BK183.out 1; have hfz53_2 := q0 BK183.out 2))
                repeat (go_quiet (first | ((with_reducible refine q32 (N := 14) rfl ?_); refine q29 ?hg (N := 14) ?hd (cs := #[.int .i64 0, .int .i64 0, .int .i64 0]) (t := 23) ?hr ?_; (case hd => rfl); (case hg => rfl); (case hr => first | (go_simp; done) | (go_simp; rfl)); intro gb183 hg w50 hbox hb; have n0_ := Aside0.mk (q19 (g := gb170) (o := .cells #[.int .i64 a1_0, .int .i64 a1_1, .int .i64 a1_2] 23 (0, 0)) (by (with_reducible repeat (first | refine q13 ?_ _ | refine q15 ?_ | refine q12 ?_ _)); exact BK170.out) hb); have n1_ := Aside0.mk (q19 (g := gb171) (o := .cells #[.int .i64 0, .int .i64 0, .int .i64 0] 23 (0, 0)) (by (with_reducible repeat (first | refine q13 ?_ _ | refine q15 ?_ | refine q12 ?_ _)); exact BK171.out) hb); have n2_ := Aside0.mk (q20 (by repeat (first | (with_reducible first | exact HB.out | apply q10 | apply q9 | apply q11 | refine q14 ?_ GE170.out | refine q14 ?_ GE171.out) | exact HB.out)) hb); have n3_ := Aside0.mk (hbox); have n4_ := Aside0.mk ((by rw [hg]; exact (q21 (by repeat (first | (with_reducible first | exact HB.out | apply q10 | apply q9 | apply q11 | refine q14 ?_ GE170.out | refine q14 ?_ GE171.out) | exact HB.out))) : w.heap.size ≤ gb183)); have n5_ := Aside0.mk ((by rw [hg]; exact (q21 (by repeat (first | (with_reducible first | exact HB.out | apply q10 | apply q9 | apply q11 | refine q14 ?_ GE170.out | refine q14 ?_ GE171.out) | exact HB.out))) : w.heap.size ≤ gb183)); have n6_ := Aside0.mk ((by rw [hg]; exact Nat.ne_of_lt (q30 (g := gb170) (o := .cells #[.int .i64 a1_0, .int .i64 a1_1, .int .i64 a1_2] 23 (0, 0)) (by (with_reducible repeat (first | refine q13 ?_ _ | refine q15 ?_ | refine q12 ?_ _)); exact BK170.out)) : gb170 ≠ gb183)); have n7_ := Aside0.mk ((by rw [hg]; exact Nat.ne_of_gt (q30 (g := gb170) (o := .cells #[.int .i64 a1_0, .int .i64 a1_1, .int .i64 a1_2] 23 (0, 0)) (by (with_reducible repeat (first | refine q13 ?_ _ | refine q15 ?_ | refine q12 ?_ _)); exact BK170.out)) : gb183 ≠ gb170)); have n8_ := Aside0.mk ((by rw [hg]; exact Nat.ne_of_lt (q30 (g := gb171) (o := .cells #[.int .i64 0, .int .i64 0, .int .i64 0] 23 (0, 0)) (by (with_reducible repeat (first | refine q13 ?_ _ | refine q15 ?_ | refine q12 ?_ _)); exact BK171.out)) : gb171 ≠ gb183)); have n9_ := Aside0.mk ((by rw [hg]; exact Nat.ne_of_gt (q30 (g := gb171) (o := .cells #[.int .i64 0, .int .i64 0, .int .i64 0] 23 (0, 0)) (by (with_reducible repeat (first | refine q13 ?_ _ | refine q15 ?_ | refine q12 ?_ _)); exact BK171.out)) : gb183 ≠ gb171)); clear BK170; clear BK171; clear HB; have BK170 := n0_; have BK171 := n1_; have HB := n2_; have BK183 := n3_; have GW183 := n4_; have GE183 := n5_; have NB170_183 := n6_; have NB183_170 := n7_; have NB171_183 := n8_; have NB183_171 := n9_; clear n0_ n1_ n2_ n3_ n4_ n5_ n6_ n7_ n8_ n9_; clear hb hbox hg; have hnb51 := NB183_170.out; have hnc51 := NB170_183.out; have hnb52 := NB183_171.out; have hnc52 := NB171_183.out; have hcz53_0 : w50.cell? ⟨gb183, 0, none⟩ = some (.int .i64 0) := (q16 BK183.out 0).trans rfl; have hcz53_1 : w50.cell? ⟨gb183, 1, none⟩ = some (.int .i64 0) := (q16 BK183.out 1).trans rfl; have hcz53_2 : w50.cell? ⟨gb183, 2, none⟩ = some (.int .i64 0) := (q16 BK183.out 2).trans rfl; have hfz53_0 := q0 BK183.out 0; have hfz53_1 := q0 BK183.out 1; have hfz53_2 := q0 BK183.out 2)); try go_wp2_with (first | ((with_reducible refine q32 (N := 14) rfl ?_); refine q29 ?hg (N := 14) ?hd (cs := #[.int .i64 0, .int .i64 0, .int .i64 0]) (t := 23) ?hr ?_; (case hd => rfl); (case hg => rfl); (case hr => first | (go_simp; done) | (go_simp; rfl)); intro gb183 hg w50 hbox hb; have n0_ := Aside0.mk (q19 (g := gb170) (o := .cells #[.int .i64 a1_0, .int .i64 a1_1, .int .i64 a1_2] 23 (0, 0)) (by (with_reducible repeat (first | refine q13 ?_ _ | refine q15 ?_ | refine q12 ?_ _)); exact BK170.out) hb); have n1_ := Aside0.mk (q19 (g := gb171) (o := .cells #[.int .i64 0, .int .i64 0, .int .i64 0] 23 (0, 0)) (by (with_reducible repeat (first | refine q13 ?_ _ | refine q15 ?_ | refine q12 ?_ _)); exact BK171.out) hb); have n2_ := Aside0.mk (q20 (by repeat (first | (with_reducible first | exact HB.out | apply q10 | apply q9 | apply q11 | refine q14 ?_ GE170.out | refine q14 ?_ GE171.out) | exact HB.out)) hb); have n3_ := Aside0.mk (hbox); have n4_ := Aside0.mk ((by rw [hg]; exact (q21 (by repeat (first | (with_reducible first | exact HB.out | apply q10 | apply q9 | apply q11 | refine q14 ?_ GE170.out | refine q14 ?_ GE171.out) | exact HB.out))) : w.heap.size ≤ gb183)); have n5_ := Aside0.mk ((by rw [hg]; exact (q21 (by repeat (first | (with_reducible first | exact HB.out | apply q10 | apply q9 | apply q11 | refine q14 ?_ GE170.out | refine q14 ?_ GE171.out) | exact HB.out))) : w.heap.size ≤ gb183)); have n6_ := Aside0.mk ((by rw [hg]; exact Nat.ne_of_lt (q30 (g := gb170) (o := .cells #[.int .i64 a1_0, .int .i64 a1_1, .int .i64 a1_2] 23 (0, 0)) (by (with_reducible repeat (first | refine q13 ?_ _ | refine q15 ?_ | refine q12 ?_ _)); exact BK170.out)) : gb170 ≠ gb183)); have n7_ := Aside0.mk ((by rw [hg]; exact Nat.ne_of_gt (q30 (g := gb170) (o := .cells #[.int .i64 a1_0, .int .i64 a1_1, .int .i64 a1_2] 23 (0, 0)) (by (with_reducible repeat (first | refine q13 ?_ _ | refine q15 ?_ | refine q12 ?_ _)); exact BK170.out)) : gb183 ≠ gb170)); have n8_ := Aside0.mk ((by rw [hg]; exact Nat.ne_of_lt (q30 (g := gb171) (o := .cells #[.int .i64 0, .int .i64 0, .int .i64 0] 23 (0, 0)) (by (with_reducible repeat (first | refine q13 ?_ _ | refine q15 ?_ | refine q12 ?_ _)); exact BK171.out)) : gb171 ≠ gb183)); have n9_ := Aside0.mk ((by rw [hg]; exact Nat.ne_of_gt (q30 (g := gb171) (o := .cells #[.int .i64 0, .int .i64 0, .int .i64 0] 23 (0, 0)) (by (with_reducible repeat (first | refine q13 ?_ _ | refine q15 ?_ | refine q12 ?_ _)); exact BK171.out)) : gb183 ≠ gb171)); clear BK170; clear BK171; clear HB; have BK170 := n0_; have BK171 := n1_; have HB := n2_; have BK183 := n3_; have GW183 := n4_; have GE183 := n5_; have NB170_183 := n6_; have NB183_170 := n7_; have NB171_183 := n8_; have NB183_171 := n9_; clear n0_ n1_ n2_ n3_ n4_ n5_ n6_ n7_ n8_ n9_; clear hb hbox hg; have hnb51 := NB183_170.out; have hnc51 := NB170_183.out; have hnb52 := NB183_171.out; have hnc52 := NB171_183.out; have hcz53_0 : w50.cell? ⟨gb183, 0, none⟩ = some (.int .i64 0) := (q16 BK183.out 0).trans rfl; have hcz53_1 : w50.cell? ⟨gb183, 1, none⟩ = some (.int .i64 0) := (q16 BK183.out 1).trans rfl; have hcz53_2 : w50.cell? ⟨gb183, 2, none⟩ = some (.int .i64 0) := (q16 BK183.out 2).trans rfl; have hfz53_0 := q0 BK183.out 0; have hfz53_1 := q0 BK183.out 1; have hfz53_2 := q0 BK183.out 2)))
                go_loopg [15] kj35 (fun kq v15 w' => ∃ (x15_3 : Int) (x172000_3 : Int) (x172001_3 : Int) (x172002_3 : Int), v15 = .int .i64 x15_3 ∧ Aside0 (crosstreeref10_Load.l2 kq a2 y174 x15_3 ((q27 y174 0).f2.f0) ((q27 y174 0).f2.f1) ((q27 y174 0).f2.f2) = some (r1, r2, r3, r4)) ∧ Aside0 (kq ≤ kj35) ∧ Aside0 (w'.heap[gb170]? = some (.cells #[.int .i64 a1_0, .int .i64 a1_1, .int .i64 a1_2] 23 (0, 0))) ∧ Aside0 (w'.heap[gb171]? = some (.cells #[.int .i64 x172000_3, .int .i64 x172001_3, .int .i64 x172002_3] 23 (0, 0))) ∧ Aside0 (w'.heap[gb183]? = some (.cells #[.int .i64 ((q27 y174 0).f2.f0), .int .i64 ((q27 y174 0).f2.f1), .int .i64 ((q27 y174 0).f2.f2)] 23 (0, 0))) ∧ Aside0 (Below w.heap.size w w'))
                case atStart => exact ⟨(0), (0), (0), (0), (by first | rfl | (simp; done) | (simp [*]; done)), H', ⟨Nat.le_refl _⟩, ⟨by (with_reducible repeat (first | refine q13 ?_ _ | refine q15 ?_ | refine q12 ?_ _)); refine q40 ?_ NB170_183.out _; (with_reducible repeat (first | refine q13 ?_ _ | refine q15 ?_ | refine q12 ?_ _)); refine q40 ?_ NB170_183.out _; (with_reducible repeat (first | refine q13 ?_ _ | refine q15 ?_ | refine q12 ?_ _)); refine q40 ?_ NB170_183.out _; (with_reducible repeat (first | refine q13 ?_ _ | refine q15 ?_ | refine q12 ?_ _)); exact BK170.out⟩, ⟨by (with_reducible repeat (first | refine q13 ?_ _ | refine q15 ?_ | refine q12 ?_ _)); refine q40 ?_ NB171_183.out _; (with_reducible repeat (first | refine q13 ?_ _ | refine q15 ?_ | refine q12 ?_ _)); refine q40 ?_ NB171_183.out _; (with_reducible repeat (first | refine q13 ?_ _ | refine q15 ?_ | refine q12 ?_ _)); refine q40 ?_ NB171_183.out _; (with_reducible repeat (first | refine q13 ?_ _ | refine q15 ?_ | refine q12 ?_ _)); exact BK171.out⟩, ⟨by (with_reducible repeat (first | refine q13 ?_ _ | refine q15 ?_ | refine q12 ?_ _)); refine q28 (cs := #[.int .i64 ((q27 y174 0).f2.f0), .int .i64 ((q27 y174 0).f2.f1), .int .i64 0]) ?_ 2 _ rfl; (with_reducible repeat (first | refine q13 ?_ _ | refine q15 ?_ | refine q12 ?_ _)); refine q28 (cs := #[.int .i64 ((q27 y174 0).f2.f0), .int .i64 0, .int .i64 0]) ?_ 1 _ rfl; (with_reducible repeat (first | refine q13 ?_ _ | refine q15 ?_ | refine q12 ?_ _)); refine q28 (cs := #[.int .i64 0, .int .i64 0, .int .i64 0]) ?_ 0 _ rfl; (with_reducible repeat (first | refine q13 ?_ _ | refine q15 ?_ | refine q12 ?_ _)); exact BK183.out⟩, ⟨by repeat (first | (with_reducible first | exact HB.out | apply q10 | apply q9 | apply q11 | refine q14 ?_ GE170.out | refine q14 ?_ GE171.out | refine q14 ?_ GE183.out) | exact HB.out)⟩⟩
                case round =>
                 clear H'
                 try clear c1
                 try clear p1
                 try clear q1
                 try clear hx1
                 try clear qi1
                 try clear c2
                 try clear p2
                 try clear c3
                 try clear c4
                 try clear c5
                 try clear c5b0
                 try clear c5b1
                 try clear p6
                 try clear c7
                 try clear c7b0
                 try clear c8
                 try clear c8b0
                 try clear c9
                 try clear c9b0
                 try clear c9b1
                 try clear c10
                 try clear c10b0
                 try clear c10b1
                 try clear c11
                 try clear c11b0
                 try clear c11b1
                 try clear c14
                 try clear c17
                 try clear p17
                 try clear q17
                 try clear hx17
                 try clear c18
                 try clear p18
                 try clear q18
                 try clear hx18
                 try clear qi18
                 try clear c19
                 try clear c19b0
                 try clear c20
                 try clear c20b0
                 try clear c21
                 try clear c21b0
                 try clear c22
                 try clear c22b0
                 try clear c22b1
                 try clear c23
                 try clear c23b0
                 try clear c23b1
                 try clear c25
                 try clear c25b0
                 try clear c27
                 try clear c27b0
                 try clear c28
                 try clear c28b0
                 try clear c30
                 try clear c31
                 try clear c31b0
                 try clear c32
                 try clear c32b0
                 try clear c33
                 try clear c33b0
                 try clear c34
                 try clear c37
                 try clear c37b0
                 try clear c38
                 try clear c38b0
                 try clear c38b1
                 try clear c39
                 try clear c40
                 try clear c42
                 try clear c42b0
                 try clear c42b1
                 try clear c43
                 try clear c43b0
                 try clear c43b1
                 try clear c45
                 try clear c46
                 try clear c48
                 try clear c51
                 try clear c52
                 try clear hcz15_0
                 try clear hcz15_1
                 try clear hcz15_2
                 try clear hcz17_0
                 try clear hcz17_1
                 try clear hcz17_2
                 try clear hcz35_0
                 try clear hcz35_1
                 try clear hcz35_2
                 try clear hcz41_0
                 try clear hcz41_1
                 try clear hcz41_2
                 try clear hcz47_0
                 try clear hcz47_1
                 try clear hcz47_2
                 try clear hcz49_0
                 try clear hcz49_1
                 try clear hcz49_2
                 try clear hcz53_0
                 try clear hcz53_1
                 try clear hcz53_2
                 try clear hfz15_0
                 try clear hfz15_1
                 try clear hfz15_2
                 try clear hfz17_0
                 try clear hfz17_1
                 try clear hfz17_2
                 try clear hfz35_0
                 try clear hfz35_1
                 try clear hfz35_2
                 try clear hfz41_0
                 try clear hfz41_1
                 try clear hfz41_2
                 try clear hfz47_0
                 try clear hfz47_1
                 try clear hfz47_2
                 try clear hfz49_0
                 try clear hfz49_1
                 try clear hfz49_2
                 try clear hfz53_0
                 try clear hfz53_1
                 try clear hfz53_2
                 try clear hx173_0
                 try clear hx173_1
                 try clear hx173_2
                 try clear hx178_0
                 try clear hx178_1
                 try clear hx178_2
                 try clear hx178_3
                 try clear hx178_4
                 try clear hx179_0
                 try clear hx179_1
                 try clear hx179_2
                 try clear hx179_3
                 try clear hx179_4
                 try clear hx180_0
                 try clear hx180_1
                 try clear hx180_2
                 try clear hx180_3
                 try clear hx180_4
                 try clear hx181_0
                 try clear hx181_1
                 try clear hx181_2
                 try clear hx181_3
                 try clear hx181_4
                 try clear hx182_0
                 try clear hx182_1
                 try clear hx182_2
                 try clear hx182_3
                 try clear hx182_4
                 try clear p1
                 try clear p17
                 try clear p173
                 try clear p178
                 try clear p179
                 try clear p18
                 try clear p180
                 try clear p181
                 try clear p182
                 try clear p2
                 try clear p6
                 try clear q018
                 try clear q1
                 try clear q17
                 try clear q173
                 try clear q178
                 try clear q179
                 try clear q18
                 try clear q180
                 try clear q181
                 try clear q182
                 obtain ⟨x15_3, x172000_3, x172001_3, x172002_3, rfl, HA, HK3, BK170, BK171, BK183, HB⟩ := hrel
                 cases gk with
                 | zero => exact absurd HA.out (by simp [crosstreeref10_Load.l2])
                 | succ k3 =>
                  have H := HA.out
                  clear HA
                  simp only [crosstreeref10_Load.l2] at H
                  by_cases c54 : x15_3 < a2
                  ·rw [if_pos c54] at H
                   have c54b0 : decide (x15_3 < a2) = true := decide_eq_true c54
                   clear c54
                   by_cases c55 : a2 = 8
                   ·rw [if_pos c55] at H
                    have c55b0 : (a2 == 8) = true := beq_iff_eq.mpr c55
                    have c55b1 : (a2 != 8) = false := bne_eq_false_iff_eq.mpr c55
                    clear c55
                    by_cases c56 : 0 ≤ x15_3
                    ·rw [if_pos c56] at H
                     have c56b0 : decide (0 ≤ x15_3) = true := decide_eq_true c56
                     clear c56
                     by_cases c57 : x15_3 < (y174.length : Int)
                     ·rw [if_pos c57] at H
                      have c57b0 : decide (x15_3 < (y174.length : Int)) = true := decide_eq_true c57
                      clear c57
                      by_cases c58 : ((q27 y174 x15_3).f0) = 2
                      ·rw [if_pos c58] at H
                       have c58b0 : (((q27 y174 x15_3).f0) == 2) = true := beq_iff_eq.mpr c58
                       have c58b1 : (((q27 y174 x15_3).f0) != 2) = false := bne_eq_false_iff_eq.mpr c58
                       clear c58
                       by_cases c59 : ((q27 y174 x15_3).f2.f2) = (wrap64 (x15_3 + 1))
                       ·rw [if_pos c59] at H
                        have c59b0 : (((q27 y174 x15_3).f2.f2) == (wrap64 (x15_3 + 1))) = true := beq_iff_eq.mpr c59
                        have c59b1 : (((q27 y174 x15_3).f2.f2) != (wrap64 (x15_3 + 1))) = false := bne_eq_false_iff_eq.mpr c59
                        clear c59
                        by_cases c60 : ((q27 y174 x15_3).f2.f0) = ((q27 y174 0).f2.f0)
                        ·rw [if_pos c60] at H
                         have c60b0 : (((q27 y174 x15_3).f2.f0) == ((q27 y174 0).f2.f0)) = true := beq_iff_eq.mpr c60
                         have c60b1 : (((q27 y174 x15_3).f2.f0) != ((q27 y174 0).f2.f0)) = false := bne_eq_false_iff_eq.mpr c60
                         clear c60
                         by_cases c61 : ((q27 y174 x15_3).f2.f1) = ((q27 y174 0).f2.f1)
                         ·rw [if_pos c61] at H
                          have c61b0 : (((q27 y174 x15_3).f2.f1) == ((q27 y174 0).f2.f1)) = true := beq_iff_eq.mpr c61
                          have c61b1 : (((q27 y174 x15_3).f2.f1) != ((q27 y174 0).f2.f1)) = false := bne_eq_false_iff_eq.mpr c61
                          clear c61
                          have H' := Aside0.mk H
                          clear H
                          have p184 : 0 ≤ (x15_3 : Int) := of_decide_eq_true (by first | (with_reducible assumption) | assumption)
                          have q184 : x15_3 < (y174.length : Int) := of_decide_eq_true (by first | (with_reducible assumption) | assumption)
                          obtain ⟨ad184, e184, hx184_0, hx184_1, hx184_2, hx184_3, hx184_4⟩ := at_T42 HR177.out x15_3 p184 q184
                          obtain rfl : ad182 = ad184 := (by injection e184)
                          replace hx184_0 := (HB.out.cell (World.block_lt_of_cell? w _ hx184_0)).trans hx184_0
                          replace hx184_1 := (HB.out.cell (World.block_lt_of_cell? w _ hx184_1)).trans hx184_1
                          replace hx184_2 := (HB.out.cell (World.block_lt_of_cell? w _ hx184_2)).trans hx184_2
                          replace hx184_3 := (HB.out.cell (World.block_lt_of_cell? w _ hx184_3)).trans hx184_3
                          replace hx184_4 := (HB.out.cell (World.block_lt_of_cell? w _ hx184_4)).trans hx184_4
                          replace p184 := eq_true p184
                          replace q184 := eq_true q184
                          have p185 : 0 ≤ (x15_3 : Int) := of_decide_eq_true (by first | (with_reducible assumption) | assumption)
                          have q185 : x15_3 < (y174.length : Int) := of_decide_eq_true (by first | (with_reducible assumption) | assumption)
                          obtain ⟨ad185, e185, hx185_0, hx185_1, hx185_2, hx185_3, hx185_4⟩ := at_T42 HR177.out x15_3 p185 q185
                          obtain rfl : ad182 = ad185 := (by injection e185)
                          replace hx185_0 := (HB.out.cell (World.block_lt_of_cell? w _ hx185_0)).trans hx185_0
                          replace hx185_1 := (HB.out.cell (World.block_lt_of_cell? w _ hx185_1)).trans hx185_1
                          replace hx185_2 := (HB.out.cell (World.block_lt_of_cell? w _ hx185_2)).trans hx185_2
                          replace hx185_3 := (HB.out.cell (World.block_lt_of_cell? w _ hx185_3)).trans hx185_3
                          replace hx185_4 := (HB.out.cell (World.block_lt_of_cell? w _ hx185_4)).trans hx185_4
                          replace p185 := eq_true p185
                          replace q185 := eq_true q185
                          have p186 : 0 ≤ (x15_3 : Int) := of_decide_eq_true (by first | (with_reducible assumption) | assumption)
                          have q186 : x15_3 < (y174.length : Int) := of_decide_eq_true (by first | (with_reducible assumption) | assumption)
                          obtain ⟨ad186, e186, hx186_0, hx186_1, hx186_2, hx186_3, hx186_4⟩ := at_T42 HR177.out x15_3 p186 q186
                          obtain rfl : ad182 = ad186 := (by injection e186)
                          replace hx186_0 := (HB.out.cell (World.block_lt_of_cell? w _ hx186_0)).trans hx186_0
                          replace hx186_1 := (HB.out.cell (World.block_lt_of_cell? w _ hx186_1)).trans hx186_1
                          replace hx186_2 := (HB.out.cell (World.block_lt_of_cell? w _ hx186_2)).trans hx186_2
                          replace hx186_3 := (HB.out.cell (World.block_lt_of_cell? w _ hx186_3)).trans hx186_3
                          replace hx186_4 := (HB.out.cell (World.block_lt_of_cell? w _ hx186_4)).trans hx186_4
                          replace p186 := eq_true p186
                          replace q186 := eq_true q186
                          have hnb62 := NB183_170.out
                          have hnc62 := NB170_183.out
                          have hnb63 := NB183_171.out
                          have hnc63 := NB171_183.out
                          have hcz64_0 : wr.cell? ⟨gb183, 0, none⟩ = some (.int .i64 ((q27 y174 0).f2.f0)) := (q16 BK183.out 0).trans rfl
                          have hcz64_1 : wr.cell? ⟨gb183, 1, none⟩ = some (.int .i64 ((q27 y174 0).f2.f1)) := (q16 BK183.out 1).trans rfl
                          have hcz64_2 : wr.cell? ⟨gb183, 2, none⟩ = some (.int .i64 ((q27 y174 0).f2.f2)) := (q16 BK183.out 2).trans rfl
                          have hfz64_0 := q0 BK183.out 0
                          have hfz64_1 := q0 BK183.out 1
                          have hfz64_2 := q0 BK183.out 2
                          have p187 : 0 ≤ (x15_3 : Int) := of_decide_eq_true (by first | (with_reducible assumption) | assumption)
                          have q187 : x15_3 < (y174.length : Int) := of_decide_eq_true (by first | (with_reducible assumption) | assumption)
                          obtain ⟨ad187, e187, hx187_0, hx187_1, hx187_2, hx187_3, hx187_4⟩ := at_T42 HR177.out x15_3 p187 q187
                          obtain rfl : ad182 = ad187 := (by injection e187)
                          replace hx187_0 := (HB.out.cell (World.block_lt_of_cell? w _ hx187_0)).trans hx187_0
                          replace hx187_1 := (HB.out.cell (World.block_lt_of_cell? w _ hx187_1)).trans hx187_1
                          replace hx187_2 := (HB.out.cell (World.block_lt_of_cell? w _ hx187_2)).trans hx187_2
                          replace hx187_3 := (HB.out.cell (World.block_lt_of_cell? w _ hx187_3)).trans hx187_3
                          replace hx187_4 := (HB.out.cell (World.block_lt_of_cell? w _ hx187_4)).trans hx187_4
                          replace p187 := eq_true p187
                          replace q187 := eq_true q187
                          go_wp2
                          repeat (go_quiet (fail); try go_wp2)
                          go_roundg k3
                          case measure => have := HK1.out; have := HJ35.out; have := HK3.out; omega
                          case rel => exact ⟨(wrap64 (x15_3 + 1)), (x172000_3), (x172001_3), (x172002_3), (by first | rfl | (simp; done) | (simp [*]; done)), H', ⟨by have := HK1.out; have := HJ35.out; have := HK3.out; omega⟩, ⟨by (with_reducible repeat (first | refine q13 ?_ _ | refine q15 ?_ | refine q12 ?_ _)); exact BK170.out⟩, ⟨by (with_reducible repeat (first | refine q13 ?_ _ | refine q15 ?_ | refine q12 ?_ _)); exact BK171.out⟩, ⟨by (with_reducible repeat (first | refine q13 ?_ _ | refine q15 ?_ | refine q12 ?_ _)); exact BK183.out⟩, ⟨by repeat (first | (with_reducible first | exact HB.out | apply q10 | apply q9 | apply q11 | refine q14 ?_ GE170.out | refine q14 ?_ GE171.out | refine q14 ?_ GE183.out) | exact HB.out)⟩⟩
                         ·rw [if_neg c61] at H
                          have c61b0 : (((q27 y174 x15_3).f2.f1) == ((q27 y174 0).f2.f1)) = false := beq_eq_false_iff_ne.mpr c61
                          have c61b1 : (((q27 y174 x15_3).f2.f1) != ((q27 y174 0).f2.f1)) = true := bne_iff_ne.mpr c61
                          simp only [Option.some.injEq, Prod.mk.injEq] at H
                          obtain ⟨rfl, rfl, rfl, rfl⟩ := H
                          have p184 : 0 ≤ (x15_3 : Int) := of_decide_eq_true (by first | (with_reducible assumption) | assumption)
                          have q184 : x15_3 < (y174.length : Int) := of_decide_eq_true (by first | (with_reducible assumption) | assumption)
                          obtain ⟨ad184, e184, hx184_0, hx184_1, hx184_2, hx184_3, hx184_4⟩ := at_T42 HR177.out x15_3 p184 q184
                          obtain rfl : ad182 = ad184 := (by injection e184)
                          replace hx184_0 := (HB.out.cell (World.block_lt_of_cell? w _ hx184_0)).trans hx184_0
                          replace hx184_1 := (HB.out.cell (World.block_lt_of_cell? w _ hx184_1)).trans hx184_1
                          replace hx184_2 := (HB.out.cell (World.block_lt_of_cell? w _ hx184_2)).trans hx184_2
                          replace hx184_3 := (HB.out.cell (World.block_lt_of_cell? w _ hx184_3)).trans hx184_3
                          replace hx184_4 := (HB.out.cell (World.block_lt_of_cell? w _ hx184_4)).trans hx184_4
                          replace p184 := eq_true p184
                          replace q184 := eq_true q184
                          have p185 : 0 ≤ (x15_3 : Int) := of_decide_eq_true (by first | (with_reducible assumption) | assumption)
                          have q185 : x15_3 < (y174.length : Int) := of_decide_eq_true (by first | (with_reducible assumption) | assumption)
                          obtain ⟨ad185, e185, hx185_0, hx185_1, hx185_2, hx185_3, hx185_4⟩ := at_T42 HR177.out x15_3 p185 q185
                          obtain rfl : ad182 = ad185 := (by injection e185)
                          replace hx185_0 := (HB.out.cell (World.block_lt_of_cell? w _ hx185_0)).trans hx185_0
                          replace hx185_1 := (HB.out.cell (World.block_lt_of_cell? w _ hx185_1)).trans hx185_1
                          replace hx185_2 := (HB.out.cell (World.block_lt_of_cell? w _ hx185_2)).trans hx185_2
                          replace hx185_3 := (HB.out.cell (World.block_lt_of_cell? w _ hx185_3)).trans hx185_3
                          replace hx185_4 := (HB.out.cell (World.block_lt_of_cell? w _ hx185_4)).trans hx185_4
                          replace p185 := eq_true p185
                          replace q185 := eq_true q185
                          have p186 : 0 ≤ (x15_3 : Int) := of_decide_eq_true (by first | (with_reducible assumption) | assumption)
                          have q186 : x15_3 < (y174.length : Int) := of_decide_eq_true (by first | (with_reducible assumption) | assumption)
                          obtain ⟨ad186, e186, hx186_0, hx186_1, hx186_2, hx186_3, hx186_4⟩ := at_T42 HR177.out x15_3 p186 q186
                          obtain rfl : ad182 = ad186 := (by injection e186)
                          replace hx186_0 := (HB.out.cell (World.block_lt_of_cell? w _ hx186_0)).trans hx186_0
                          replace hx186_1 := (HB.out.cell (World.block_lt_of_cell? w _ hx186_1)).trans hx186_1
                          replace hx186_2 := (HB.out.cell (World.block_lt_of_cell? w _ hx186_2)).trans hx186_2
                          replace hx186_3 := (HB.out.cell (World.block_lt_of_cell? w _ hx186_3)).trans hx186_3
                          replace hx186_4 := (HB.out.cell (World.block_lt_of_cell? w _ hx186_4)).trans hx186_4
                          replace p186 := eq_true p186
                          replace q186 := eq_true q186
                          have hnb65 := NB183_170.out
                          have hnc65 := NB170_183.out
                          have hnb66 := NB183_171.out
                          have hnc66 := NB171_183.out
                          have hcz67_0 : wr.cell? ⟨gb183, 0, none⟩ = some (.int .i64 ((q27 y174 0).f2.f0)) := (q16 BK183.out 0).trans rfl
                          have hcz67_1 : wr.cell? ⟨gb183, 1, none⟩ = some (.int .i64 ((q27 y174 0).f2.f1)) := (q16 BK183.out 1).trans rfl
                          have hcz67_2 : wr.cell? ⟨gb183, 2, none⟩ = some (.int .i64 ((q27 y174 0).f2.f2)) := (q16 BK183.out 2).trans rfl
                          have hfz67_0 := q0 BK183.out 0
                          have hfz67_1 := q0 BK183.out 1
                          have hfz67_2 := q0 BK183.out 2
                          have p187 : 0 ≤ (x15_3 : Int) := of_decide_eq_true (by first | (with_reducible assumption) | assumption)
                          have q187 : x15_3 < (y174.length : Int) := of_decide_eq_true (by first | (with_reducible assumption) | assumption)
                          obtain ⟨ad187, e187, hx187_0, hx187_1, hx187_2, hx187_3, hx187_4⟩ := at_T42 HR177.out x15_3 p187 q187
                          obtain rfl : ad182 = ad187 := (by injection e187)
                          replace hx187_0 := (HB.out.cell (World.block_lt_of_cell? w _ hx187_0)).trans hx187_0
                          replace hx187_1 := (HB.out.cell (World.block_lt_of_cell? w _ hx187_1)).trans hx187_1
                          replace hx187_2 := (HB.out.cell (World.block_lt_of_cell? w _ hx187_2)).trans hx187_2
                          replace hx187_3 := (HB.out.cell (World.block_lt_of_cell? w _ hx187_3)).trans hx187_3
                          replace hx187_4 := (HB.out.cell (World.block_lt_of_cell? w _ hx187_4)).trans hx187_4
                          replace p187 := eq_true p187
                          replace q187 := eq_true q187
                          have hnb68 := NB171_170.out
                          have hnc68 := NB170_171.out
                          have hcz69_0 : wr.cell? ⟨gb171, 0, none⟩ = some (.int .i64 x172000_3) := (q16 BK171.out 0).trans rfl
                          have hcz69_1 : wr.cell? ⟨gb171, 1, none⟩ = some (.int .i64 x172001_3) := (q16 BK171.out 1).trans rfl
                          have hcz69_2 : wr.cell? ⟨gb171, 2, none⟩ = some (.int .i64 x172002_3) := (q16 BK171.out 2).trans rfl
                          have hfz69_0 := q0 BK171.out 0
                          have hfz69_1 := q0 BK171.out 1
                          have hfz69_2 := q0 BK171.out 2
                          go_wp2
                          repeat (go_quiet (fail); try go_wp2)
                          refine bodyPost_ret (q41 rfl _ _ gb171 23 #[.int .i64 0, .int .i64 0, .int .i64 0] (0, 0) _ rfl (by (with_reducible repeat (first | refine q13 ?_ _ | refine q15 ?_ | refine q12 ?_ _)); refine q28 (cs := #[.int .i64 0, .int .i64 0, .int .i64 x172002_3]) ?_ 2 _ rfl; (with_reducible repeat (first | refine q13 ?_ _ | refine q15 ?_ | refine q12 ?_ _)); refine q28 (cs := #[.int .i64 0, .int .i64 x172001_3, .int .i64 x172002_3]) ?_ 1 _ rfl; (with_reducible repeat (first | refine q13 ?_ _ | refine q15 ?_ | refine q12 ?_ _)); refine q28 (cs := #[.int .i64 x172000_3, .int .i64 x172001_3, .int .i64 x172002_3]) ?_ 0 _ rfl; (with_reducible repeat (first | refine q13 ?_ _ | refine q15 ?_ | refine q12 ?_ _)); exact BK171.out) Try.underlying23 rfl (by kernel_rfl)) rfl ?_
                          exact ⟨by first | rfl | (simp [q26, q25] <;> rfl) | (simp only [← hji6]; first | rfl | (simp [q26, q25] <;> rfl)) | (simp [*, q26, q25] <;> rfl), by repeat (first | (with_reducible first | exact HB.out | apply q10 | apply q9 | apply q11 | refine q14 ?_ GE170.out | refine q14 ?_ GE171.out | refine q14 ?_ GE183.out) | exact HB.out)⟩
                        ·rw [if_neg c60] at H
                         have c60b0 : (((q27 y174 x15_3).f2.f0) == ((q27 y174 0).f2.f0)) = false := beq_eq_false_iff_ne.mpr c60
                         have c60b1 : (((q27 y174 x15_3).f2.f0) != ((q27 y174 0).f2.f0)) = true := bne_iff_ne.mpr c60
                         simp only [Option.some.injEq, Prod.mk.injEq] at H
                         obtain ⟨rfl, rfl, rfl, rfl⟩ := H
                         have p184 : 0 ≤ (x15_3 : Int) := of_decide_eq_true (by first | (with_reducible assumption) | assumption)
                         have q184 : x15_3 < (y174.length : Int) := of_decide_eq_true (by first | (with_reducible assumption) | assumption)
                         obtain ⟨ad184, e184, hx184_0, hx184_1, hx184_2, hx184_3, hx184_4⟩ := at_T42 HR177.out x15_3 p184 q184
                         obtain rfl : ad182 = ad184 := (by injection e184)
                         replace hx184_0 := (HB.out.cell (World.block_lt_of_cell? w _ hx184_0)).trans hx184_0
                         replace hx184_1 := (HB.out.cell (World.block_lt_of_cell? w _ hx184_1)).trans hx184_1
                         replace hx184_2 := (HB.out.cell (World.block_lt_of_cell? w _ hx184_2)).trans hx184_2
                         replace hx184_3 := (HB.out.cell (World.block_lt_of_cell? w _ hx184_3)).trans hx184_3
                         replace hx184_4 := (HB.out.cell (World.block_lt_of_cell? w _ hx184_4)).trans hx184_4
                         replace p184 := eq_true p184
                         replace q184 := eq_true q184
                         have p185 : 0 ≤ (x15_3 : Int) := of_decide_eq_true (by first | (with_reducible assumption) | assumption)
                         have q185 : x15_3 < (y174.length : Int) := of_decide_eq_true (by first | (with_reducible assumption) | assumption)
                         obtain ⟨ad185, e185, hx185_0, hx185_1, hx185_2, hx185_3, hx185_4⟩ := at_T42 HR177.out x15_3 p185 q185
                         obtain rfl : ad182 = ad185 := (by injection e185)
                         replace hx185_0 := (HB.out.cell (World.block_lt_of_cell? w _ hx185_0)).trans hx185_0
                         replace hx185_1 := (HB.out.cell (World.block_lt_of_cell? w _ hx185_1)).trans hx185_1
                         replace hx185_2 := (HB.out.cell (World.block_lt_of_cell? w _ hx185_2)).trans hx185_2
                         replace hx185_3 := (HB.out.cell (World.block_lt_of_cell? w _ hx185_3)).trans hx185_3
                         replace hx185_4 := (HB.out.cell (World.block_lt_of_cell? w _ hx185_4)).trans hx185_4
                         replace p185 := eq_true p185
                         replace q185 := eq_true q185
                         have p186 : 0 ≤ (x15_3 : Int) := of_decide_eq_true (by first | (with_reducible assumption) | assumption)
                         have q186 : x15_3 < (y174.length : Int) := of_decide_eq_true (by first | (with_reducible assumption) | assumption)
                         obtain ⟨ad186, e186, hx186_0, hx186_1, hx186_2, hx186_3, hx186_4⟩ := at_T42 HR177.out x15_3 p186 q186
                         obtain rfl : ad182 = ad186 := (by injection e186)
                         replace hx186_0 := (HB.out.cell (World.block_lt_of_cell? w _ hx186_0)).trans hx186_0
                         replace hx186_1 := (HB.out.cell (World.block_lt_of_cell? w _ hx186_1)).trans hx186_1
                         replace hx186_2 := (HB.out.cell (World.block_lt_of_cell? w _ hx186_2)).trans hx186_2
                         replace hx186_3 := (HB.out.cell (World.block_lt_of_cell? w _ hx186_3)).trans hx186_3
                         replace hx186_4 := (HB.out.cell (World.block_lt_of_cell? w _ hx186_4)).trans hx186_4
                         replace p186 := eq_true p186
                         replace q186 := eq_true q186
                         have hnb70 := NB183_170.out
                         have hnc70 := NB170_183.out
                         have hnb71 := NB183_171.out
                         have hnc71 := NB171_183.out
                         have hcz72_0 : wr.cell? ⟨gb183, 0, none⟩ = some (.int .i64 ((q27 y174 0).f2.f0)) := (q16 BK183.out 0).trans rfl
                         have hcz72_1 : wr.cell? ⟨gb183, 1, none⟩ = some (.int .i64 ((q27 y174 0).f2.f1)) := (q16 BK183.out 1).trans rfl
                         have hcz72_2 : wr.cell? ⟨gb183, 2, none⟩ = some (.int .i64 ((q27 y174 0).f2.f2)) := (q16 BK183.out 2).trans rfl
                         have hfz72_0 := q0 BK183.out 0
                         have hfz72_1 := q0 BK183.out 1
                         have hfz72_2 := q0 BK183.out 2
                         have hnb73 := NB171_170.out
                         have hnc73 := NB170_171.out
                         have hcz74_0 : wr.cell? ⟨gb171, 0, none⟩ = some (.int .i64 x172000_3) := (q16 BK171.out 0).trans rfl
                         have hcz74_1 : wr.cell? ⟨gb171, 1, none⟩ = some (.int .i64 x172001_3) := (q16 BK171.out 1).trans rfl
                         have hcz74_2 : wr.cell? ⟨gb171, 2, none⟩ = some (.int .i64 x172002_3) := (q16 BK171.out 2).trans rfl
                         have hfz74_0 := q0 BK171.out 0
                         have hfz74_1 := q0 BK171.out 1
                         have hfz74_2 := q0 BK171.out 2
                         go_wp2
                         repeat (go_quiet (fail); try go_wp2)
                         refine bodyPost_ret (q41 rfl _ _ gb171 23 #[.int .i64 0, .int .i64 0, .int .i64 0] (0, 0) _ rfl (by (with_reducible repeat (first | refine q13 ?_ _ | refine q15 ?_ | refine q12 ?_ _)); refine q28 (cs := #[.int .i64 0, .int .i64 0, .int .i64 x172002_3]) ?_ 2 _ rfl; (with_reducible repeat (first | refine q13 ?_ _ | refine q15 ?_ | refine q12 ?_ _)); refine q28 (cs := #[.int .i64 0, .int .i64 x172001_3, .int .i64 x172002_3]) ?_ 1 _ rfl; (with_reducible repeat (first | refine q13 ?_ _ | refine q15 ?_ | refine q12 ?_ _)); refine q28 (cs := #[.int .i64 x172000_3, .int .i64 x172001_3, .int .i64 x172002_3]) ?_ 0 _ rfl; (with_reducible repeat (first | refine q13 ?_ _ | refine q15 ?_ | refine q12 ?_ _)); exact BK171.out) Try.underlying23 rfl (by kernel_rfl)) rfl ?_
                         exact ⟨by first | rfl | (simp [q26, q25] <;> rfl) | (simp only [← hji6]; first | rfl | (simp [q26, q25] <;> rfl)) | (simp [*, q26, q25] <;> rfl), by repeat (first | (with_reducible first | exact HB.out | apply q10 | apply q9 | apply q11 | refine q14 ?_ GE170.out | refine q14 ?_ GE171.out | refine q14 ?_ GE183.out) | exact HB.out)⟩
                       ·rw [if_neg c59] at H
                        have c59b0 : (((q27 y174 x15_3).f2.f2) == (wrap64 (x15_3 + 1))) = false := beq_eq_false_iff_ne.mpr c59
                        have c59b1 : (((q27 y174 x15_3).f2.f2) != (wrap64 (x15_3 + 1))) = true := bne_iff_ne.mpr c59
                        simp only [Option.some.injEq, Prod.mk.injEq] at H
                        obtain ⟨rfl, rfl, rfl, rfl⟩ := H
                        have p184 : 0 ≤ (x15_3 : Int) := of_decide_eq_true (by first | (with_reducible assumption) | assumption)
                        have q184 : x15_3 < (y174.length : Int) := of_decide_eq_true (by first | (with_reducible assumption) | assumption)
                        obtain ⟨ad184, e184, hx184_0, hx184_1, hx184_2, hx184_3, hx184_4⟩ := at_T42 HR177.out x15_3 p184 q184
                        obtain rfl : ad182 = ad184 := (by injection e184)
                        replace hx184_0 := (HB.out.cell (World.block_lt_of_cell? w _ hx184_0)).trans hx184_0
                        replace hx184_1 := (HB.out.cell (World.block_lt_of_cell? w _ hx184_1)).trans hx184_1
                        replace hx184_2 := (HB.out.cell (World.block_lt_of_cell? w _ hx184_2)).trans hx184_2
                        replace hx184_3 := (HB.out.cell (World.block_lt_of_cell? w _ hx184_3)).trans hx184_3
                        replace hx184_4 := (HB.out.cell (World.block_lt_of_cell? w _ hx184_4)).trans hx184_4
                        replace p184 := eq_true p184
                        replace q184 := eq_true q184
                        have p185 : 0 ≤ (x15_3 : Int) := of_decide_eq_true (by first | (with_reducible assumption) | assumption)
                        have q185 : x15_3 < (y174.length : Int) := of_decide_eq_true (by first | (with_reducible assumption) | assumption)
                        obtain ⟨ad185, e185, hx185_0, hx185_1, hx185_2, hx185_3, hx185_4⟩ := at_T42 HR177.out x15_3 p185 q185
                        obtain rfl : ad182 = ad185 := (by injection e185)
                        replace hx185_0 := (HB.out.cell (World.block_lt_of_cell? w _ hx185_0)).trans hx185_0
                        replace hx185_1 := (HB.out.cell (World.block_lt_of_cell? w _ hx185_1)).trans hx185_1
                        replace hx185_2 := (HB.out.cell (World.block_lt_of_cell? w _ hx185_2)).trans hx185_2
                        replace hx185_3 := (HB.out.cell (World.block_lt_of_cell? w _ hx185_3)).trans hx185_3
                        replace hx185_4 := (HB.out.cell (World.block_lt_of_cell? w _ hx185_4)).trans hx185_4
                        replace p185 := eq_true p185
                        replace q185 := eq_true q185
                        have hnb75 := NB171_170.out
                        have hnc75 := NB170_171.out
                        have hnb76 := NB171_183.out
                        have hnc76 := NB183_171.out
                        have hcz77_0 : wr.cell? ⟨gb171, 0, none⟩ = some (.int .i64 x172000_3) := (q16 BK171.out 0).trans rfl
                        have hcz77_1 : wr.cell? ⟨gb171, 1, none⟩ = some (.int .i64 x172001_3) := (q16 BK171.out 1).trans rfl
                        have hcz77_2 : wr.cell? ⟨gb171, 2, none⟩ = some (.int .i64 x172002_3) := (q16 BK171.out 2).trans rfl
                        have hfz77_0 := q0 BK171.out 0
                        have hfz77_1 := q0 BK171.out 1
                        have hfz77_2 := q0 BK171.out 2
                        go_wp2
                        repeat (go_quiet (fail); try go_wp2)
                        refine bodyPost_ret (q41 rfl _ _ gb171 23 #[.int .i64 0, .int .i64 0, .int .i64 0] (0, 0) _ rfl (by (with_reducible repeat (first | refine q13 ?_ _ | refine q15 ?_ | refine q12 ?_ _)); refine q28 (cs := #[.int .i64 0, .int .i64 0, .int .i64 x172002_3]) ?_ 2 _ rfl; (with_reducible repeat (first | refine q13 ?_ _ | refine q15 ?_ | refine q12 ?_ _)); refine q28 (cs := #[.int .i64 0, .int .i64 x172001_3, .int .i64 x172002_3]) ?_ 1 _ rfl; (with_reducible repeat (first | refine q13 ?_ _ | refine q15 ?_ | refine q12 ?_ _)); refine q28 (cs := #[.int .i64 x172000_3, .int .i64 x172001_3, .int .i64 x172002_3]) ?_ 0 _ rfl; (with_reducible repeat (first | refine q13 ?_ _ | refine q15 ?_ | refine q12 ?_ _)); exact BK171.out) Try.underlying23 rfl (by kernel_rfl)) rfl ?_
                        exact ⟨by first | rfl | (simp [q26, q25] <;> rfl) | (simp only [← hji6]; first | rfl | (simp [q26, q25] <;> rfl)) | (simp [*, q26, q25] <;> rfl), by repeat (first | (with_reducible first | exact HB.out | apply q10 | apply q9 | apply q11 | refine q14 ?_ GE170.out | refine q14 ?_ GE171.out | refine q14 ?_ GE183.out) | exact HB.out)⟩
                      ·rw [if_neg c58] at H
                       have c58b0 : (((q27 y174 x15_3).f0) == 2) = false := beq_eq_false_iff_ne.mpr c58
                       have c58b1 : (((q27 y174 x15_3).f0) != 2) = true := bne_iff_ne.mpr c58
                       simp only [Option.some.injEq, Prod.mk.injEq] at H
                       obtain ⟨rfl, rfl, rfl, rfl⟩ := H
                       have p184 : 0 ≤ (x15_3 : Int) := of_decide_eq_true (by first | (with_reducible assumption) | assumption)
                       have q184 : x15_3 < (y174.length : Int) := of_decide_eq_true (by first | (with_reducible assumption) | assumption)
                       obtain ⟨ad184, e184, hx184_0, hx184_1, hx184_2, hx184_3, hx184_4⟩ := at_T42 HR177.out x15_3 p184 q184
                       obtain rfl : ad182 = ad184 := (by injection e184)
                       replace hx184_0 := (HB.out.cell (World.block_lt_of_cell? w _ hx184_0)).trans hx184_0
                       replace hx184_1 := (HB.out.cell (World.block_lt_of_cell? w _ hx184_1)).trans hx184_1
                       replace hx184_2 := (HB.out.cell (World.block_lt_of_cell? w _ hx184_2)).trans hx184_2
                       replace hx184_3 := (HB.out.cell (World.block_lt_of_cell? w _ hx184_3)).trans hx184_3
                       replace hx184_4 := (HB.out.cell (World.block_lt_of_cell? w _ hx184_4)).trans hx184_4
                       replace p184 := eq_true p184
                       replace q184 := eq_true q184
                       have hnb78 := NB171_170.out
                       have hnc78 := NB170_171.out
                       have hnb79 := NB171_183.out
                       have hnc79 := NB183_171.out
                       have hcz80_0 : wr.cell? ⟨gb171, 0, none⟩ = some (.int .i64 x172000_3) := (q16 BK171.out 0).trans rfl
                       have hcz80_1 : wr.cell? ⟨gb171, 1, none⟩ = some (.int .i64 x172001_3) := (q16 BK171.out 1).trans rfl
                       have hcz80_2 : wr.cell? ⟨gb171, 2, none⟩ = some (.int .i64 x172002_3) := (q16 BK171.out 2).trans rfl
                       have hfz80_0 := q0 BK171.out 0
                       have hfz80_1 := q0 BK171.out 1
                       have hfz80_2 := q0 BK171.out 2
                       go_wp2
                       repeat (go_quiet (fail); try go_wp2)
                       refine bodyPost_ret (q41 rfl _ _ gb171 23 #[.int .i64 0, .int .i64 0, .int .i64 0] (0, 0) _ rfl (by (with_reducible repeat (first | refine q13 ?_ _ | refine q15 ?_ | refine q12 ?_ _)); refine q28 (cs := #[.int .i64 0, .int .i64 0, .int .i64 x172002_3]) ?_ 2 _ rfl; (with_reducible repeat (first | refine q13 ?_ _ | refine q15 ?_ | refine q12 ?_ _)); refine q28 (cs := #[.int .i64 0, .int .i64 x172001_3, .int .i64 x172002_3]) ?_ 1 _ rfl; (with_reducible repeat (first | refine q13 ?_ _ | refine q15 ?_ | refine q12 ?_ _)); refine q28 (cs := #[.int .i64 x172000_3, .int .i64 x172001_3, .int .i64 x172002_3]) ?_ 0 _ rfl; (with_reducible repeat (first | refine q13 ?_ _ | refine q15 ?_ | refine q12 ?_ _)); exact BK171.out) Try.underlying23 rfl (by kernel_rfl)) rfl ?_
                       exact ⟨by first | rfl | (simp [q26, q25] <;> rfl) | (simp only [← hji6]; first | rfl | (simp [q26, q25] <;> rfl)) | (simp [*, q26, q25] <;> rfl), by repeat (first | (with_reducible first | exact HB.out | apply q10 | apply q9 | apply q11 | refine q14 ?_ GE170.out | refine q14 ?_ GE171.out | refine q14 ?_ GE183.out) | exact HB.out)⟩
                     ·rw [if_neg c57] at H
                      exact absurd H (by simp)
                    ·rw [if_neg c56] at H
                     exact absurd H (by simp)
                   ·rw [if_neg c55] at H
                    have c55b0 : (a2 == 8) = false := beq_eq_false_iff_ne.mpr c55
                    have c55b1 : (a2 != 8) = true := bne_iff_ne.mpr c55
                    simp only [Option.some.injEq, Prod.mk.injEq] at H
                    obtain ⟨rfl, rfl, rfl, rfl⟩ := H
                    have hnb81 := NB171_170.out
                    have hnc81 := NB170_171.out
                    have hnb82 := NB171_183.out
                    have hnc82 := NB183_171.out
                    have hcz83_0 : wr.cell? ⟨gb171, 0, none⟩ = some (.int .i64 x172000_3) := (q16 BK171.out 0).trans rfl
                    have hcz83_1 : wr.cell? ⟨gb171, 1, none⟩ = some (.int .i64 x172001_3) := (q16 BK171.out 1).trans rfl
                    have hcz83_2 : wr.cell? ⟨gb171, 2, none⟩ = some (.int .i64 x172002_3) := (q16 BK171.out 2).trans rfl
                    have hfz83_0 := q0 BK171.out 0
                    have hfz83_1 := q0 BK171.out 1
                    have hfz83_2 := q0 BK171.out 2
                    go_wp2
                    repeat (go_quiet (fail); try go_wp2)
                    refine bodyPost_ret (q41 rfl _ _ gb171 23 #[.int .i64 0, .int .i64 0, .int .i64 0] (0, 0) _ rfl (by (with_reducible repeat (first | refine q13 ?_ _ | refine q15 ?_ | refine q12 ?_ _)); refine q28 (cs := #[.int .i64 0, .int .i64 0, .int .i64 x172002_3]) ?_ 2 _ rfl; (with_reducible repeat (first | refine q13 ?_ _ | refine q15 ?_ | refine q12 ?_ _)); refine q28 (cs := #[.int .i64 0, .int .i64 x172001_3, .int .i64 x172002_3]) ?_ 1 _ rfl; (with_reducible repeat (first | refine q13 ?_ _ | refine q15 ?_ | refine q12 ?_ _)); refine q28 (cs := #[.int .i64 x172000_3, .int .i64 x172001_3, .int .i64 x172002_3]) ?_ 0 _ rfl; (with_reducible repeat (first | refine q13 ?_ _ | refine q15 ?_ | refine q12 ?_ _)); exact BK171.out) Try.underlying23 rfl (by kernel_rfl)) rfl ?_
                    exact ⟨by first | rfl | (simp [q26, q25] <;> rfl) | (simp only [← hji6]; first | rfl | (simp [q26, q25] <;> rfl)) | (simp [*, q26, q25] <;> rfl), by repeat (first | (with_reducible first | exact HB.out | apply q10 | apply q9 | apply q11 | refine q14 ?_ GE170.out | refine q14 ?_ GE171.out | refine q14 ?_ GE183.out) | exact HB.out)⟩
                  ·rw [if_neg c54] at H
                   have c54b0 : decide (x15_3 < a2) = false := decide_eq_false c54
                   clear c54
                   simp only [Option.some.injEq, Prod.mk.injEq] at H
                   obtain ⟨rfl, rfl, rfl, rfl⟩ := H
                   have hnb84 := NB183_170.out
                   have hnc84 := NB170_183.out
                   have hnb85 := NB183_171.out
                   have hnc85 := NB171_183.out
                   have hcz86_0 : wr.cell? ⟨gb183, 0, none⟩ = some (.int .i64 ((q27 y174 0).f2.f0)) := (q16 BK183.out 0).trans rfl
                   have hcz86_1 : wr.cell? ⟨gb183, 1, none⟩ = some (.int .i64 ((q27 y174 0).f2.f1)) := (q16 BK183.out 1).trans rfl
                   have hcz86_2 : wr.cell? ⟨gb183, 2, none⟩ = some (.int .i64 ((q27 y174 0).f2.f2)) := (q16 BK183.out 2).trans rfl
                   have hfz86_0 := q0 BK183.out 0
                   have hfz86_1 := q0 BK183.out 1
                   have hfz86_2 := q0 BK183.out 2
                   have hnb87 := NB171_170.out
                   have hnc87 := NB170_171.out
                   have hcz88_0 : wr.cell? ⟨gb171, 0, none⟩ = some (.int .i64 x172000_3) := (q16 BK171.out 0).trans rfl
                   have hcz88_1 : wr.cell? ⟨gb171, 1, none⟩ = some (.int .i64 x172001_3) := (q16 BK171.out 1).trans rfl
                   have hcz88_2 : wr.cell? ⟨gb171, 2, none⟩ = some (.int .i64 x172002_3) := (q16 BK171.out 2).trans rfl
                   have hfz88_0 := q0 BK171.out 0
                   have hfz88_1 := q0 BK171.out 1
                   have hfz88_2 := q0 BK171.out 2
                   go_wp2
                   repeat (go_quiet (fail); try go_wp2)
                   refine bodyPost_ret (q41 rfl _ _ gb171 23 #[.int .i64 ((q27 y174 0).f2.f0), .int .i64 ((q27 y174 0).f2.f1), .int .i64 0] (0, 0) _ rfl (by (with_reducible repeat (first | refine q13 ?_ _ | refine q15 ?_ | refine q12 ?_ _)); refine q28 (cs := #[.int .i64 ((q27 y174 0).f2.f0), .int .i64 ((q27 y174 0).f2.f1), .int .i64 x172002_3]) ?_ 2 _ rfl; (with_reducible repeat (first | refine q13 ?_ _ | refine q15 ?_ | refine q12 ?_ _)); refine q28 (cs := #[.int .i64 ((q27 y174 0).f2.f0), .int .i64 x172001_3, .int .i64 x172002_3]) ?_ 1 _ rfl; (with_reducible repeat (first | refine q13 ?_ _ | refine q15 ?_ | refine q12 ?_ _)); refine q28 (cs := #[.int .i64 x172000_3, .int .i64 x172001_3, .int .i64 x172002_3]) ?_ 0 _ rfl; (with_reducible repeat (first | refine q13 ?_ _ | refine q15 ?_ | refine q12 ?_ _)); exact BK171.out) Try.underlying23 rfl (by kernel_rfl)) rfl ?_
                   exact ⟨by first | rfl | (simp [q26, q25] <;> rfl) | (simp only [← hji6]; first | rfl | (simp [q26, q25] <;> rfl)) | (simp [*, q26, q25] <;> rfl), by repeat (first | (with_reducible first | exact HB.out | apply q10 | apply q9 | apply q11 | refine q14 ?_ GE170.out | refine q14 ?_ GE171.out | refine q14 ?_ GE183.out) | exact HB.out)⟩
              ·rw [if_neg c42] at H
               exact absurd H (by simp)
      ·rw [if_neg c11] at H
       exact absurd H (by simp)
     ·rw [if_neg c10] at H
      exact absurd H (by simp)
    ·rw [if_neg c9] at H
     exact absurd H (by simp)
   ·rw [if_neg c8] at H
    exact absurd H (by simp)
  ·rw [if_neg c7] at H
   exact absurd H (by simp)
 ·rw [if_neg c5] at H
  have c5b0 : (t172 == 0) = false := beq_eq_false_iff_ne.mpr c5
  have c5b1 : (t172 != 0) = true := bne_iff_ne.mpr c5
  simp only [Option.some.injEq, Prod.mk.injEq] at H
  obtain ⟨rfl, rfl, rfl, rfl⟩ := H
  go_enter Try.func25, Try.ntmps25
  go_wp2_with (first | ((with_reducible refine q32 (N := 4) rfl ?_); refine q29 ?hg (N := 4) ?hd (cs := #[.int .i64 a1_0, .int .i64 a1_1, .int .i64 a1_2]) (t := 23) ?hr ?_; (case hd => rfl); (case hg => rfl); (case hr => first | (go_simp; done) | (go_simp; rfl)); intro gb170 hg w89 hbox hb; have n0_ := Aside0.mk (q20 (by repeat (first | (with_reducible first | exact HB.out | apply q10 | apply q9 | apply q11) | exact HB.out)) hb); have n1_ := Aside0.mk (hbox); have n2_ := Aside0.mk ((by rw [hg]; exact (q21 (by repeat (first | (with_reducible first | exact HB.out | apply q10 | apply q9 | apply q11) | exact HB.out))) : w.heap.size ≤ gb170)); have n3_ := Aside0.mk ((by rw [hg]; exact (q21 (by repeat (first | (with_reducible first | exact HB.out | apply q10 | apply q9 | apply q11) | exact HB.out))) : w.heap.size ≤ gb170)); clear HB; have HB := n0_; have BK170 := n1_; have GW170 := n2_; have GE170 := n3_; clear n0_ n1_ n2_ n3_; clear hb hbox hg) | ((with_reducible refine q32 (N := 6) rfl ?_); refine q29 ?hg (N := 6) ?hd (cs := #[.int .i64 0, .int .i64 0, .int .i64 0]) (t := 23) ?hr ?_; (case hd => rfl); (case hg => rfl); (case hr => first | (go_simp; done) | (go_simp; rfl)); intro gb171 hg w90 hbox hb; have n0_ := Aside0.mk (q19 (g := gb170) (o := .cells #[.int .i64 a1_0, .int .i64 a1_1, .int .i64 a1_2] 23 (0, 0)) (by (with_reducible repeat (first | refine q13 ?_ _ | refine q15 ?_ | refine q12 ?_ _)); exact BK170.out) hb); have n1_ := Aside0.mk (q20 (by repeat (first | (with_reducible first | exact HB.out | apply q10 | apply q9 | apply q11 | refine q14 ?_ GE170.out) | exact HB.out)) hb); have n2_ := Aside0.mk (hbox); have n3_ := Aside0.mk ((by rw [hg]; exact (q21 (by repeat (first | (with_reducible first | exact HB.out | apply q10 | apply q9 | apply q11 | refine q14 ?_ GE170.out) | exact HB.out))) : w.heap.size ≤ gb171)); have n4_ := Aside0.mk ((by rw [hg]; exact (q21 (by repeat (first | (with_reducible first | exact HB.out | apply q10 | apply q9 | apply q11 | refine q14 ?_ GE170.out) | exact HB.out))) : w.heap.size ≤ gb171)); have n5_ := Aside0.mk ((by rw [hg]; exact Nat.ne_of_lt (q30 (g := gb170) (o := .cells #[.int .i64 a1_0, .int .i64 a1_1, .int .i64 a1_2] 23 (0, 0)) (by (with_reducible repeat (first | refine q13 ?_ _ | refine q15 ?_ | refine q12 ?_ _)); exact BK170.out)) : gb170 ≠ gb171)); have n6_ := Aside0.mk ((by rw [hg]; exact Nat.ne_of_gt (q30 (g := gb170) (o := .cells #[.int .i64 a1_0, .int .i64 a1_1, .int .i64 a1_2] 23 (0, 0)) (by (with_reducible repeat (first | refine q13 ?_ _ | refine q15 ?_ | refine q12 ?_ _)); exact BK170.out)) : gb171 ≠ gb170)); clear BK170; clear HB; have BK170 := n0_; have HB := n1_; have BK171 := n2_; have GW171 := n3_; have GE171 := n4_; have NB170_171 := n5_; have NB171_170 := n6_; clear n0_ n1_ n2_ n3_ n4_ n5_ n6_; clear hb hbox hg; have hnb91 := NB170_171.out; have hnc91 := NB171_170.out; have hcz92_0 : w90.cell? ⟨gb170, 0, none⟩ = some (.int .i64 a1_0) := (q16 BK170.out 0).trans rfl; have hcz92_1 : w90.cell? ⟨gb170, 1, none⟩ = some (.int .i64 a1_1) := (q16 BK170.out 1).trans rfl; have hcz92_2 : w90.cell? ⟨gb170, 2, none⟩ = some (.int .i64 a1_2) := (q16 BK170.out 2).trans rfl; have hfz92_0 := q0 BK170.out 0; have hfz92_1 := q0 BK170.out 1; have hfz92_2 := q0 BK170.out 2) | (go_at_call 39; (with_reducible refine (crosstreeref10_access.calls k _ _ l0 a1_0 a1_1 a1_2 a2 t172 _ ?side1 ?side2 A4.out).mono ?_); (case side1 => repeat (first | exact (Kd.C_below HR0.out HB.out) | (with_reducible refine Kd.C_alloc ?_ _) | (with_reducible refine Kd.C_drewN ?_ _) | (with_reducible refine Kd.C_drew ?_))); (case side2 => exact HC0.out); rintro e w93 ⟨rfl, hb⟩; have n0_ := Aside0.mk (q19 (g := gb170) (o := .cells #[.int .i64 a1_0, .int .i64 a1_1, .int .i64 a1_2] 23 (0, 0)) (by (with_reducible repeat (first | refine q13 ?_ _ | refine q15 ?_ | refine q12 ?_ _)); exact BK170.out) hb); have n1_ := Aside0.mk (q19 (g := gb171) (o := .cells #[.int .i64 0, .int .i64 0, .int .i64 0] 23 (0, 0)) (by (with_reducible repeat (first | refine q13 ?_ _ | refine q15 ?_ | refine q12 ?_ _)); exact BK171.out) hb); have n2_ := Aside0.mk (q20 (by repeat (first | (with_reducible first | exact HB.out | apply q10 | apply q9 | apply q11 | refine q14 ?_ GE170.out | refine q14 ?_ GE171.out) | exact HB.out)) hb); clear BK170; clear BK171; clear HB; have BK170 := n0_; have BK171 := n1_; have HB := n2_; clear n0_ n1_ n2_; (try clear hb); (try clear hb2); (try clear hk); (try clear hi); have hcz94_0 : w93.cell? ⟨gb171, 0, none⟩ = some (.int .i64 0) := (q16 BK171.out 0).trans rfl; have hcz94_1 : w93.cell? ⟨gb171, 1, none⟩ = some (.int .i64 0) := (q16 BK171.out 1).trans rfl; have hcz94_2 : w93.cell? ⟨gb171, 2, none⟩ = some (.int .i64 0) := (q16 BK171.out 2).trans rfl; have hfz94_0 := q0 BK171.out 0; have hfz94_1 := q0 BK171.out 1; have hfz94_2 := q0 BK171.out 2))
  repeat (go_quiet (first | ((with_reducible refine q32 (N := 4) rfl ?_); refine q29 ?hg (N := 4) ?hd (cs := #[.int .i64 a1_0, .int .i64 a1_1, .int .i64 a1_2]) (t := 23) ?hr ?_; (case hd => rfl); (case hg => rfl); (case hr => first | (go_simp; done) | (go_simp; rfl)); intro gb170 hg w89 hbox hb; have n0_ := Aside0.mk (q20 (by repeat (first | (with_reducible first | exact HB.out | apply q10 | apply q9 | apply q11) | exact HB.out)) hb); have n1_ := Aside0.mk (hbox); have n2_ := Aside0.mk ((by rw [hg]; exact (q21 (by repeat (first | (with_reducible first | exact HB.out | apply q10 | apply q9 | apply q11) | exact HB.out))) : w.heap.size ≤ gb170)); have n3_ := Aside0.mk ((by rw [hg]; exact (q21 (by repeat (first | (with_reducible first | exact HB.out | apply q10 | apply q9 | apply q11) | exact HB.out))) : w.heap.size ≤ gb170)); clear HB; have HB := n0_; have BK170 := n1_; have GW170 := n2_; have GE170 := n3_; clear n0_ n1_ n2_ n3_; clear hb hbox hg) | ((with_reducible refine q32 (N := 6) rfl ?_); refine q29 ?hg (N := 6) ?hd (cs := #[.int .i64 0, .int .i64 0, .int .i64 0]) (t := 23) ?hr ?_; (case hd => rfl); (case hg => rfl); (case hr => first | (go_simp; done) | (go_simp; rfl)); intro gb171 hg w90 hbox hb; have n0_ := Aside0.mk (q19 (g := gb170) (o := .cells #[.int .i64 a1_0, .int .i64 a1_1, .int .i64 a1_2] 23 (0, 0)) (by (with_reducible repeat (first | refine q13 ?_ _ | refine q15 ?_ | refine q12 ?_ _)); exact BK170.out) hb); have n1_ := Aside0.mk (q20 (by repeat (first | (with_reducible first | exact HB.out | apply q10 | apply q9 | apply q11 | refine q14 ?_ GE170.out) | exact HB.out)) hb); have n2_ := Aside0.mk (hbox); have n3_ := Aside0.mk ((by rw [hg]; exact (q21 (by repeat (first | (with_reducible first | exact HB.out | apply q10 | apply q9 | apply q11 | refine q14 ?_ GE170.out) | exact HB.out))) : w.heap.size ≤ gb171)); have n4_ := Aside0.mk ((by rw [hg]; exact (q21 (by repeat (first | (with_reducible first | exact HB.out | apply q10 | apply q9 | apply q11 | refine q14 ?_ GE170.out) | exact HB.out))) : w.heap.size ≤ gb171)); have n5_ := Aside0.mk ((by rw [hg]; exact Nat.ne_of_lt (q30 (g := gb170) (o := .cells #[.int .i64 a1_0, .int .i64 a1_1, .int .i64 a1_2] 23 (0, 0)) (by (with_reducible repeat (first | refine q13 ?_ _ | refine q15 ?_ | refine q12 ?_ _)); exact BK170.out)) : gb170 ≠ gb171)); have n6_ := Aside0.mk ((by rw [hg]; exact Nat.ne_of_gt (q30 (g := gb170) (o := .cells #[.int .i64 a1_0, .int .i64 a1_1, .int .i64 a1_2] 23 (0, 0)) (by (with_reducible repeat (first | refine q13 ?_ _ | refine q15 ?_ | refine q12 ?_ _)); exact BK170.out)) : gb171 ≠ gb170)); clear BK170; clear HB; have BK170 := n0_; have HB := n1_; have BK171 := n2_; have GW171 := n3_; have GE171 := n4_; have NB170_171 := n5_; have NB171_170 := n6_; clear n0_ n1_ n2_ n3_ n4_ n5_ n6_; clear hb hbox hg; have hnb91 := NB170_171.out; have hnc91 := NB171_170.out; have hcz92_0 : w90.cell? ⟨gb170, 0, none⟩ = some (.int .i64 a1_0) := (q16 BK170.out 0).trans rfl; have hcz92_1 : w90.cell? ⟨gb170, 1, none⟩ = some (.int .i64 a1_1) := (q16 BK170.out 1).trans rfl; have hcz92_2 : w90.cell? ⟨gb170, 2, none⟩ = some (.int .i64 a1_2) := (q16 BK170.out 2).trans rfl; have hfz92_0 := q0 BK170.out 0; have hfz92_1 := q0 BK170.out 1; have hfz92_2 := q0 BK170.out 2) | (go_at_call 39; (with_reducible refine (crosstreeref10_access.calls k _ _ l0 a1_0 a1_1 a1_2 a2 t172 _ ?side1 ?side2 A4.out).mono ?_); (case side1 => repeat (first | exact (Kd.C_below HR0.out HB.out) | (with_reducible refine Kd.C_alloc ?_ _) | (with_reducible refine Kd.C_drewN ?_ _) | (with_reducible refine Kd.C_drew ?_))); (case side2 => exact HC0.out); rintro e w93 ⟨rfl, hb⟩; have n0_ := Aside0.mk (q19 (g := gb170) (o := .cells #[.int .i64 a1_0, .int .i64 a1_1, .int .i64 a1_2] 23 (0, 0)) (by (with_reducible repeat (first | refine q13 ?_ _ | refine q15 ?_ | refine q12 ?_ _)); exact BK170.out) hb); have n1_ := Aside0.mk (q19 (g := gb171) (o := .cells #[.int .i64 0, .int .i64 0, .int .i64 0] 23 (0, 0)) (by (with_reducible repeat (first | refine q13 ?_ _ | refine q15 ?_ | refine q12 ?_ _)); exact BK171.out) hb); have n2_ := Aside0.mk (q20 (by repeat (first | (with_reducible first | exact HB.out | apply q10 | apply q9 | apply q11 | refine q14 ?_ GE170.out | refine q14 ?_ GE171.out) | exact HB.out)) hb); clear BK170; clear BK171; clear HB; have BK170 := n0_; have BK171 := n1_; have HB := n2_; clear n0_ n1_ n2_; (try clear hb); (try clear hb2); (try clear hk); (try clear hi); have hcz94_0 : w93.cell? ⟨gb171, 0, none⟩ = some (.int .i64 0) := (q16 BK171.out 0).trans rfl; have hcz94_1 : w93.cell? ⟨gb171, 1, none⟩ = some (.int .i64 0) := (q16 BK171.out 1).trans rfl; have hcz94_2 : w93.cell? ⟨gb171, 2, none⟩ = some (.int .i64 0) := (q16 BK171.out 2).trans rfl; have hfz94_0 := q0 BK171.out 0; have hfz94_1 := q0 BK171.out 1; have hfz94_2 := q0 BK171.out 2)); try go_wp2_with (first | ((with_reducible refine q32 (N := 4) rfl ?_); refine q29 ?hg (N := 4) ?hd (cs := #[.int .i64 a1_0, .int .i64 a1_1, .int .i64 a1_2]) (t := 23) ?hr ?_; (case hd => rfl); (case hg => rfl); (case hr => first | (go_simp; done) | (go_simp; rfl)); intro gb170 hg w89 hbox hb; have n0_ := Aside0.mk (q20 (by repeat (first | (with_reducible first | exact HB.out | apply q10 | apply q9 | apply q11) | exact HB.out)) hb); have n1_ := Aside0.mk (hbox); have n2_ := Aside0.mk ((by rw [hg]; exact (q21 (by repeat (first | (with_reducible first | exact HB.out | apply q10 | apply q9 | apply q11) | exact HB.out))) : w.heap.size ≤ gb170)); have n3_ := Aside0.mk ((by rw [hg]; exact (q21 (by repeat (first | (with_reducible first | exact HB.out | apply q10 | apply q9 | apply q11) | exact HB.out))) : w.heap.size ≤ gb170)); clear HB; have HB := n0_; have BK170 := n1_; have GW170 := n2_; have GE170 := n3_; clear n0_ n1_ n2_ n3_; clear hb hbox hg) | ((with_reducible refine q32 (N := 6) rfl ?_); refine q29 ?hg (N := 6) ?hd (cs := #[.int .i64 0, .int .i64 0, .int .i64 0]) (t := 23) ?hr ?_; (case hd => rfl); (case hg => rfl); (case hr => first | (go_simp; done) | (go_simp; rfl)); intro gb171 hg w90 hbox hb; have n0_ := Aside0.mk (q19 (g := gb170) (o := .cells #[.int .i64 a1_0, .int .i64 a1_1, .int .i64 a1_2] 23 (0, 0)) (by (with_reducible repeat (first | refine q13 ?_ _ | refine q15 ?_ | refine q12 ?_ _)); exact BK170.out) hb); have n1_ := Aside0.mk (q20 (by repeat (first | (with_reducible first | exact HB.out | apply q10 | apply q9 | apply q11 | refine q14 ?_ GE170.out) | exact HB.out)) hb); have n2_ := Aside0.mk (hbox); have n3_ := Aside0.mk ((by rw [hg]; exact (q21 (by repeat (first | (with_reducible first | exact HB.out | apply q10 | apply q9 | apply q11 | refine q14 ?_ GE170.out) | exact HB.out))) : w.heap.size ≤ gb171)); have n4_ := Aside0.mk ((by rw [hg]; exact (q21 (by repeat (first | (with_reducible first | exact HB.out | apply q10 | apply q9 | apply q11 | refine q14 ?_ GE170.out) | exact HB.out))) : w.heap.size ≤ gb171)); have n5_ := Aside0.mk ((by rw [hg]; exact Nat.ne_of_lt (q30 (g := gb170) (o := .cells #[.int .i64 a1_0, .int .i64 a1_1, .int .i64 a1_2] 23 (0, 0)) (by (with_reducible repeat (first | refine q13 ?_ _ | refine q15 ?_ | refine q12 ?_ _)); exact BK170.out)) : gb170 ≠ gb171)); have n6_ := Aside0.mk ((by rw [hg]; exact Nat.ne_of_gt (q30 (g := gb170) (o := .cells #[.int .i64 a1_0, .int .i64 a1_1, .int .i64 a1_2] 23 (0, 0)) (by (with_reducible repeat (first | refine q13 ?_ _ | refine q15 ?_ | refine q12 ?_ _)); exact BK170.out)) : gb171 ≠ gb170)); clear BK170; clear HB; have BK170 := n0_; have HB := n1_; have BK171 := n2_; have GW171 := n3_; have GE171 := n4_; have NB170_171 := n5_; have NB171_170 := n6_; clear n0_ n1_ n2_ n3_ n4_ n5_ n6_; clear hb hbox hg; have hnb91 := NB170_171.out; have hnc91 := NB171_170.out; have hcz92_0 : w90.cell? ⟨gb170, 0, none⟩ = some (.int .i64 a1_0) := (q16 BK170.out 0).trans rfl; have hcz92_1 : w90.cell? ⟨gb170, 1, none⟩ = some (.int .i64 a1_1) := (q16 BK170.out 1).trans rfl; have hcz92_2 : w90.cell? ⟨gb170, 2, none⟩ = some (.int .i64 a1_2) := (q16 BK170.out 2).trans rfl; have hfz92_0 := q0 BK170.out 0; have hfz92_1 := q0 BK170.out 1; have hfz92_2 := q0 BK170.out 2) | (go_at_call 39; (with_reducible refine (crosstreeref10_access.calls k _ _ l0 a1_0 a1_1 a1_2 a2 t172 _ ?side1 ?side2 A4.out).mono ?_); (case side1 => repeat (first | exact (Kd.C_below HR0.out HB.out) | (with_reducible refine Kd.C_alloc ?_ _) | (with_reducible refine Kd.C_drewN ?_ _) | (with_reducible refine Kd.C_drew ?_))); (case side2 => exact HC0.out); rintro e w93 ⟨rfl, hb⟩; have n0_ := Aside0.mk (q19 (g := gb170) (o := .cells #[.int .i64 a1_0, .int .i64 a1_1, .int .i64 a1_2] 23 (0, 0)) (by (with_reducible repeat (first | refine q13 ?_ _ | refine q15 ?_ | refine q12 ?_ _)); exact BK170.out) hb); have n1_ := Aside0.mk (q19 (g := gb171) (o := .cells #[.int .i64 0, .int .i64 0, .int .i64 0] 23 (0, 0)) (by (with_reducible repeat (first | refine q13 ?_ _ | refine q15 ?_ | refine q12 ?_ _)); exact BK171.out) hb); have n2_ := Aside0.mk (q20 (by repeat (first | (with_reducible first | exact HB.out | apply q10 | apply q9 | apply q11 | refine q14 ?_ GE170.out | refine q14 ?_ GE171.out) | exact HB.out)) hb); clear BK170; clear BK171; clear HB; have BK170 := n0_; have BK171 := n1_; have HB := n2_; clear n0_ n1_ n2_; (try clear hb); (try clear hb2); (try clear hk); (try clear hi); have hcz94_0 : w93.cell? ⟨gb171, 0, none⟩ = some (.int .i64 0) := (q16 BK171.out 0).trans rfl; have hcz94_1 : w93.cell? ⟨gb171, 1, none⟩ = some (.int .i64 0) := (q16 BK171.out 1).trans rfl; have hcz94_2 : w93.cell? ⟨gb171, 2, none⟩ = some (.int .i64 0) := (q16 BK171.out 2).trans rfl; have hfz94_0 := q0 BK171.out 0; have hfz94_1 := q0 BK171.out 1; have hfz94_2 := q0 BK171.out 2)))
  refine bodyPost_ret (q41 rfl _ _ gb171 23 #[.int .i64 0, .int .i64 0, .int .i64 0] (0, 0) _ rfl (by (with_reducible repeat (first | refine q13 ?_ _ | refine q15 ?_ | refine q12 ?_ _)); refine q28 (cs := #[.int .i64 0, .int .i64 0, .int .i64 0]) ?_ 2 _ rfl; (with_reducible repeat (first | refine q13 ?_ _ | refine q15 ?_ | refine q12 ?_ _)); refine q28 (cs := #[.int .i64 0, .int .i64 0, .int .i64 0]) ?_ 1 _ rfl; (with_reducible repeat (first | refine q13 ?_ _ | refine q15 ?_ | refine q12 ?_ _)); refine q28 (cs := #[.int .i64 0, .int .i64 0, .int .i64 0]) ?_ 0 _ rfl; (with_reducible repeat (first | refine q13 ?_ _ | refine q15 ?_ | refine q12 ?_ _)); exact BK171.out) Try.underlying23 rfl (by kernel_rfl)) rfl ?_
  exact ⟨by first | rfl | (simp [q26, q25] <;> rfl) | (simp [*, q26, q25] <;> rfl), by repeat (first | (with_reducible first | exact HB.out | apply q10 | apply q9 | apply q11 | refine q14 ?_ GE170.out | refine q14 ?_ GE171.out) | exact HB.out)⟩
end Go.Proofs.Yteogfjhmjlelnaa.H
namespace Go.Proofs.Yteogfjhmjlelnaa.H
open Go.RowKit Go.Proofs.YteogfjhmjlelnaaW.PrintWords Go.Proofs.YteogfjhmjlelnaaW.PrintLast Go.Proofs.YteogfjhmjlelnaaW.PrintMore
attribute [local go_sem] max2_int min2_int max_two min_two max_three min_three max_four min_four
set_option linter.unusedVariables false
set_option linter.unusedSimpArgs false
def crosstreeref10_Lay.l0 : Nat → List (S69) → List (S42) → Int → Int → Int → Int → Int → List (S42) → Bool → Option ((List (S69)))
 | 0, _, _, _, _, _, _, _, _, _ => none
 | k + 1, x0, x2, x8, x189000, x189001, x189002, x191000, x191001, x191002 => if x8 < (x2.length : Int) then (if 0 ≤ x8 then (if 0 ≤ (wrap64 (x189000 + x8)) then (if (wrap64 (x189000 + x8)) < (x191001.length : Int) then (crosstreeref10_Lay.l0 k x0 x2 (wrap64 (x8 + 1)) x189000 x189001 x189002 x191000 (x191001.set ((wrap64 (x189000 + x8)) : Int).toNat (⟨(q27 x2 x8).f0, (q27 x2 x8).f1, (⟨(q27 x2 x8).f2.f0, (q27 x2 x8).f2.f1, (q27 x2 x8).f2.f2⟩ : S23)⟩ : S42)) x191002) else (none)) else (none)) else (none)) else ((crosstreeref10_with.f x0 x189001 x191000 x191001 x191002).bind fun t199 => (some t199))
def crosstreeref10_Lay.f (k : Nat) (l0 : List (S69)) (a1_0 : Int) (a1_1 : Int) (a1_2 : Int) (l2 : List (S42)) : Option ((List (S69))) := if 0 ≤ (wrap64 (a1_1 - 1)) then (if (wrap64 (a1_1 - 1)) < (l0.length : Int) then ((some (([] : List (S42)) : List (S42))).bind fun y191 => (if y191.length + ((q23 l0 (wrap64 (a1_1 - 1))).f1).length < 3518437208883 then (crosstreeref10_Lay.l0 k l0 l2 0 a1_0 a1_1 a1_2 ((q23 l0 (wrap64 (a1_1 - 1))).f0) (y191 ++ ((q23 l0 (wrap64 (a1_1 - 1))).f1)) ((q23 l0 (wrap64 (a1_1 - 1))).f2)) else (none))) else (none)) else (none)
theorem crosstreeref10_Lay.mono_l : ∀ k, (∀ y0 y1 y2 y3 y4 y5 y6 y7 y8, LeO (crosstreeref10_Lay.l0 k y0 y1 y2 y3 y4 y5 y6 y7 y8) (crosstreeref10_Lay.l0 (k + 1) y0 y1 y2 y3 y4 y5 y6 y7 y8))
 | 0 => fun _ _ _ _ _ _ _ _ _ r h => by simp [crosstreeref10_Lay.l0] at h
 | k + 1 => by
  have ih0 := crosstreeref10_Lay.mono_l k
  ·intro y0 y1 y2 y3 y4 y5 y6 y7 y8
   unfold crosstreeref10_Lay.l0
   repeat' first
   | (with_reducible exact ih0 _ _ _ _ _ _ _ _ _)
   | (with_reducible exact LeO.refl _)
   | (with_reducible exact LeO.none _)
   | (with_reducible refine LeO.ite ?_ ?_)
   | (with_reducible refine LeO.bind ?_ (fun _ => ?_))
   | exact ih0 _ _ _ _ _ _ _ _ _
   | exact LeO.none _
   | refine LeO.ite ?_ ?_
   | refine LeO.bind ?_ (fun _ => ?_)
theorem crosstreeref10_Lay.mono : ∀ a0 a1 a2 a3 a4 k, LeO (crosstreeref10_Lay.f k a0 a1 a2 a3 a4) (crosstreeref10_Lay.f (k + 1) a0 a1 a2 a3 a4) := by
 intro a0 a1 a2 a3 a4 k
 have ih0 := crosstreeref10_Lay.mono_l k
 unfold crosstreeref10_Lay.f
 repeat' first
   | (with_reducible exact ih0 _ _ _ _ _ _ _ _ _)
   | (with_reducible exact LeO.refl _)
   | (with_reducible exact LeO.none _)
   | (with_reducible refine LeO.ite ?_ ?_)
   | (with_reducible refine LeO.bind ?_ (fun _ => ?_))
   | exact ih0 _ _ _ _ _ _ _ _ _
   | exact LeO.none _
   | refine LeO.ite ?_ ?_
   | refine LeO.bind ?_ (fun _ => ?_)
def crosstreeref10_Lay.T6 : Bool × List (List Nat × List Nat) := (true, [([], []), ([0], [0]), ([], []), ([2], [2]), ([], []), ([3, 4], [3, 4]), ([], []), ([], []), ([6, 7], [6, 7]), ([8], [8]), ([1, 5, 0, 1, 2, 3, 4, 5, 6, 7, 8, 9], [1, 5]), ([10, 9, 0, 1, 2, 3, 4, 5, 6, 7, 8, 9], [9, 10])])
def crosstreeref10_Lay.B6 : List Nat := [0, 1, 0, 4, 0, 28, 0, 0, 192, 448, 1023, 2047]
theorem crosstreeref10_Lay.tab6 : rtab .any (opsOf Try.f41 6) = crosstreeref10_Lay.T6 := by kernel_rfl
theorem crosstreeref10_Lay.bits6 : waitsOk crosstreeref10_Lay.T6.2 crosstreeref10_Lay.B6 = true := by kernel_rfl
set_option maxHeartbeats 8000000 in
set_option maxRecDepth 100000 in
theorem crosstreeref10_Lay.calls (k : Nat) (P0_ : Nat → Prop) (A0 : Option Addr) (c0 : Nat) (l0 : List (S69)) (a1_0 : Int) (a1_1 : Int) (a1_2 : Int) (A2 : Option Addr) (c2 : Nat) (l2 : List (S42)) (r : List (S69)) (w : World) (hs0 : Kd.V k69 69 w w.heap.size (fun k_ => P0_ k_) (.slice A0 l0.length c0) l0) (hr2 : Kd.C k42 w A2 l2.length l2) (hc2 : l2.length ≤ c2) (h : crosstreeref10_Lay.f k l0 a1_0 a1_1 a1_2 l2 = some r) :
  Calls Try.prog 41 #[.slice A0 l0.length c0, .agg #[.int .i64 a1_0, .int .i64 a1_1, .int .i64 a1_2], .slice A2 l2.length c2] w fun e w' => ∃ v0_ : Value, e = .returned (v0_) ∧ Kd.N k69 69 w' w.heap.size (fun k_ => (P0_ k_ ∨ w.heap.size ≤ k_)) v0_ r ∧ Below w.heap.size w w' := by
 have hu23 := Try.underlying23
 have hu69 := Try.underlying69
 have hu42 := Try.underlying42
 have HO0 := Aside0.mk (show Kd.V k69 69 w w.heap.size (fun k_ => (P0_ k_ ∨ w.heap.size ≤ k_)) (.slice A0 l0.length c0) l0 from Kd.V_mono hs0 (fun k_ hk => .inl hk))
 have HR2 := Aside0.mk hr2
 have HC2 := Aside0.mk hc2
 clear hr2 hc2
 have HB := Aside0.mk (Below.refl w.heap.size w)
 have H : (if 0 ≤ (wrap64 (a1_1 - 1)) then (if (wrap64 (a1_1 - 1)) < (l0.length : Int) then ((some (([] : List (S42)) : List (S42))).bind fun y191 => (if y191.length + ((q23 l0 (wrap64 (a1_1 - 1))).f1).length < 3518437208883 then (crosstreeref10_Lay.l0 k l0 l2 0 a1_0 a1_1 a1_2 ((q23 l0 (wrap64 (a1_1 - 1))).f0) (y191 ++ ((q23 l0 (wrap64 (a1_1 - 1))).f1)) ((q23 l0 (wrap64 (a1_1 - 1))).f2)) else (none))) else (none)) else (none)) = some r := h
 clear h
 obtain ⟨ji4, hji4⟩ : ∃ j_ : Int, (wrap64 (a1_1 - 1)) = j_ := ⟨_, rfl⟩
 replace H : (if 0 ≤ (ji4) then (if (ji4) < (l0.length : Int) then ((some (([] : List (S42)) : List (S42))).bind fun y191 => (if y191.length + ((q23 l0 (ji4)).f1).length < 3518437208883 then (crosstreeref10_Lay.l0 k l0 l2 0 a1_0 a1_1 a1_2 ((q23 l0 (ji4)).f0) (y191 ++ ((q23 l0 (ji4)).f1)) ((q23 l0 (ji4)).f2)) else (none))) else (none)) else (none)) = some r := by first | (rw [hji4] at H; exact H) | (simp only [hji4] at H ⊢; exact H)
 have hji4w : (IntKind.i64.wrap (a1_1 - 1)) = ji4 := (i64_w _).trans hji4
 by_cases c5 : 0 ≤ (ji4)
 ·rw [if_pos c5] at H
  have c5b0 : decide (0 ≤ (ji4)) = true := decide_eq_true c5
  clear c5
  by_cases c6 : (ji4) < (l0.length : Int)
  ·rw [if_pos c6] at H
   have c6b0 : decide ((ji4) < (l0.length : Int)) = true := decide_eq_true c6
   clear c6
   obtain ⟨y191, hy191⟩ : ∃ y_ : List (S42), y_ = (([] : List (S42))) := ⟨_, rfl⟩
   replace H : (if y191.length + ((q23 l0 (ji4)).f1).length < 3518437208883 then (crosstreeref10_Lay.l0 k l0 l2 0 a1_0 a1_1 a1_2 ((q23 l0 (ji4)).f0) (y191 ++ ((q23 l0 (ji4)).f1)) ((q23 l0 (ji4)).f2)) else (none)) = some r := by first | (rw [hy191]; with_reducible exact H) | (have H2_ := (Option.bind_some _ _).symm.trans H; rw [hy191]; with_reducible exact H2_) | (have H2_ := (Option.bind_some _ _).symm.trans H; with_reducible exact H2_) | with_reducible exact H | (rw [hy191]; exact H) | exact H
   have Ny191 := Aside0.mk hy191
   clear hy191
   by_cases c7 : y191.length + ((q23 l0 (ji4)).f1).length < 3518437208883
   ·rw [if_pos c7] at H
    have LMc7 := Aside0.mk c7
    clear c7
    obtain ⟨y194, hy194⟩ : ∃ y_ : List (S42), y_ = (y191 ++ ((q23 l0 (ji4)).f1)) := ⟨_, rfl⟩
    replace H : (crosstreeref10_Lay.l0 k l0 l2 0 a1_0 a1_1 a1_2 ((q23 l0 (ji4)).f0) y194 ((q23 l0 (ji4)).f2)) = some r := by first | (rw [hy194]; with_reducible exact H) | (have H2_ := (Option.bind_some _ _).symm.trans H; rw [hy194]; with_reducible exact H2_) | (have H2_ := (Option.bind_some _ _).symm.trans H; with_reducible exact H2_) | with_reducible exact H | (rw [hy194]; exact H) | exact H
    have Ny194 := Aside0.mk hy194
    clear hy194
    have H' := Aside0.mk H
    clear H
    go_enter Try.func41, Try.ntmps41
    go_wp2_with (first | ((with_reducible refine q32 (N := 4) rfl ?_); refine q29 ?hg (N := 4) ?hd (cs := #[.int .i64 a1_0, .int .i64 a1_1, .int .i64 a1_2]) (t := 23) ?hr ?_; (case hd => rfl); (case hg => rfl); (case hr => first | (go_simp; done) | (go_simp; rfl)); intro gb188 hg w8 hbox hb; have n0_ := Aside0.mk (Kd.V_below (Kd.V_elderB (by (with_reducible repeat (first | apply Kd.V_alloc | apply Kd.V_drewN | apply Kd.V_drew)); exact HO0.out) gb188 (Nat.le_of_eq hg.symm)) hb); have n1_ := Aside0.mk (q20 (by repeat (first | (with_reducible first | exact HB.out | apply q10 | apply q9 | apply q11) | exact HB.out)) hb); have n2_ := Aside0.mk (hbox); have n3_ := Aside0.mk ((by rw [hg]; exact (q21 (by repeat (first | (with_reducible first | exact HB.out | apply q10 | apply q9 | apply q11) | exact HB.out))) : w.heap.size ≤ gb188)); have n4_ := Aside0.mk ((by rw [hg]; exact (q21 (by repeat (first | (with_reducible first | exact HB.out | apply q10 | apply q9 | apply q11) | exact HB.out))) : w.heap.size ≤ gb188)); clear HO0; clear HB; have HO0 := n0_; have HB := n1_; have BK188 := n2_; have GW188 := n3_; have GE188 := n4_; clear n0_ n1_ n2_ n3_ n4_; clear hb hbox hg; have hcz9_0 : w8.cell? ⟨gb188, 0, none⟩ = some (.int .i64 a1_0) := (q16 BK188.out 0).trans rfl; have hcz9_1 : w8.cell? ⟨gb188, 1, none⟩ = some (.int .i64 a1_1) := (q16 BK188.out 1).trans rfl; have hcz9_2 : w8.cell? ⟨gb188, 2, none⟩ = some (.int .i64 a1_2) := (q16 BK188.out 2).trans rfl; have hfz9_0 := q0 BK188.out 0; have hfz9_1 := q0 BK188.out 1; have hfz9_2 := q0 BK188.out 2; have p189 : 0 ≤ ((ji4) : Int) := of_decide_eq_true (by first | (with_reducible assumption) | assumption); have q189 : (ji4) < (l0.length : Int) := of_decide_eq_true (by first | (with_reducible assumption) | assumption); obtain ⟨ad189, A189_1, c189_1, e189, hx189_0, hx189_1, hx189_2, hl189_1, hi189_1⟩ := at_T69 (Kd.V_reads' HO0.out).2.2 (ji4) p189 q189; cases e189; obtain ⟨ce189, hce189, hMe189, hcc189⟩ := Kd.V_get HO0.out z69 (ji4) p189 (by first | exact q189 | exact of_decide_eq_true (by first | (with_reducible assumption) | assumption) | (have e_ := (Kd.V_reads' HO0.out).1; omega)); obtain ⟨ua189_1, uc189_1, rfl, ul189_1, ge189_1⟩ := k69_openF hMe189; have hv189_1 := hcc189 1 _ rfl; rw [add_field _ _ 1 (by omega)] at hv189_1; replace hv189_1 := Option.some.inj (hv189_1.symm.trans hx189_1); injection hv189_1 with hva_ hvn_ hvc_; rw [hva_] at ge189_1; rw [hvc_] at ul189_1; have HL189_1 := Aside0.mk (show Kd.V k42 42 _ w.heap.size _ _ ((q23 l0 (ji4)).f1) from Kd.V_mk ul189_1 ge189_1); clear hva_ hvn_ hvc_ ge189_1 ul189_1; clear hcc189 hce189; have HR189_1 := Aside0.mk hi189_1; have HC189_1 := Aside0.mk hl189_1; clear hi189_1 hl189_1; replace p189 := eq_true p189; replace q189 := eq_true q189) | ((with_reducible refine q32 (N := 7) rfl ?_); refine q29 ?hg (N := 7) ?hd (cs := #[.int .i64 0, .slice none 0 0, .bool false]) (t := 69) ?hr ?_; (case hd => rfl); (case hg => rfl); (case hr => first | (go_simp; done) | (go_simp; rfl)); intro gb190 hg w10 hbox hb; have n0_ := Aside0.mk (Kd.V_below (Kd.V_elderB (by (with_reducible repeat (first | apply Kd.V_alloc | apply Kd.V_drewN | apply Kd.V_drew)); exact HO0.out) gb190 (Nat.le_of_eq hg.symm)) hb); have n1_ := Aside0.mk (Kd.V_below (Kd.V_elderB (by (with_reducible repeat (first | apply Kd.V_alloc | apply Kd.V_drewN | apply Kd.V_drew)); exact HL189_1.out) gb190 (Nat.le_of_eq hg.symm)) hb); have n2_ := Aside0.mk (q19 (g := gb188) (o := .cells #[.int .i64 a1_0, .int .i64 a1_1, .int .i64 a1_2] 23 (0, 0)) (by (with_reducible repeat (first | refine q13 ?_ _ | refine q15 ?_ | refine q12 ?_ _)); exact BK188.out) hb); have n3_ := Aside0.mk (Kd.C_below (by repeat (first | (with_reducible exact HR189_1.out) | (with_reducible refine Kd.C_alloc ?_ _) | (with_reducible refine Kd.C_drewN ?_ _) | (with_reducible refine Kd.C_drew ?_) | exact HR189_1.out)) hb); have n4_ := Aside0.mk (q20 (by repeat (first | (with_reducible first | exact HB.out | apply q10 | apply q9 | apply q11 | refine q14 ?_ GE188.out) | exact HB.out)) hb); have n5_ := Aside0.mk (hbox); have n6_ := Aside0.mk ((by rw [hg]; exact (q21 (by repeat (first | (with_reducible first | exact HB.out | apply q10 | apply q9 | apply q11 | refine q14 ?_ GE188.out) | exact HB.out))) : w.heap.size ≤ gb190)); have n7_ := Aside0.mk ((by rw [hg]; exact (q21 (by repeat (first | (with_reducible first | exact HB.out | apply q10 | apply q9 | apply q11 | refine q14 ?_ GE188.out) | exact HB.out))) : w.heap.size ≤ gb190)); have n8_ := Aside0.mk ((by rw [hg]; exact Nat.ne_of_lt (q30 (g := gb188) (o := .cells #[.int .i64 a1_0, .int .i64 a1_1, .int .i64 a1_2] 23 (0, 0)) (by (with_reducible repeat (first | refine q13 ?_ _ | refine q15 ?_ | refine q12 ?_ _)); exact BK188.out)) : gb188 ≠ gb190)); have n9_ := Aside0.mk ((by rw [hg]; exact Nat.ne_of_gt (q30 (g := gb188) (o := .cells #[.int .i64 a1_0, .int .i64 a1_1, .int .i64 a1_2] 23 (0, 0)) (by (with_reducible repeat (first | refine q13 ?_ _ | refine q15 ?_ | refine q12 ?_ _)); exact BK188.out)) : gb190 ≠ gb188)); clear HO0; clear HL189_1; clear BK188; clear HR189_1; clear HB; have HO0 := n0_; have HL189_1 := n1_; have BK188 := n2_; have HR189_1 := n3_; have HB := n4_; have BK190 := n5_; have GW190 := n6_; have GE190 := n7_; have NB188_190 := n8_; have NB190_188 := n9_; clear n0_ n1_ n2_ n3_ n4_ n5_ n6_ n7_ n8_ n9_; clear hb hbox hg; have hnb11 := NB190_188.out; have hnc11 := NB188_190.out; have hcz12_0 : w10.cell? ⟨gb190, 0, none⟩ = some (.int .i64 0) := (q16 BK190.out 0).trans rfl; have hcz12_1 : w10.cell? ⟨gb190, 1, none⟩ = some (.slice none 0 0) := (q16 BK190.out 1).trans rfl; have hcz12_2 : w10.cell? ⟨gb190, 2, none⟩ = some (.bool false) := (q16 BK190.out 2).trans rfl; have hfz12_0 := q0 BK190.out 0; have hfz12_1 := q0 BK190.out 1; have hfz12_2 := q0 BK190.out 2) | ((with_reducible refine q32 (N := 15) rfl ?_); refine Kd.R_lit k42 _ 42 ?hg (N := 15) ?hd (xs := ([] : List (S42))) (inner := []) (ok := fun _ => True) (okp := fun _ => True) ?hr ?hp (fun _ hk => hk) trivial (Below.refl _ _) (Nat.le_refl _) (by simp) ?_; (case hd => rfl); (case hg => rfl); (case hr => first | (go_simp; done) | (go_simp; rfl)); (case hp => exact (Reps.none _ _)); intro v192 w13 ho14 hb hg_ hnew_; clear hg_ hnew_; (first | rw [← Ny191.out] at ho14 | (simp only [Int.reduceToNat] at ho14; rw [← Ny191.out] at ho14)); have n0_ := Aside0.mk (Kd.V_elder' (by (with_reducible repeat (first | apply Kd.V_alloc | apply Kd.V_drewN | apply Kd.V_drew)); exact (Kd.V_mono (Kd.V_far (p := ⟨gb190, 2, none⟩) (Kd.V_far (p := ⟨gb190, 1, none⟩) (Kd.V_far (p := ⟨gb190, 0, none⟩) (Kd.V_mono HO0.out (fun k_ hk => (⟨hk, hk.2⟩ : _ ∧ k_ ≠ gb190))) (fun _ hk => hk.2) (.int .i64 ((q23 l0 (ji4)).f0))) (fun _ hk => hk.2) (.slice A189_1 ((q23 l0 (ji4)).f1).length c189_1)) (fun _ hk => hk.2) (.bool ((q23 l0 (ji4)).f2))) (fun _ h_ => h_.1))) (Kd.R_base ho14) hb); have n1_ := Aside0.mk (Kd.V_elder' (by (with_reducible repeat (first | apply Kd.V_alloc | apply Kd.V_drewN | apply Kd.V_drew)); exact (Kd.V_mono (Kd.V_far (p := ⟨gb190, 2, none⟩) (Kd.V_far (p := ⟨gb190, 1, none⟩) (Kd.V_far (p := ⟨gb190, 0, none⟩) (Kd.V_mono HL189_1.out (fun k_ hk => (⟨hk, hk.2⟩ : _ ∧ k_ ≠ gb190))) (fun _ hk => hk.2) (.int .i64 ((q23 l0 (ji4)).f0))) (fun _ hk => hk.2) (.slice A189_1 ((q23 l0 (ji4)).f1).length c189_1)) (fun _ hk => hk.2) (.bool ((q23 l0 (ji4)).f2))) (fun _ h_ => h_.1))) (Kd.R_base ho14) hb); have n2_ := Aside0.mk (Kd.R_lower (Kd.R_newM (M := fun k_ => (w.heap.size ≤ k_)) ho14 (q21 (by repeat (first | (with_reducible first | exact HB.out | apply q10 | apply q9 | apply q11 | refine q14 ?_ GE188.out | refine q14 ?_ GE190.out) | exact HB.out))) (fun k_ h_ => h_)) (q21 (by repeat (first | (with_reducible first | exact HB.out | apply q10 | apply q9 | apply q11 | refine q14 ?_ GE188.out | refine q14 ?_ GE190.out) | exact HB.out)))); have n3_ := Aside0.mk (q19 (g := gb188) (o := .cells #[.int .i64 a1_0, .int .i64 a1_1, .int .i64 a1_2] 23 (0, 0)) (by (with_reducible repeat (first | refine q13 ?_ _ | refine q15 ?_ | refine q12 ?_ _)); refine q40 ?_ NB188_190.out _; (with_reducible repeat (first | refine q13 ?_ _ | refine q15 ?_ | refine q12 ?_ _)); refine q40 ?_ NB188_190.out _; (with_reducible repeat (first | refine q13 ?_ _ | refine q15 ?_ | refine q12 ?_ _)); refine q40 ?_ NB188_190.out _; (with_reducible repeat (first | refine q13 ?_ _ | refine q15 ?_ | refine q12 ?_ _)); exact BK188.out) hb); have n4_ := Aside0.mk (Kd.C_below ((Kd.V_reads' (by (with_reducible repeat (first | apply Kd.V_alloc | apply Kd.V_drewN | apply Kd.V_drew)); exact (Kd.V_mono (Kd.V_far (p := ⟨gb190, 2, none⟩) (Kd.V_far (p := ⟨gb190, 1, none⟩) (Kd.V_far (p := ⟨gb190, 0, none⟩) (Kd.V_mono HL189_1.out (fun k_ hk => (⟨hk, hk.2⟩ : _ ∧ k_ ≠ gb190))) (fun _ hk => hk.2) (.int .i64 ((q23 l0 (ji4)).f0))) (fun _ hk => hk.2) (.slice A189_1 ((q23 l0 (ji4)).f1).length c189_1)) (fun _ hk => hk.2) (.bool ((q23 l0 (ji4)).f2))) (fun _ h_ => h_.1)))).2.2) hb); have n5_ := Aside0.mk (q19 (g := gb190) (o := .cells #[.int .i64 ((q23 l0 (ji4)).f0), .slice A189_1 ((q23 l0 (ji4)).f1).length c189_1, .bool ((q23 l0 (ji4)).f2)] 69 (0, 0)) (by (with_reducible repeat (first | refine q13 ?_ _ | refine q15 ?_ | refine q12 ?_ _)); refine q28 (cs := #[.int .i64 ((q23 l0 (ji4)).f0), .slice A189_1 ((q23 l0 (ji4)).f1).length c189_1, .bool false]) ?_ 2 _ rfl; (with_reducible repeat (first | refine q13 ?_ _ | refine q15 ?_ | refine q12 ?_ _)); refine q28 (cs := #[.int .i64 ((q23 l0 (ji4)).f0), .slice none 0 0, .bool false]) ?_ 1 _ rfl; (with_reducible repeat (first | refine q13 ?_ _ | refine q15 ?_ | refine q12 ?_ _)); refine q28 (cs := #[.int .i64 0, .slice none 0 0, .bool false]) ?_ 0 _ rfl; (with_reducible repeat (first | refine q13 ?_ _ | refine q15 ?_ | refine q12 ?_ _)); exact BK190.out) hb); have n6_ := Aside0.mk (q20 (by repeat (first | (with_reducible first | exact HB.out | apply q10 | apply q9 | apply q11 | refine q14 ?_ GE188.out | refine q14 ?_ GE190.out) | exact HB.out)) hb); clear HO0; clear HL189_1; clear BK188; clear HR189_1; clear BK190; clear HB; have HO0 := n0_; have HL189_1 := n1_; have HO193 := n2_; have BK188 := n3_; have HR189_1 := n4_; have BK190 := n5_; have HB := n6_; clear n0_ n1_ n2_ n3_ n4_ n5_ n6_; clear hb ho14; have hcz15_0 : w13.cell? ⟨gb190, 0, none⟩ = some (.int .i64 ((q23 l0 (ji4)).f0)) := (q16 BK190.out 0).trans rfl; have hcz15_1 : w13.cell? ⟨gb190, 1, none⟩ = some (.slice A189_1 ((q23 l0 (ji4)).f1).length c189_1) := (q16 BK190.out 1).trans rfl; have hcz15_2 : w13.cell? ⟨gb190, 2, none⟩ = some (.bool ((q23 l0 (ji4)).f2)) := (q16 BK190.out 2).trans rfl; have hfz15_0 := q0 BK190.out 0; have hfz15_1 := q0 BK190.out 1; have hfz15_2 := q0 BK190.out 2) | ((with_reducible refine gate_builtin (b := .append) (xs := #[.tmp 15, .tmp 17]) rfl ?_); at_builtin; refine Kd.R_append_rows k42 (w0 := w) w.heap.size rfl (.tmp 15) (.tmp 17) 38 42 (.agg #[(.int .i64 0), (.int .u8 0), (.int .i64 0), (.int .i64 0), (.int .i64 0)]) 40 rfl Try.underlying38 info42 rfl (by decide) (by omega) v192 y191 ((q23 l0 (ji4)).f1) _ _ _ (fun k_ => (w.heap.size ≤ k_)) (fun _ => False) rfl rfl ?aO ?aR (fun _ _ h => h) (fun _ h => h.elim) ?aF ?aB ?aS ?aL ?_; (case aR => repeat (first | exact (by repeat (first | (with_reducible exact HR189_1.out) | (with_reducible refine Kd.C_alloc ?_ _) | (with_reducible refine Kd.C_drewN ?_ _) | (with_reducible refine Kd.C_drew ?_) | exact HR189_1.out)) | (with_reducible refine Kd.C_alloc ?_ _) | (with_reducible refine Kd.C_drewN ?_ _) | (with_reducible refine Kd.C_drew ?_))); (case aB => exact (by repeat (first | (with_reducible first | exact HB.out | apply q10 | apply q9 | apply q11 | refine q14 ?_ GE188.out | refine q14 ?_ GE190.out) | exact HB.out))); (case aF => exact (fun k_ hk => (Nat.le_trans (q21 (by repeat (first | (with_reducible first | exact HB.out | apply q10 | apply q9 | apply q11 | refine q14 ?_ GE188.out | refine q14 ?_ GE190.out) | exact HB.out))) hk))); (case aO => exact (by (with_reducible repeat (first | apply Kd.R_alloc | apply Kd.R_drewN | apply Kd.R_drew)); exact Kd.R_mono HO193.out (fun _ hk => hk.1))); (case aS => exact (q21 (by repeat (first | (with_reducible first | exact HB.out | apply q10 | apply q9 | apply q11 | refine q14 ?_ GE188.out | refine q14 ?_ GE190.out) | exact HB.out)))); (case aL => have := LMc7.out; omega); intro v195 w16 ho hb hg hat; rw [← Ny194.out] at ho; have n0_ := Aside0.mk (Kd.V_afterv (ok := (fun k_ => (P0_ k_ ∨ w.heap.size ≤ k_) ∧ k_ ≠ gb188 ∧ k_ ≠ gb190)) (by (with_reducible repeat (first | apply Kd.V_alloc | apply Kd.V_drewN | apply Kd.V_drew)); exact Kd.V_mono HO0.out (fun _ hk => ⟨⟨hk.1.1.1, ⟨hk.1.1.2, hk.1.2⟩⟩, hk.2⟩)) hg hat); have n1_ := Aside0.mk (q45 (g := gb188) (o := .cells #[.int .i64 a1_0, .int .i64 a1_1, .int .i64 a1_2] 23 (0, 0)) (by (with_reducible repeat (first | refine q13 ?_ _ | refine q15 ?_ | refine q12 ?_ _)); exact BK188.out) hg (Kd.R_ne HO193.out BK188.out (by decide))); have n2_ := Aside0.mk (Kd.V_afterv (ok := (fun k_ => (P0_ k_ ∨ w.heap.size ≤ k_) ∧ k_ ≠ gb188 ∧ k_ ≠ gb190)) (by (with_reducible repeat (first | apply Kd.V_alloc | apply Kd.V_drewN | apply Kd.V_drew)); exact Kd.V_mono HL189_1.out (fun _ hk => ⟨⟨hk.1.1.1, ⟨hk.1.1.2, hk.1.2⟩⟩, hk.2⟩)) hg hat); have n3_ := Aside0.mk (q45 (g := gb190) (o := .cells #[.int .i64 ((q23 l0 (ji4)).f0), .slice A189_1 ((q23 l0 (ji4)).f1).length c189_1, .bool ((q23 l0 (ji4)).f2)] 69 (0, 0)) (by (with_reducible repeat (first | refine q13 ?_ _ | refine q15 ?_ | refine q12 ?_ _)); exact BK190.out) hg (Kd.R_ne HO193.out BK190.out (by decide))); have n4_ := Aside0.mk (hb); have n5_ := Aside0.mk (ho); clear HO0; clear BK188; clear HL189_1; clear BK190; clear HB; clear HO193; have HO0 := n0_; have BK188 := n1_; have HL189_1 := n2_; have BK190 := n3_; have HB := n4_; have HO196 := n5_; clear n0_ n1_ n2_ n3_ n4_ n5_; clear ho hb hg hat; obtain ⟨Ao17, co17, eo17⟩ := Kd.R_slice HO196.out; subst eo17; have hcz18_0 : w16.cell? ⟨gb190, 0, none⟩ = some (.int .i64 ((q23 l0 (ji4)).f0)) := (q16 BK190.out 0).trans rfl; have hcz18_1 : w16.cell? ⟨gb190, 1, none⟩ = some (.slice A189_1 ((q23 l0 (ji4)).f1).length c189_1) := (q16 BK190.out 1).trans rfl; have hcz18_2 : w16.cell? ⟨gb190, 2, none⟩ = some (.bool ((q23 l0 (ji4)).f2)) := (q16 BK190.out 2).trans rfl; have hfz18_0 := q0 BK190.out 0; have hfz18_1 := q0 BK190.out 1; have hfz18_2 := q0 BK190.out 2))
    go_loopg [8] k (fun kq v8 w' => ∃ (x8_1 : Int) (x191001_1 : List (S42)) (u191001 : Value), v8 = .int .i64 x8_1 ∧ Aside0 (crosstreeref10_Lay.l0 kq l0 l2 x8_1 a1_0 a1_1 a1_2 ((q23 l0 (ji4)).f0) x191001_1 ((q23 l0 (ji4)).f2) = some r) ∧ Aside0 (kq ≤ k) ∧ Aside0 (Kd.V k69 69 w' w.heap.size (fun k_ => (P0_ k_ ∨ w.heap.size ≤ k_) ∧ some k_ ≠ (u191001 : Value).ownBlock ∧ k_ ≠ gb188 ∧ k_ ≠ gb190) (.slice (some ad189) l0.length c0) l0) ∧ Aside0 (Kd.R k42 42 w' w.heap.size (fun k_ => (w.heap.size ≤ k_)) u191001 x191001_1) ∧ Aside0 (w'.heap[gb188]? = some (.cells #[.int .i64 a1_0, .int .i64 a1_1, .int .i64 a1_2] 23 (0, 0))) ∧ Aside0 (w'.heap[gb190]? = some (.cells #[.int .i64 ((q23 l0 (ji4)).f0), u191001, .bool ((q23 l0 (ji4)).f2)] 69 (0, 0))) ∧ Aside0 (Below w.heap.size w w'))
    case atStart => exact ⟨(0), (y194), (.slice Ao17 y194.length co17), (by first | rfl | (simp; done) | (simp [*]; done)), H', ⟨Nat.le_refl _⟩, ⟨by (with_reducible repeat (first | apply Kd.V_alloc | apply Kd.V_drewN | apply Kd.V_drew)); exact Kd.V_mono (Kd.V_far (p := ⟨gb190, 1, none⟩) (Kd.V_mono HO0.out (fun k_ hk => (⟨hk, hk.1.2.2⟩ : _ ∧ k_ ≠ gb190))) (fun _ hk => hk.2) (.slice Ao17 y194.length co17)) (fun _ hk => ⟨hk.1.1.1, ⟨hk.1.2, ⟨hk.1.1.2.1, hk.1.1.2.2⟩⟩⟩)⟩, ⟨by (with_reducible repeat (first | apply Kd.R_alloc | apply Kd.R_drewN | apply Kd.R_drew)); exact Kd.R_mono (Kd.R_far (p := ⟨gb190, 1, none⟩) (Kd.R_types HO196.out BK190.out (by decide)) (fun _ hk => hk.2) (.slice Ao17 y194.length co17)) (fun _ hk => hk.1)⟩, ⟨by (with_reducible repeat (first | refine q13 ?_ _ | refine q15 ?_ | refine q12 ?_ _)); refine q40 ?_ NB188_190.out _; (with_reducible repeat (first | refine q13 ?_ _ | refine q15 ?_ | refine q12 ?_ _)); exact BK188.out⟩, ⟨by (with_reducible repeat (first | refine q13 ?_ _ | refine q15 ?_ | refine q12 ?_ _)); refine q28 (cs := #[.int .i64 ((q23 l0 (ji4)).f0), .slice A189_1 ((q23 l0 (ji4)).f1).length c189_1, .bool ((q23 l0 (ji4)).f2)]) ?_ 1 _ rfl; (with_reducible repeat (first | refine q13 ?_ _ | refine q15 ?_ | refine q12 ?_ _)); exact BK190.out⟩, ⟨by repeat (first | (with_reducible first | exact HB.out | apply q10 | apply q9 | apply q11 | refine q14 ?_ GE188.out | refine q14 ?_ GE190.out) | exact HB.out)⟩⟩
    case round =>
     clear H'
     try clear c1
     try clear p1
     try clear q1
     try clear hx1
     try clear c2
     try clear p2
     try clear c4
     try clear c5
     try clear c5b0
     try clear c6
     try clear c6b0
     try clear p6
     try clear c7
     try clear c11
     try clear c18
     try clear p18
     try clear q18
     try clear hx18
     try clear hcz12_0
     try clear hcz12_1
     try clear hcz12_2
     try clear hcz15_0
     try clear hcz15_1
     try clear hcz15_2
     try clear hcz18_0
     try clear hcz18_1
     try clear hcz18_2
     try clear hcz9_0
     try clear hcz9_1
     try clear hcz9_2
     try clear hfz12_0
     try clear hfz12_1
     try clear hfz12_2
     try clear hfz15_0
     try clear hfz15_1
     try clear hfz15_2
     try clear hfz18_0
     try clear hfz18_1
     try clear hfz18_2
     try clear hfz9_0
     try clear hfz9_1
     try clear hfz9_2
     try clear hx189_0
     try clear hx189_1
     try clear hx189_2
     try clear p189
     try clear q189
     obtain ⟨x8_1, x191001_1, u191001, rfl, HA, HK1, HO_0, HO_191001, BK188, BK190, HB⟩ := hrel
     cases gk with
     | zero => exact absurd HA.out (by simp [crosstreeref10_Lay.l0])
     | succ k1 =>
      have H := HA.out
      clear HA
      simp only [crosstreeref10_Lay.l0] at H
      by_cases c19 : x8_1 < (l2.length : Int)
      ·rw [if_pos c19] at H
       have c19b0 : decide (x8_1 < (l2.length : Int)) = true := decide_eq_true c19
       clear c19
       by_cases c20 : 0 ≤ x8_1
       ·rw [if_pos c20] at H
        have c20b0 : decide (0 ≤ x8_1) = true := decide_eq_true c20
        clear c20
        obtain ⟨ji21, hji21⟩ : ∃ j_ : Int, (wrap64 (a1_0 + x8_1)) = j_ := ⟨_, rfl⟩
        replace H : (if 0 ≤ (ji21) then (if (ji21) < (x191001_1.length : Int) then (crosstreeref10_Lay.l0 k1 l0 l2 (wrap64 (x8_1 + 1)) a1_0 a1_1 a1_2 ((q23 l0 (ji4)).f0) (x191001_1.set ((ji21) : Int).toNat (⟨(q27 l2 x8_1).f0, (q27 l2 x8_1).f1, (⟨(q27 l2 x8_1).f2.f0, (q27 l2 x8_1).f2.f1, (q27 l2 x8_1).f2.f2⟩ : S23)⟩ : S42)) ((q23 l0 (ji4)).f2)) else (none)) else (none)) = some r := by first | (rw [hji21] at H; exact H) | (simp only [hji21] at H ⊢; exact H)
        have hji21w : (IntKind.i64.wrap (a1_0 + x8_1)) = ji21 := (i64_w _).trans hji21
        by_cases c22 : 0 ≤ (ji21)
        ·rw [if_pos c22] at H
         have c22b0 : decide (0 ≤ (ji21)) = true := decide_eq_true c22
         clear c22
         by_cases c23 : (ji21) < (x191001_1.length : Int)
         ·rw [if_pos c23] at H
          have c23b0 : decide ((ji21) < (x191001_1.length : Int)) = true := decide_eq_true c23
          clear c23
          obtain ⟨y198, hy198⟩ : ∃ y_ : List (S42), y_ = (x191001_1.set ((ji21) : Int).toNat (⟨(q27 l2 x8_1).f0, (q27 l2 x8_1).f1, (⟨(q27 l2 x8_1).f2.f0, (q27 l2 x8_1).f2.f1, (q27 l2 x8_1).f2.f2⟩ : S23)⟩ : S42)) := ⟨_, rfl⟩
          replace H : (crosstreeref10_Lay.l0 k1 l0 l2 (wrap64 (x8_1 + 1)) a1_0 a1_1 a1_2 ((q23 l0 (ji4)).f0) y198 ((q23 l0 (ji4)).f2)) = some r := by first | (rw [hy198]; with_reducible exact H) | (have H2_ := (Option.bind_some _ _).symm.trans H; rw [hy198]; with_reducible exact H2_) | (have H2_ := (Option.bind_some _ _).symm.trans H; with_reducible exact H2_) | with_reducible exact H | (rw [hy198]; exact H) | exact H
          have Ny198 := Aside0.mk hy198
          clear hy198
          have H' := Aside0.mk H
          clear H
          try go_wp2
          have n0_ := Aside0.mk (Kd.V_drew HO_0.out)
          have n1_ := Aside0.mk (Kd.R_drew HO_191001.out)
          have n2_ := Aside0.mk (q15 BK188.out)
          have n3_ := Aside0.mk (q15 BK190.out)
          have n4_ := Aside0.mk (q11 HB.out)
          clear HO_0
          clear HO_191001
          clear BK188
          clear BK190
          clear HB
          have HO_0 := n0_
          have HO_191001 := n1_
          have BK188 := n2_
          have BK190 := n3_
          have HB := n4_
          clear n0_ n1_ n2_ n3_ n4_
          have p197 : 0 ≤ (x8_1 : Int) := of_decide_eq_true (by first | (with_reducible assumption) | assumption)
          have q197 : x8_1 < (l2.length : Int) := of_decide_eq_true (by first | (with_reducible assumption) | assumption)
          obtain ⟨ad197, e197, hx197_0, hx197_1, hx197_2, hx197_3, hx197_4⟩ := at_T42 HR2.out x8_1 p197 q197
          have hw197_4 := hx197_4
          have hw197_3 := hx197_3
          have hw197_2 := hx197_2
          have hw197_1 := hx197_1
          have hw197_0 := hx197_0
          cases e197
          replace hx197_0 := (HB.out.cell (World.block_lt_of_cell? w _ hx197_0)).trans hx197_0
          replace hx197_1 := (HB.out.cell (World.block_lt_of_cell? w _ hx197_1)).trans hx197_1
          replace hx197_2 := (HB.out.cell (World.block_lt_of_cell? w _ hx197_2)).trans hx197_2
          replace hx197_3 := (HB.out.cell (World.block_lt_of_cell? w _ hx197_3)).trans hx197_3
          replace hx197_4 := (HB.out.cell (World.block_lt_of_cell? w _ hx197_4)).trans hx197_4
          replace p197 := eq_true p197
          replace q197 := eq_true q197
          have p24 : 0 ≤ ((ji21) : Int) := of_decide_eq_true (by first | (with_reducible assumption) | assumption)
          have q24 : ((ji21) : Int) < ((x191001_1.length : Int) : Int) := of_decide_eq_true (by first | (with_reducible assumption) | assumption)
          obtain ⟨go24, co24, eo24, gb24, gl24, cl24, HG24⟩ := Kd.R_form HO_191001.out (by omega)
          (first | cases eo24 | (injection eo24 with ea_ en_ ec_; (first | subst ea_ | (injection ea_ with ea_; subst ea_)); subst ec_; clear en_))
          have GB24 := Aside0.mk gb24
          have GG24 := Aside0.mk HG24
          clear gb24 gl24 HG24
          obtain ⟨ce24, hcl24, hM24, hcc24, hfr24⟩ := Kd.R_elem HO_191001.out z42 ((ji21) : Int) p24 q24
          obtain rfl := k42_openM hM24
          have hx24_0 : World.cell? _ ⟨go24, ((ji21) : Int).toNat * 5, none⟩ = some (.int .i64 ((q27 x191001_1 (ji21)).f0)) := hcc24 0 _ rfl
          have hx24_1 : World.cell? _ ⟨go24, ((ji21) : Int).toNat * 5 + 1, none⟩ = some (.int .u8 ((q27 x191001_1 (ji21)).f1)) := hcc24 1 _ rfl
          have hx24_2 : World.cell? _ ⟨go24, ((ji21) : Int).toNat * 5 + 2, none⟩ = some (.int .i64 ((q27 x191001_1 (ji21)).f2.f0)) := hcc24 2 _ rfl
          have hx24_3 : World.cell? _ ⟨go24, ((ji21) : Int).toNat * 5 + 3, none⟩ = some (.int .i64 ((q27 x191001_1 (ji21)).f2.f1)) := hcc24 3 _ rfl
          have hx24_4 : World.cell? _ ⟨go24, ((ji21) : Int).toNat * 5 + 4, none⟩ = some (.int .i64 ((q27 x191001_1 (ji21)).f2.f2)) := hcc24 4 _ rfl
          have hf24_0 : World.frozen? _ ⟨go24, ((ji21) : Int).toNat * 5, none⟩ = false := hfr24 0
          have hf24_1 : World.frozen? _ ⟨go24, ((ji21) : Int).toNat * 5 + 1, none⟩ = false := hfr24 1
          have hf24_2 : World.frozen? _ ⟨go24, ((ji21) : Int).toNat * 5 + 2, none⟩ = false := hfr24 2
          have hf24_3 : World.frozen? _ ⟨go24, ((ji21) : Int).toNat * 5 + 3, none⟩ = false := hfr24 3
          have hf24_4 : World.frozen? _ ⟨go24, ((ji21) : Int).toNat * 5 + 4, none⟩ = false := hfr24 4
          clear hcl24 hcc24 hfr24 hM24
          replace p24 := eq_true p24
          replace q24 := eq_true q24
          obtain ⟨ce26, hcl26, hM26, hcc26, hfr26⟩ := Kd.R_elem HO_191001.out z42 ((ji21) : Int) (of_decide_eq_true (by first | (with_reducible assumption) | assumption)) (by have h_ : ((ji21) : Int) < ((x191001_1.length : Int) : Int) := of_decide_eq_true (by first | (with_reducible assumption) | assumption); first | exact h_ | (have e_ := (Kd.R_reads' HO_191001.out).1; omega) | simpa using h_)
          obtain rfl := k42_openM hM26
          have HP26 := (Kd.R_seg HO_191001.out ((ji21) : Int) (of_decide_eq_true (by first | (with_reducible assumption) | assumption)) (by have h_ : ((ji21) : Int) < ((x191001_1.length : Int) : Int) := of_decide_eq_true (by first | (with_reducible assumption) | assumption); first | exact h_ | (have e_ := (Kd.R_reads' HO_191001.out).1; omega) | simpa using h_) (seg := [.int .i64 ((q27 l2 x8_1).f0), .int .u8 ((q27 l2 x8_1).f1), .int .i64 ((q27 l2 x8_1).f2.f0), .int .i64 ((q27 l2 x8_1).f2.f1), .int .i64 ((q27 l2 x8_1).f2.f2)]) (j := 0) hcl26 hcc26 (show 5 ≤ 5 from by decide) (x' := (⟨(q27 l2 x8_1).f0, (q27 l2 x8_1).f1, (⟨(q27 l2 x8_1).f2.f0, (q27 l2 x8_1).f2.f1, (q27 l2 x8_1).f2.f2⟩ : S23)⟩ : S42)) (k42_mkM _ _ _ (⟨(q27 l2 x8_1).f0, (q27 l2 x8_1).f1, (⟨(q27 l2 x8_1).f2.f0, (q27 l2 x8_1).f2.f1, (q27 l2 x8_1).f2.f2⟩ : S23)⟩ : S42) ) (fun _ hk => hk)).1
          rw [← Ny198.out] at HP26
          have HQ26 := Aside0.mk HP26
          clear hcl26 hcc26 hfr26 hM26 HP26
          refine start_ (n := 12) (S := fun w' => w'.cell? ⟨gb190, 0, none⟩ = some (.int .i64 ((q23 l0 (ji4)).f0)) ∧ w'.cell? ⟨gb190, 1, none⟩ = some (.slice (some ⟨go24, 0, none⟩) x191001_1.length co24) ∧ w'.cell? ⟨gb190, 2, none⟩ = some (.bool ((q23 l0 (ji4)).f2)) ∧ w'.cell? ⟨gb188, 0, none⟩ = some (.int .i64 a1_0) ∧ w'.cell? ⟨gb188, 1, none⟩ = some (.int .i64 a1_1) ∧ w'.cell? ⟨gb188, 2, none⟩ = some (.int .i64 a1_2) ∧ w'.cell? (ad197.add ((x8_1).toNat * 5)) = some (.int .i64 ((q27 l2 x8_1).f0)) ∧ w'.cell? ⟨(ad197.add ((x8_1).toNat * 5)).block, (ad197.add ((x8_1).toNat * 5)).off + 1, none⟩ = some (.int .u8 ((q27 l2 x8_1).f1)) ∧ w'.cell? ⟨(ad197.add ((x8_1).toNat * 5)).block, (ad197.add ((x8_1).toNat * 5)).off + 2, none⟩ = some (.int .i64 ((q27 l2 x8_1).f2.f0)) ∧ w'.cell? ⟨(ad197.add ((x8_1).toNat * 5)).block, (ad197.add ((x8_1).toNat * 5)).off + 3, none⟩ = some (.int .i64 ((q27 l2 x8_1).f2.f1)) ∧ w'.cell? ⟨(ad197.add ((x8_1).toNat * 5)).block, (ad197.add ((x8_1).toNat * 5)).off + 4, none⟩ = some (.int .i64 ((q27 l2 x8_1).f2.f2))) (ds := [11]) #[false, false, false, false, false, false, false, false, false, false, false, false] (by kernel_rfl) rfl rfl ⟨(q16 BK190.out 0).trans rfl, (q16 BK190.out 1).trans rfl, (q16 BK190.out 2).trans rfl, (q16 BK188.out 0).trans rfl, (q16 BK188.out 1).trans rfl, (q16 BK188.out 2).trans rfl, ((HB.out.cell (World.block_lt_of_cell? w _ hw197_0)).trans hw197_0), ((HB.out.cell (World.block_lt_of_cell? w _ hw197_1)).trans hw197_1), ((HB.out.cell (World.block_lt_of_cell? w _ hw197_2)).trans hw197_2), ((HB.out.cell (World.block_lt_of_cell? w _ hw197_3)).trans hw197_3), ((HB.out.cell (World.block_lt_of_cell? w _ hw197_4)).trans hw197_4)⟩ (fun hHeld => ?_); refine with_tabW crosstreeref10_Lay.tab6 crosstreeref10_Lay.bits6 (fun HT_ HW_ => ?_)
          generalize wr.drew = w25 at HO_0 HO_191001 BK188 BK190 HB GG24 HQ26 hf24_0 hf24_1 hf24_2 hf24_3 hf24_4 hx197_0 hx197_1 hx197_2 hx197_3 hx197_4 hx24_0 hx24_1 hx24_2 hx24_3 hx24_4 hHeld ⊢
          refine pure_ (i := 0) (N := some 26) (v := ?_) (a' := ?_) #[true, false, false, false, false, false, false, false, false, false, false, false] rfl rfl (any_of HT_.out (by kernel_rfl)) (fun _ _ _ h => h) (Or.inl ⟨by rfl, ?_⟩) ?_ ?_
          rotate_left
          ·intro w'
           go_simp
           with_reducible rfl
          rotate_left
          ·simp only [Act.put, List.setIfInBounds_toArray, List.set_cons_zero, List.set_cons_succ, i64_w, i32_w]
           rfl
          refine pure_ (i := 2) (N := some 28) (v := ?_) (a' := ?_) #[true, false, true, false, false, false, false, false, false, false, false, false] rfl rfl (any_of HT_.out (by kernel_rfl)) (fun _ _ _ h => h) (Or.inl ⟨by rfl, ?_⟩) ?_ ?_
          rotate_left
          ·intro w'
           go_simp
           with_reducible rfl
          rotate_left
          ·simp only [Act.put, List.setIfInBounds_toArray, List.set_cons_zero, List.set_cons_succ, i64_w, i32_w]
           rfl
          refine pure_ (i := 4) (N := some 30) (v := ?_) (a' := ?_) #[true, false, true, false, true, false, false, false, false, false, false, false] rfl rfl (any_of HT_.out (by kernel_rfl)) (fun _ _ _ h => h) (Or.inl ⟨by rfl, ?_⟩) ?_ ?_
          rotate_left
          ·intro w'
           go_simp
           with_reducible rfl
          rotate_left
          ·simp only [Act.put, List.setIfInBounds_toArray, List.set_cons_zero, List.set_cons_succ, i64_w, i32_w]
           rfl
          refine pure_ (i := 6) (N := some 32) (v := ?_) (a' := ?_) #[true, false, true, false, true, false, true, false, false, false, false, false] rfl rfl (any_of HT_.out (by kernel_rfl)) (fun _ _ _ h => h) (Or.inl ⟨by rfl, ?_⟩) ?_ ?_
          rotate_left
          ·intro w'
           go_simp
           with_reducible rfl
          rotate_left
          ·simp only [Act.put, List.setIfInBounds_toArray, List.set_cons_zero, List.set_cons_succ, i64_w, i32_w]
           rfl
          refine pure_ (i := 7) (N := some 33) (v := ?_) (a' := ?_) #[true, false, true, false, true, false, true, true, false, false, false, false] rfl rfl (any_of HT_.out (by kernel_rfl)) (fun _ _ _ h => h) (Or.inl ⟨by rfl, ?_⟩) ?_ ?_
          rotate_left
          ·intro w'
           go_simp
           with_reducible rfl
          rotate_left
          ·simp only [Act.put, List.setIfInBounds_toArray, List.set_cons_zero, List.set_cons_succ, i64_w, i32_w]
           rfl
          refine pure_ (i := 8) (N := some 34) (v := ?_) (a' := ?_) #[true, false, true, false, true, false, true, true, true, false, false, false] rfl rfl (any_of HT_.out (by kernel_rfl)) (fun _ _ _ h => h) (Or.inl ⟨by rfl, ?_⟩) ?_ ?_
          rotate_left
          ·intro w'
           go_simp
           with_reducible rfl
          rotate_left
          ·simp only [Act.put, List.setIfInBounds_toArray, List.set_cons_zero, List.set_cons_succ, i64_w, i32_w]
           rfl
          refine take_ (i := 1) (N := some 27) (v := ?_) (a' := ?_) #[true, true, true, false, true, false, true, true, true, false, false, false] rfl rfl (take_ofW HT_.out HW_.out (by kernel_rfl)) (fun _ _ _ h => h) (Or.inl ⟨by rfl, ?_⟩) hHeld ?_ ?_
          rotate_left
          ·rintro w' ⟨s0, s1, s2, s3, s4, s5, s6, s7, s8, s9, s10⟩
           go_simp
           with_reducible rfl
          rotate_left
          ·simp only [Act.put, List.setIfInBounds_toArray, List.set_cons_zero, List.set_cons_succ, i64_w, i32_w]
           rfl
          refine take_ (i := 3) (N := some 29) (v := ?_) (a' := ?_) #[true, true, true, true, true, false, true, true, true, false, false, false] rfl rfl (take_ofW HT_.out HW_.out (by kernel_rfl)) (fun _ _ _ h => h) (Or.inl ⟨by rfl, ?_⟩) hHeld ?_ ?_
          rotate_left
          ·rintro w' ⟨s0, s1, s2, s3, s4, s5, s6, s7, s8, s9, s10⟩
           go_simp
           with_reducible rfl
          rotate_left
          ·simp only [Act.put, List.setIfInBounds_toArray, List.set_cons_zero, List.set_cons_succ, i64_w, i32_w]
           rfl
          refine pure_ (i := 5) (N := some 31) (v := ?_) (a' := ?_) #[true, true, true, true, true, true, true, true, true, false, false, false] rfl rfl (any_of HT_.out (by kernel_rfl)) (fun _ _ _ h => h) (Or.inl ⟨by rfl, ?_⟩) ?_ ?_
          rotate_left
          ·intro w'
           go_simp
           with_reducible rfl
          rotate_left
          ·simp only [Act.put, List.setIfInBounds_toArray, List.set_cons_zero, List.set_cons_succ, i64_w, i32_w]
           rfl
          refine take_ (i := 9) (N := some 35) (v := ?_) (a' := ?_) #[true, true, true, true, true, true, true, true, true, true, false, false] rfl rfl (take_ofW HT_.out HW_.out (by kernel_rfl)) (fun _ _ _ h => h) (Or.inl ⟨by rfl, ?_⟩) hHeld ?_ ?_
          rotate_left
          ·rintro w' ⟨s0, s1, s2, s3, s4, s5, s6, s7, s8, s9, s10⟩
           go_simp
           with_reducible rfl
          rotate_left
          ·simp only [Act.put, List.setIfInBounds_toArray, List.set_cons_zero, List.set_cons_succ, i64_w, i32_w]
           rfl
          refine pure_ (i := 10) (N := some 36) (v := ?_) (a' := ?_) #[true, true, true, true, true, true, true, true, true, true, true, false] rfl rfl (any_of HT_.out (by kernel_rfl)) (fun _ _ _ h => h) (Or.inl ⟨by rfl, ?_⟩) ?_ ?_
          rotate_left
          ·intro w'
           go_simp
           with_reducible rfl
          rotate_left
          ·simp only [Act.put, List.setIfInBounds_toArray, List.set_cons_zero, List.set_cons_succ, i64_w, i32_w]
           rfl
          refine last_ (i := 11) (N := none) #[true, true, true, true, true, true, true, true, true, true, true, true] rfl rfl (one_of HT_.out (by kernel_rfl)) (by decide) (fun K hK => ?_)
          refine skip_ (w1 := ?_) (by rfl) rfl ?_ ?_
          rotate_left
          ·go_simp
           rfl
          refine hK.out _ _ ?_
          clear hK K
          refine done_ (done_of HT_.out (by kernel_rfl)) ?_
          try go_wp2
          go_roundg k1
          case measure => have := HK1.out; omega
          case rel => exact ⟨(wrap64 (x8_1 + 1)), (y198), (.slice (some ⟨go24, 0, none⟩) x191001_1.length co24), (by first | rfl | (simp; done) | (simp [*]; done)), H', ⟨by have := HK1.out; omega⟩, ⟨by (with_reducible repeat (first | apply Kd.V_alloc | apply Kd.V_drewN | apply Kd.V_drew)); exact Kd.V_mono (Kd.V_far (p := ⟨go24, ((ji21) : Int).toNat * 5 + 4, none⟩) (Kd.V_far (p := ⟨go24, ((ji21) : Int).toNat * 5 + 3, none⟩) (Kd.V_far (p := ⟨go24, ((ji21) : Int).toNat * 5 + 2, none⟩) (Kd.V_far (p := ⟨go24, ((ji21) : Int).toNat * 5 + 1, none⟩) (Kd.V_far (p := ⟨go24, ((ji21) : Int).toNat * 5, none⟩) (Kd.V_mono HO_0.out (fun k_ hk => (⟨hk, fun e_ => hk.2.1 (by rw [e_]; rfl)⟩ : _ ∧ k_ ≠ go24))) (fun _ hk => hk.2) (.int .i64 ((q27 l2 x8_1).f0))) (fun _ hk => hk.2) (.int .u8 ((q27 l2 x8_1).f1))) (fun _ hk => hk.2) (.int .i64 ((q27 l2 x8_1).f2.f0))) (fun _ hk => hk.2) (.int .i64 ((q27 l2 x8_1).f2.f1))) (fun _ hk => hk.2) (.int .i64 ((q27 l2 x8_1).f2.f2))) (fun _ hk => ⟨hk.1.1, ⟨hk.1.2.1, ⟨hk.1.2.2.1, hk.1.2.2.2⟩⟩⟩)⟩, ⟨by (with_reducible repeat (first | apply Kd.R_alloc | apply Kd.R_drewN | apply Kd.R_drew)); exact HQ26.out⟩, ⟨by (with_reducible repeat (first | refine q13 ?_ _ | refine q15 ?_ | refine q12 ?_ _)); refine q40 ?_ (by have h_ := Kd.R_ne HO_191001.out BK188.out (by decide); intro e_; exact h_ (by rw [e_]; rfl)) _; (with_reducible repeat (first | refine q13 ?_ _ | refine q15 ?_ | refine q12 ?_ _)); refine q40 ?_ (by have h_ := Kd.R_ne HO_191001.out BK188.out (by decide); intro e_; exact h_ (by rw [e_]; rfl)) _; (with_reducible repeat (first | refine q13 ?_ _ | refine q15 ?_ | refine q12 ?_ _)); refine q40 ?_ (by have h_ := Kd.R_ne HO_191001.out BK188.out (by decide); intro e_; exact h_ (by rw [e_]; rfl)) _; (with_reducible repeat (first | refine q13 ?_ _ | refine q15 ?_ | refine q12 ?_ _)); refine q40 ?_ (by have h_ := Kd.R_ne HO_191001.out BK188.out (by decide); intro e_; exact h_ (by rw [e_]; rfl)) _; (with_reducible repeat (first | refine q13 ?_ _ | refine q15 ?_ | refine q12 ?_ _)); refine q40 ?_ (by have h_ := Kd.R_ne HO_191001.out BK188.out (by decide); intro e_; exact h_ (by rw [e_]; rfl)) _; (with_reducible repeat (first | refine q13 ?_ _ | refine q15 ?_ | refine q12 ?_ _)); exact BK188.out⟩, ⟨by (with_reducible repeat (first | refine q13 ?_ _ | refine q15 ?_ | refine q12 ?_ _)); refine q40 ?_ (by have h_ := Kd.R_ne HO_191001.out BK190.out (by decide); intro e_; exact h_ (by rw [e_]; rfl)) _; (with_reducible repeat (first | refine q13 ?_ _ | refine q15 ?_ | refine q12 ?_ _)); refine q40 ?_ (by have h_ := Kd.R_ne HO_191001.out BK190.out (by decide); intro e_; exact h_ (by rw [e_]; rfl)) _; (with_reducible repeat (first | refine q13 ?_ _ | refine q15 ?_ | refine q12 ?_ _)); refine q40 ?_ (by have h_ := Kd.R_ne HO_191001.out BK190.out (by decide); intro e_; exact h_ (by rw [e_]; rfl)) _; (with_reducible repeat (first | refine q13 ?_ _ | refine q15 ?_ | refine q12 ?_ _)); refine q40 ?_ (by have h_ := Kd.R_ne HO_191001.out BK190.out (by decide); intro e_; exact h_ (by rw [e_]; rfl)) _; (with_reducible repeat (first | refine q13 ?_ _ | refine q15 ?_ | refine q12 ?_ _)); refine q40 ?_ (by have h_ := Kd.R_ne HO_191001.out BK190.out (by decide); intro e_; exact h_ (by rw [e_]; rfl)) _; (with_reducible repeat (first | refine q13 ?_ _ | refine q15 ?_ | refine q12 ?_ _)); exact BK190.out⟩, ⟨by repeat (first | (with_reducible first | exact HB.out | apply q10 | apply q9 | apply q11 | refine q14 ?_ GB24.out | refine q14 ?_ GB24.out | refine q14 ?_ GB24.out | refine q14 ?_ GB24.out | refine q14 ?_ GB24.out | refine q14 ?_ GE188.out | refine q14 ?_ GE190.out) | exact HB.out)⟩⟩
         ·rw [if_neg c23] at H
          exact absurd H (by simp)
        ·rw [if_neg c22] at H
         exact absurd H (by simp)
       ·rw [if_neg c20] at H
        exact absurd H (by simp)
      ·rw [if_neg c19] at H
       have c19b0 : decide (x8_1 < (l2.length : Int)) = false := decide_eq_false c19
       clear c19
       replace H := Option.bind_eq_some_iff.mp H
       obtain ⟨t199, A270, H⟩ := H
       replace H : (some t199) = some r := H
       have A27 := Aside0.mk A270
       clear A270
       obtain rfl := Option.some.inj H
       have hnb28 := NB188_190.out
       have hnc28 := NB190_188.out
       have hcz29_0 : wr.cell? ⟨gb188, 0, none⟩ = some (.int .i64 a1_0) := (q16 BK188.out 0).trans rfl
       have hcz29_1 : wr.cell? ⟨gb188, 1, none⟩ = some (.int .i64 a1_1) := (q16 BK188.out 1).trans rfl
       have hcz29_2 : wr.cell? ⟨gb188, 2, none⟩ = some (.int .i64 a1_2) := (q16 BK188.out 2).trans rfl
       have hfz29_0 := q0 BK188.out 0
       have hfz29_1 := q0 BK188.out 1
       have hfz29_2 := q0 BK188.out 2
       have hcz30_0 : wr.cell? ⟨gb190, 0, none⟩ = some (.int .i64 ((q23 l0 (ji4)).f0)) := (q16 BK190.out 0).trans rfl
       have hcz30_1 : wr.cell? ⟨gb190, 1, none⟩ = some (u191001) := (q16 BK190.out 1).trans rfl
       have hcz30_2 : wr.cell? ⟨gb190, 2, none⟩ = some (.bool ((q23 l0 (ji4)).f2)) := (q16 BK190.out 2).trans rfl
       have hfz30_0 := q0 BK190.out 0
       have hfz30_1 := q0 BK190.out 1
       have hfz30_2 := q0 BK190.out 2
       obtain ⟨Ao31, co31, eo31⟩ := Kd.R_slice HO_191001.out
       subst eo31
       go_wp2_with (first | ((with_reducible refine q37 (f := 38) rfl ?_); refine goesL_ (some 41) rfl rfl Try.func38 (by kernel_rfl) rfl #[.slice (some ad189) l0.length c0, .int .i64 a1_1, .agg #[.int .i64 ((q23 l0 (ji4)).f0), .slice Ao31 x191001_1.length co31, .bool ((q23 l0 (ji4)).f2)]] rfl (by (try simp only [List.map_toArray, List.map_cons, List.map_nil]); first | done | (simp only [hji4]; rfl) | rfl | (simp only [List.length_drop, List.length_take]; rfl)) ?_; (with_reducible refine (crosstreeref10_with.calls (fun k_ => ((P0_ k_ ∨ w.heap.size ≤ k_) ∧ (some k_ ≠ (.slice Ao31 x191001_1.length co31 : Value).ownBlock ∧ (k_ ≠ gb188 ∧ k_ ≠ gb190)))) _ _ l0 a1_1 ((q23 l0 (ji4)).f0) (fun k_ => some k_ = (.slice Ao31 x191001_1.length co31 : Value).ownBlock) _ _ x191001_1 ((q23 l0 (ji4)).f2) t199 _ ?side1 ?side2 A27.out).mono ?_); (case side1 => exact HO_0.out); (case side2 => exact Kd.R_V (Kd.R_tight rfl (Kd.R_types (Kd.R_types (HO_191001.out) BK188.out (by decide)) BK190.out (by decide)))); rintro e w32 ⟨v200, rfl, ho0, hb⟩; refine ⟨_, rfl, ?_⟩; have n0_ := Aside0.mk (Kd.V_elder' (by (with_reducible repeat (first | apply Kd.V_alloc | apply Kd.V_drewN | apply Kd.V_drew)); exact HO_0.out) (Kd.N_base ho0) hb); have n1_ := Aside0.mk (Kd.R_below (by (with_reducible repeat (first | apply Kd.R_alloc | apply Kd.R_drewN | apply Kd.R_drew)); exact HO_191001.out) hb); have n2_ := Aside0.mk (Kd.N_lower (Kd.N_mono (ok' := fun k_ => (P0_ k_ ∨ w.heap.size ≤ k_) ∧ k_ ≠ gb188 ∧ k_ ≠ gb190) ho0 (fun k_ hk_ => ⟨Or.elim hk_ (fun hs_ => Or.elim hs_ (fun hs_ => hs_.1) (fun hs_ => (.inr (((Kd.R_types (Kd.R_types (HO_191001.out) BK188.out (by decide)) BK190.out (by decide)).1 k_ hs_.symm).1.1)))) (fun hn_ => (.inr (Nat.le_trans (q21 (by repeat (first | (with_reducible first | exact HB.out | apply q10 | apply q9 | apply q11 | refine q14 ?_ GE188.out | refine q14 ?_ GE190.out) | exact HB.out))) hn_))), Or.elim hk_ (fun hs_ => Or.elim hs_ (fun hs_ => hs_.2.2.1) (fun hs_ => ((Kd.R_types (Kd.R_types (HO_191001.out) BK188.out (by decide)) BK190.out (by decide)).1 k_ hs_.symm).1.2)) (fun hn_ => (Kd.freshB (g := gb188) (o := .cells #[.int .i64 a1_0, .int .i64 a1_1, .int .i64 a1_2] 23 (0, 0)) (by (with_reducible repeat (first | refine q13 ?_ _ | refine q15 ?_ | refine q12 ?_ _)); exact BK188.out) k_ hn_)), Or.elim hk_ (fun hs_ => Or.elim hs_ (fun hs_ => hs_.2.2.2) (fun hs_ => ((Kd.R_types (Kd.R_types (HO_191001.out) BK188.out (by decide)) BK190.out (by decide)).1 k_ hs_.symm).2)) (fun hn_ => (Kd.freshB (g := gb190) (o := .cells #[.int .i64 ((q23 l0 (ji4)).f0), .slice Ao31 x191001_1.length co31, .bool ((q23 l0 (ji4)).f2)] 69 (0, 0)) (by (with_reducible repeat (first | refine q13 ?_ _ | refine q15 ?_ | refine q12 ?_ _)); exact BK190.out) k_ hn_))⟩)) (q21 (by repeat (first | (with_reducible first | exact HB.out | apply q10 | apply q9 | apply q11 | refine q14 ?_ GE188.out | refine q14 ?_ GE190.out) | exact HB.out)))); have n3_ := Aside0.mk (q19 (g := gb188) (o := .cells #[.int .i64 a1_0, .int .i64 a1_1, .int .i64 a1_2] 23 (0, 0)) (by (with_reducible repeat (first | refine q13 ?_ _ | refine q15 ?_ | refine q12 ?_ _)); exact BK188.out) hb); have n4_ := Aside0.mk (q19 (g := gb190) (o := .cells #[.int .i64 ((q23 l0 (ji4)).f0), .slice Ao31 x191001_1.length co31, .bool ((q23 l0 (ji4)).f2)] 69 (0, 0)) (by (with_reducible repeat (first | refine q13 ?_ _ | refine q15 ?_ | refine q12 ?_ _)); exact BK190.out) hb); have n5_ := Aside0.mk (q20 (by repeat (first | (with_reducible first | exact HB.out | apply q10 | apply q9 | apply q11 | refine q14 ?_ GE188.out | refine q14 ?_ GE190.out) | exact HB.out)) hb); clear HO_0; clear HO_191001; clear BK188; clear BK190; clear HB; have HO_0 := n0_; have HO_191001 := n1_; have HO201 := n2_; have BK188 := n3_; have BK190 := n4_; have HB := n5_; clear n0_ n1_ n2_ n3_ n4_ n5_; (try clear hb); (try clear hb2); (try clear hk); (try clear hi); (try clear ho0)))
       go_ret
       exact ⟨_, by first | rfl | (simp [q26, q25] <;> rfl) | (simp only [← hji4]; first | rfl | (simp [q26, q25] <;> rfl)) | (simp [*, q26, q25] <;> rfl), by (with_reducible repeat (first | apply Kd.N_alloc | apply Kd.N_drewN | apply Kd.N_drew)); exact Kd.N_mono HO201.out (fun _ hk => hk.1), by repeat (first | (with_reducible first | exact HB.out | apply q10 | apply q9 | apply q11 | refine q14 ?_ GE188.out | refine q14 ?_ GE190.out) | exact HB.out)⟩
   ·rw [if_neg c7] at H
    exact absurd H (by simp)
  ·rw [if_neg c6] at H
   exact absurd H (by simp)
 ·rw [if_neg c5] at H
  exact absurd H (by simp)
end Go.Proofs.Yteogfjhmjlelnaa.H
