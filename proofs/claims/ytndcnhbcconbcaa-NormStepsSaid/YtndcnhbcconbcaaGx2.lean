-- A print of Ytndcnhbcconbcaa: functions, their calls (by the kit's print.py, from a copy in scratch).
import Derived.Test.YtndcnhbcconbcaaGx0
import Derived.Test.YtndcnhbcconbcaaGx1
namespace Go.Proofs.Ytndcnhbcconbcaa.G
open Go.RowKit Go.Proofs.YtndcnhbcconbcaaW.PrintWords Go.Proofs.YtndcnhbcconbcaaW.PrintLast Go.Proofs.YtndcnhbcconbcaaW.PrintMore
attribute [local go_sem] max2_int min2_int max_two min_two max_three min_three max_four min_four   -- for this text's walks alone
set_option linter.unusedVariables false
set_option linter.unusedSimpArgs false

/-! ### crosstreeref05_Size: function 23 -/
mutual
def crosstreeref05_Size.j0 : Nat → List (S51) → Int → Bool → Int → Int → ByteArray → List (S24) → Option (Int × Int × Int)
  | 0, _, _, _, _, _, _, _ => none
  | k + 1, x0, x13, x14, x108000, x108001, x108002, x108003 => if x14 = true then ((crosstreeref04_Width.f x108000 x108001 x108002 x108003).bind fun t108 => (some (t108, t108, 0))) else (if x13 = 7 then (crosstreeref05_Size.j1 k x0 x13 (x13 == 7) x108000 x108001 x108002 x108003) else (crosstreeref05_Size.j1 k x0 x13 (x13 == 8) x108000 x108001 x108002 x108003))
def crosstreeref05_Size.j1 : Nat → List (S51) → Int → Bool → Int → Int → ByteArray → List (S24) → Option (Int × Int × Int)
  | 0, _, _, _, _, _, _, _ => none
  | k + 1, x0, x13, x23, x108000, x108001, x108002, x108003 => if x23 = true then ((crosstreeref05_Which.f k x0 x108000 x108001 x108002 x108003).bind fun t109 => (if t109 < 0 then (some (0, 0, 7)) else (if 0 ≤ t109 then (if t109 < (x0.length : Int) then (some ((rd_T51 x0 t109).f1, (rd_T51 x0 t109).f2, 0)) else (none)) else (none)))) else (if x13 = 6 then (if (x108003.length : Int) = 1 then (crosstreeref05_Size.j2 k x0 (decide (x108001 < 1)) x108000 x108001 x108002 x108003) else (crosstreeref05_Size.j2 k x0 true x108000 x108001 x108002 x108003)) else (some (0, 0, 3)))
def crosstreeref05_Size.j2 : Nat → List (S51) → Bool → Int → Int → ByteArray → List (S24) → Option (Int × Int × Int)
  | 0, _, _, _, _, _, _ => none
  | k + 1, x0, x51, x108000, x108001, x108002, x108003 => if x51 = true then (some (0, 0, 3)) else (if 0 < (x108003.length : Int) then ((crosstreeref05_Size.f k x0 ((rd_T24 x108003 0).f0) ((rd_T24 x108003 0).f1) ((rd_T24 x108003 0).f2) ((rd_T24 x108003 0).f3)).bind fun bt113 => (if bt113.2.2 = 0 then (if bt113.1 > 0 then (if x108001 > 4096 then (some (0, 0, 5)) else (if (wrap64 (bt113.1 * x108001)) > 4096 then (some (0, 0, 5)) else (some (wrap64 (bt113.1 * x108001), bt113.2.1, 0)))) else (if (wrap64 (bt113.1 * x108001)) > 4096 then (some (0, 0, 5)) else (some (wrap64 (bt113.1 * x108001), bt113.2.1, 0)))) else (some (0, 0, bt113.2.2)))) else (none))
def crosstreeref05_Size.f : Nat → List (S51) → Int → Int → ByteArray → List (S24) → Option (Int × Int × Int)
  | 0, _, _, _, _, _ => none
  | k + 1, l0, a1_0, a1_1, a1_2, l1_3 => if a1_0 = 2 then (crosstreeref05_Size.j0 k l0 a1_0 (a1_0 == 2) a1_0 a1_1 a1_2 l1_3) else (if a1_0 = 3 then (crosstreeref05_Size.j0 k l0 a1_0 (a1_0 == 3) a1_0 a1_1 a1_2 l1_3) else (if a1_0 = 4 then (crosstreeref05_Size.j0 k l0 a1_0 (a1_0 == 4) a1_0 a1_1 a1_2 l1_3) else (crosstreeref05_Size.j0 k l0 a1_0 (a1_0 == 5) a1_0 a1_1 a1_2 l1_3)))
end
theorem crosstreeref05_Size.mono_l : ∀ k, (∀ y0 y1 y2 y3 y4, LeO (crosstreeref05_Size.f k y0 y1 y2 y3 y4) (crosstreeref05_Size.f (k + 1) y0 y1 y2 y3 y4)) ∧ (∀ y0 y1 y2 y3 y4 y5 y6, LeO (crosstreeref05_Size.j0 k y0 y1 y2 y3 y4 y5 y6) (crosstreeref05_Size.j0 (k + 1) y0 y1 y2 y3 y4 y5 y6)) ∧ (∀ y0 y1 y2 y3 y4 y5 y6, LeO (crosstreeref05_Size.j1 k y0 y1 y2 y3 y4 y5 y6) (crosstreeref05_Size.j1 (k + 1) y0 y1 y2 y3 y4 y5 y6)) ∧ (∀ y0 y1 y2 y3 y4 y5, LeO (crosstreeref05_Size.j2 k y0 y1 y2 y3 y4 y5) (crosstreeref05_Size.j2 (k + 1) y0 y1 y2 y3 y4 y5))
  | 0 => ⟨fun _ _ _ _ _ r h => by simp [crosstreeref05_Size.f] at h, fun _ _ _ _ _ _ _ r h => by simp [crosstreeref05_Size.j0] at h, fun _ _ _ _ _ _ _ r h => by simp [crosstreeref05_Size.j1] at h, fun _ _ _ _ _ _ r h => by simp [crosstreeref05_Size.j2] at h⟩
  | k + 1 => by
    obtain ⟨ih0, ih1, ih2, ih3⟩ := crosstreeref05_Size.mono_l k
    refine ⟨?_, ?_, ?_, ?_⟩
    · intro y0 y1 y2 y3 y4
      unfold crosstreeref05_Size.f
      repeat' first
      | (with_reducible exact ih0 _ _ _ _ _)
      | (with_reducible exact ih1 _ _ _ _ _ _ _)
      | (with_reducible exact ih2 _ _ _ _ _ _ _)
      | (with_reducible exact ih3 _ _ _ _ _ _)
      | (with_reducible exact crosstreeref05_Which.mono _ _ _ _ _ _)
      | (with_reducible exact LeO.refl _)
      | (with_reducible exact LeO.none _)
      | (with_reducible refine LeO.ite ?_ ?_)
      | (with_reducible refine LeO.bind ?_ (fun _ => ?_))
      | exact ih0 _ _ _ _ _
      | exact ih1 _ _ _ _ _ _ _
      | exact ih2 _ _ _ _ _ _ _
      | exact ih3 _ _ _ _ _ _
      | exact crosstreeref05_Which.mono _ _ _ _ _ _
      | exact LeO.none _
      | refine LeO.ite ?_ ?_
      | refine LeO.bind ?_ (fun _ => ?_)
    · intro y0 y1 y2 y3 y4 y5 y6
      unfold crosstreeref05_Size.j0
      repeat' first
      | (with_reducible exact ih0 _ _ _ _ _)
      | (with_reducible exact ih1 _ _ _ _ _ _ _)
      | (with_reducible exact ih2 _ _ _ _ _ _ _)
      | (with_reducible exact ih3 _ _ _ _ _ _)
      | (with_reducible exact crosstreeref05_Which.mono _ _ _ _ _ _)
      | (with_reducible exact LeO.refl _)
      | (with_reducible exact LeO.none _)
      | (with_reducible refine LeO.ite ?_ ?_)
      | (with_reducible refine LeO.bind ?_ (fun _ => ?_))
      | exact ih0 _ _ _ _ _
      | exact ih1 _ _ _ _ _ _ _
      | exact ih2 _ _ _ _ _ _ _
      | exact ih3 _ _ _ _ _ _
      | exact crosstreeref05_Which.mono _ _ _ _ _ _
      | exact LeO.none _
      | refine LeO.ite ?_ ?_
      | refine LeO.bind ?_ (fun _ => ?_)
    · intro y0 y1 y2 y3 y4 y5 y6
      unfold crosstreeref05_Size.j1
      repeat' first
      | (with_reducible exact ih0 _ _ _ _ _)
      | (with_reducible exact ih1 _ _ _ _ _ _ _)
      | (with_reducible exact ih2 _ _ _ _ _ _ _)
      | (with_reducible exact ih3 _ _ _ _ _ _)
      | (with_reducible exact crosstreeref05_Which.mono _ _ _ _ _ _)
      | (with_reducible exact LeO.refl _)
      | (with_reducible exact LeO.none _)
      | (with_reducible refine LeO.ite ?_ ?_)
      | (with_reducible refine LeO.bind ?_ (fun _ => ?_))
      | exact ih0 _ _ _ _ _
      | exact ih1 _ _ _ _ _ _ _
      | exact ih2 _ _ _ _ _ _ _
      | exact ih3 _ _ _ _ _ _
      | exact crosstreeref05_Which.mono _ _ _ _ _ _
      | exact LeO.none _
      | refine LeO.ite ?_ ?_
      | refine LeO.bind ?_ (fun _ => ?_)
    · intro y0 y1 y2 y3 y4 y5
      unfold crosstreeref05_Size.j2
      repeat' first
      | (with_reducible exact ih0 _ _ _ _ _)
      | (with_reducible exact ih1 _ _ _ _ _ _ _)
      | (with_reducible exact ih2 _ _ _ _ _ _ _)
      | (with_reducible exact ih3 _ _ _ _ _ _)
      | (with_reducible exact crosstreeref05_Which.mono _ _ _ _ _ _)
      | (with_reducible exact LeO.refl _)
      | (with_reducible exact LeO.none _)
      | (with_reducible refine LeO.ite ?_ ?_)
      | (with_reducible refine LeO.bind ?_ (fun _ => ?_))
      | exact ih0 _ _ _ _ _
      | exact ih1 _ _ _ _ _ _ _
      | exact ih2 _ _ _ _ _ _ _
      | exact ih3 _ _ _ _ _ _
      | exact crosstreeref05_Which.mono _ _ _ _ _ _
      | exact LeO.none _
      | refine LeO.ite ?_ ?_
      | refine LeO.bind ?_ (fun _ => ?_)
theorem crosstreeref05_Size.mono : ∀ a0 a1 a2 a3 a4 k, LeO (crosstreeref05_Size.f k a0 a1 a2 a3 a4) (crosstreeref05_Size.f (k + 1) a0 a1 a2 a3 a4) := by
  intro a0 a1 a2 a3 a4 k
  obtain ⟨ih0, ih1, ih2, ih3⟩ := crosstreeref05_Size.mono_l k
  exact ih0 a0 a1 a2 a3 a4
set_option maxHeartbeats 8000000 in
set_option maxRecDepth 100000 in
theorem crosstreeref05_Size.calls (k : Nat) : ∀ (A0 : Option Addr) (c0 : Nat) (l0 : List (S51)) (a1_0 : Int) (a1_1 : Int) (a1_2 : ByteArray) (A1_3 : Option Addr) (c1_3 : Nat) (l1_3 : List (S24)) (r1 : Int) (r2 : Int) (r3 : Int) (w : World) (hr0 : Kd.C k51 w A0 l0.length l0) (hc0 : l0.length ≤ c0) (hr1_3 : Kd.C k24 w A1_3 l1_3.length l1_3) (hc1_3 : l1_3.length ≤ c1_3) (h : crosstreeref05_Size.f k l0 a1_0 a1_1 a1_2 l1_3 = some (r1, r2, r3)),
    Calls Try.prog 23 #[.slice A0 l0.length c0, .agg #[.int .i64 a1_0, .int .i64 a1_1, .string a1_2, .slice A1_3 l1_3.length c1_3]] w fun e w' => e = .returned (.tuple #[.int .i64 r1, .int .i64 r2, .int .i64 r3]) ∧ Below w.heap.size w w' := by
  induction k using Nat.strongRecOn with
  | _ k ih =>
  intro A0 c0 l0 a1_0 a1_1 a1_2 A1_3 c1_3 l1_3 r1 r2 r3 w hr0 hc0 hr1_3 hc1_3 h
  cases k with
  | zero => exact absurd h (by simp [crosstreeref05_Size.f])
  | succ k =>
  simp only [crosstreeref05_Size.f] at h
  have hu24 := Try.underlying24
  have HR0 := Aside0.mk hr0
  have HC0 := Aside0.mk hc0
  clear hr0 hc0
  have HR1_3 := Aside0.mk hr1_3
  have HC1_3 := Aside0.mk hc1_3
  clear hr1_3 hc1_3
  have HB := Aside0.mk (Below.refl w.heap.size w)
  have H : (if a1_0 = 2 then (crosstreeref05_Size.j0 k l0 a1_0 (a1_0 == 2) a1_0 a1_1 a1_2 l1_3) else (if a1_0 = 3 then (crosstreeref05_Size.j0 k l0 a1_0 (a1_0 == 3) a1_0 a1_1 a1_2 l1_3) else (if a1_0 = 4 then (crosstreeref05_Size.j0 k l0 a1_0 (a1_0 == 4) a1_0 a1_1 a1_2 l1_3) else (crosstreeref05_Size.j0 k l0 a1_0 (a1_0 == 5) a1_0 a1_1 a1_2 l1_3)))) = some (r1, r2, r3) := h
  clear h
  have HC3 := Aside0.mk H
  clear H
  go_enter Try.func23, Try.ntmps23
  go_upto_if 14 with (first | ((with_reducible refine gate_dst (N := 3) rfl ?_); refine box_event ?hg (N := 3) ?hd (cs := #[.int .i64 a1_0, .int .i64 a1_1, .string a1_2, .slice A1_3 l1_3.length c1_3]) (t := 24) ?hr ?_; (case hd => rfl); (case hg => rfl); (case hr => first | (go_simp; done) | (go_simp; rfl)); intro gb107 hg w4 hbox hb; have n0_ := Aside0.mk (below_step (by repeat (first | (with_reducible first | exact HB.out | apply below_alloc | apply pw_below_drewN | apply below_drew1) | exact HB.out)) hb); have n1_ := Aside0.mk (hbox); have n2_ := Aside0.mk ((by rw [hg]; exact (below_size (by repeat (first | (with_reducible first | exact HB.out | apply below_alloc | apply pw_below_drewN | apply below_drew1) | exact HB.out))) : w.heap.size ≤ gb107)); have n3_ := Aside0.mk ((by rw [hg]; exact (below_size (by repeat (first | (with_reducible first | exact HB.out | apply below_alloc | apply pw_below_drewN | apply below_drew1) | exact HB.out))) : w.heap.size ≤ gb107)); clear HB; have HB := n0_; have BK107 := n1_; have GW107 := n2_; have GE107 := n3_; clear n0_ n1_ n2_ n3_; clear hb hbox hg; have hcz5_0 : w4.cell? ⟨gb107, 0, none⟩ = some (.int .i64 a1_0) := (blk_cell BK107.out 0).trans rfl; have hcz5_1 : w4.cell? ⟨gb107, 1, none⟩ = some (.int .i64 a1_1) := (blk_cell BK107.out 1).trans rfl; have hcz5_2 : w4.cell? ⟨gb107, 2, none⟩ = some (.string a1_2) := (blk_cell BK107.out 2).trans rfl; have hcz5_3 : w4.cell? ⟨gb107, 3, none⟩ = some (.slice A1_3 l1_3.length c1_3) := (blk_cell BK107.out 3).trans rfl; have hfz5_0 := blk_frozen BK107.out 0; have hfz5_1 := blk_frozen BK107.out 1; have hfz5_2 := blk_frozen BK107.out 2; have hfz5_3 := blk_frozen BK107.out 3))
  repeat (go_quiet (first | ((with_reducible refine gate_dst (N := 3) rfl ?_); refine box_event ?hg (N := 3) ?hd (cs := #[.int .i64 a1_0, .int .i64 a1_1, .string a1_2, .slice A1_3 l1_3.length c1_3]) (t := 24) ?hr ?_; (case hd => rfl); (case hg => rfl); (case hr => first | (go_simp; done) | (go_simp; rfl)); intro gb107 hg w4 hbox hb; have n0_ := Aside0.mk (below_step (by repeat (first | (with_reducible first | exact HB.out | apply below_alloc | apply pw_below_drewN | apply below_drew1) | exact HB.out)) hb); have n1_ := Aside0.mk (hbox); have n2_ := Aside0.mk ((by rw [hg]; exact (below_size (by repeat (first | (with_reducible first | exact HB.out | apply below_alloc | apply pw_below_drewN | apply below_drew1) | exact HB.out))) : w.heap.size ≤ gb107)); have n3_ := Aside0.mk ((by rw [hg]; exact (below_size (by repeat (first | (with_reducible first | exact HB.out | apply below_alloc | apply pw_below_drewN | apply below_drew1) | exact HB.out))) : w.heap.size ≤ gb107)); clear HB; have HB := n0_; have BK107 := n1_; have GW107 := n2_; have GE107 := n3_; clear n0_ n1_ n2_ n3_; clear hb hbox hg; have hcz5_0 : w4.cell? ⟨gb107, 0, none⟩ = some (.int .i64 a1_0) := (blk_cell BK107.out 0).trans rfl; have hcz5_1 : w4.cell? ⟨gb107, 1, none⟩ = some (.int .i64 a1_1) := (blk_cell BK107.out 1).trans rfl; have hcz5_2 : w4.cell? ⟨gb107, 2, none⟩ = some (.string a1_2) := (blk_cell BK107.out 2).trans rfl; have hcz5_3 : w4.cell? ⟨gb107, 3, none⟩ = some (.slice A1_3 l1_3.length c1_3) := (blk_cell BK107.out 3).trans rfl; have hfz5_0 := blk_frozen BK107.out 0; have hfz5_1 := blk_frozen BK107.out 1; have hfz5_2 := blk_frozen BK107.out 2; have hfz5_3 := blk_frozen BK107.out 3)); go_upto_if 14 with (first | ((with_reducible refine gate_dst (N := 3) rfl ?_); refine box_event ?hg (N := 3) ?hd (cs := #[.int .i64 a1_0, .int .i64 a1_1, .string a1_2, .slice A1_3 l1_3.length c1_3]) (t := 24) ?hr ?_; (case hd => rfl); (case hg => rfl); (case hr => first | (go_simp; done) | (go_simp; rfl)); intro gb107 hg w4 hbox hb; have n0_ := Aside0.mk (below_step (by repeat (first | (with_reducible first | exact HB.out | apply below_alloc | apply pw_below_drewN | apply below_drew1) | exact HB.out)) hb); have n1_ := Aside0.mk (hbox); have n2_ := Aside0.mk ((by rw [hg]; exact (below_size (by repeat (first | (with_reducible first | exact HB.out | apply below_alloc | apply pw_below_drewN | apply below_drew1) | exact HB.out))) : w.heap.size ≤ gb107)); have n3_ := Aside0.mk ((by rw [hg]; exact (below_size (by repeat (first | (with_reducible first | exact HB.out | apply below_alloc | apply pw_below_drewN | apply below_drew1) | exact HB.out))) : w.heap.size ≤ gb107)); clear HB; have HB := n0_; have BK107 := n1_; have GW107 := n2_; have GE107 := n3_; clear n0_ n1_ n2_ n3_; clear hb hbox hg; have hcz5_0 : w4.cell? ⟨gb107, 0, none⟩ = some (.int .i64 a1_0) := (blk_cell BK107.out 0).trans rfl; have hcz5_1 : w4.cell? ⟨gb107, 1, none⟩ = some (.int .i64 a1_1) := (blk_cell BK107.out 1).trans rfl; have hcz5_2 : w4.cell? ⟨gb107, 2, none⟩ = some (.string a1_2) := (blk_cell BK107.out 2).trans rfl; have hcz5_3 : w4.cell? ⟨gb107, 3, none⟩ = some (.slice A1_3 l1_3.length c1_3) := (blk_cell BK107.out 3).trans rfl; have hfz5_0 := blk_frozen BK107.out 0; have hfz5_1 := blk_frozen BK107.out 1; have hfz5_2 := blk_frozen BK107.out 2; have hfz5_3 := blk_frozen BK107.out 3)))
  (try simp only [Act.put, List.setIfInBounds_toArray, List.set_cons_zero, List.set_cons_succ])
  go_cut [14] (fun v14 wc => ∃ (kq : Nat) (x14_2 : Bool), v14 = .bool x14_2 ∧ Aside0 (crosstreeref05_Size.j0 kq l0 a1_0 x14_2 a1_0 a1_1 a1_2 l1_3 = some (r1, r2, r3)) ∧ Aside0 (kq ≤ k) ∧ Aside0 (wc.heap[gb107]? = some (.cells #[.int .i64 a1_0, .int .i64 a1_1, .string a1_2, (.slice A1_3 l1_3.length c1_3)] 24 (0, 0))) ∧ Aside0 (Below w.heap.size w wc))
  case first =>
    have H := HC3.out
    clear HC3
    by_cases c6 : a1_0 = 2
    · rw [if_pos c6] at H
      have c6b0 : (a1_0 == 2) = true := beq_iff_eq.mpr c6
      have c6b1 : (a1_0 != 2) = false := bne_eq_false_iff_eq.mpr c6
      clear c6
      (first | rw [c6b0] | (simp only [i64_w, i32_w]; rw [c6b0]) | skip)
      have H' := Aside0.mk H
      clear H
      go_wp2
      repeat (go_quiet (fail); try go_wp2)
      go_meet
      case rel => exact ⟨_, ((a1_0 == 2)), (by first | rfl | (simp; done) | (simp [*]; done)), H', ⟨by first | omega | exact Nat.le_refl _⟩, ⟨by (with_reducible repeat (first | refine blk_drewN ?_ _ | refine blk_drew ?_ | refine blk_alloc ?_ _)); exact BK107.out⟩, ⟨by repeat (first | (with_reducible first | exact HB.out | apply below_alloc | apply pw_below_drewN | apply below_drew1 | refine below_set ?_ GE107.out) | exact HB.out)⟩⟩
    · rw [if_neg c6] at H
      have c6b0 : (a1_0 == 2) = false := beq_eq_false_iff_ne.mpr c6
      have c6b1 : (a1_0 != 2) = true := bne_iff_ne.mpr c6
      (first | rw [c6b0] | (simp only [i64_w, i32_w]; rw [c6b0]) | skip)
      by_cases c7 : a1_0 = 3
      · rw [if_pos c7] at H
        have c7b0 : (a1_0 == 3) = true := beq_iff_eq.mpr c7
        have c7b1 : (a1_0 != 3) = false := bne_eq_false_iff_eq.mpr c7
        clear c7
        have H' := Aside0.mk H
        clear H
        go_wp2
        repeat (go_quiet (fail); try go_wp2)
        go_meet
        case rel => exact ⟨_, ((a1_0 == 3)), (by first | rfl | (simp; done) | (simp [*]; done)), H', ⟨by first | omega | exact Nat.le_refl _⟩, ⟨by (with_reducible repeat (first | refine blk_drewN ?_ _ | refine blk_drew ?_ | refine blk_alloc ?_ _)); exact BK107.out⟩, ⟨by repeat (first | (with_reducible first | exact HB.out | apply below_alloc | apply pw_below_drewN | apply below_drew1 | refine below_set ?_ GE107.out) | exact HB.out)⟩⟩
      · rw [if_neg c7] at H
        have c7b0 : (a1_0 == 3) = false := beq_eq_false_iff_ne.mpr c7
        have c7b1 : (a1_0 != 3) = true := bne_iff_ne.mpr c7
        by_cases c8 : a1_0 = 4
        · rw [if_pos c8] at H
          have c8b0 : (a1_0 == 4) = true := beq_iff_eq.mpr c8
          have c8b1 : (a1_0 != 4) = false := bne_eq_false_iff_eq.mpr c8
          clear c8
          have H' := Aside0.mk H
          clear H
          go_wp2
          repeat (go_quiet (fail); try go_wp2)
          go_meet
          case rel => exact ⟨_, ((a1_0 == 4)), (by first | rfl | (simp; done) | (simp [*]; done)), H', ⟨by first | omega | exact Nat.le_refl _⟩, ⟨by (with_reducible repeat (first | refine blk_drewN ?_ _ | refine blk_drew ?_ | refine blk_alloc ?_ _)); exact BK107.out⟩, ⟨by repeat (first | (with_reducible first | exact HB.out | apply below_alloc | apply pw_below_drewN | apply below_drew1 | refine below_set ?_ GE107.out) | exact HB.out)⟩⟩
        · rw [if_neg c8] at H
          have c8b0 : (a1_0 == 4) = false := beq_eq_false_iff_ne.mpr c8
          have c8b1 : (a1_0 != 4) = true := bne_iff_ne.mpr c8
          have H' := Aside0.mk H
          clear H
          go_wp2
          repeat (go_quiet (fail); try go_wp2)
          go_meet
          case rel => exact ⟨_, ((a1_0 == 5)), (by first | rfl | (simp; done) | (simp [*]; done)), H', ⟨by first | omega | exact Nat.le_refl _⟩, ⟨by (with_reducible repeat (first | refine blk_drewN ?_ _ | refine blk_drew ?_ | refine blk_alloc ?_ _)); exact BK107.out⟩, ⟨by repeat (first | (with_reducible first | exact HB.out | apply below_alloc | apply pw_below_drewN | apply below_drew1 | refine below_set ?_ GE107.out) | exact HB.out)⟩⟩
  case rest =>
    clear HC3
    try clear c1
    try clear c2
    try clear p2
    try clear c6
    try clear c6b0
    try clear c6b1
    try clear c7
    try clear c7b0
    try clear c7b1
    try clear c8
    try clear c8b0
    try clear c8b1
    try clear hcz5_0
    try clear hcz5_1
    try clear hcz5_2
    try clear hcz5_3
    try clear hfz5_0
    try clear hfz5_1
    try clear hfz5_2
    try clear hfz5_3
    obtain ⟨kq, x14_2, rfl, HA, HJ2, BK107, HB⟩ := hcut
    cases kq with
    | zero => exact absurd HA.out (by simp [crosstreeref05_Size.j0])
    | succ kj2 =>
      have H := HA.out
      clear HA
      simp only [crosstreeref05_Size.j0] at H
      by_cases c9 : x14_2 = true
      · subst c9
        have H1 : ((crosstreeref04_Width.f a1_0 a1_1 a1_2 l1_3).bind fun t108 => (some (t108, t108, 0))) = some (r1, r2, r3) := by rw [if_pos rfl] at H; exact H
        clear H
        have H := H1
        clear H1
        replace H := Option.bind_eq_some_iff.mp H
        obtain ⟨t108, A100, H⟩ := H
        replace H : (some (t108, t108, 0)) = some (r1, r2, r3) := H
        have A10 := Aside0.mk A100
        clear A100
        simp only [Option.some.injEq, Prod.mk.injEq] at H
        obtain ⟨rfl, rfl, rfl⟩ := H
        have hcz11_0 : wc.cell? ⟨gb107, 0, none⟩ = some (.int .i64 a1_0) := (blk_cell BK107.out 0).trans rfl
        have hcz11_1 : wc.cell? ⟨gb107, 1, none⟩ = some (.int .i64 a1_1) := (blk_cell BK107.out 1).trans rfl
        have hcz11_2 : wc.cell? ⟨gb107, 2, none⟩ = some (.string a1_2) := (blk_cell BK107.out 2).trans rfl
        have hcz11_3 : wc.cell? ⟨gb107, 3, none⟩ = some (.slice A1_3 l1_3.length c1_3) := (blk_cell BK107.out 3).trans rfl
        have hfz11_0 := blk_frozen BK107.out 0
        have hfz11_1 := blk_frozen BK107.out 1
        have hfz11_2 := blk_frozen BK107.out 2
        have hfz11_3 := blk_frozen BK107.out 3
        go_wp2_with (first | (go_at_call 31; (with_reducible refine (crosstreeref04_Width.calls a1_0 a1_1 a1_2 _ _ l1_3 t108 _ ?side1 ?side2 A10.out).mono ?_); (case side1 => repeat (first | exact (Kd.C_below HR1_3.out HB.out) | (with_reducible refine Kd.C_alloc ?_ _) | (with_reducible refine Kd.C_drewN ?_ _) | (with_reducible refine Kd.C_drew ?_))); (case side2 => exact HC1_3.out); rintro e w12 ⟨rfl, hb⟩; have n0_ := Aside0.mk (blk_below (g := gb107) (o := .cells #[.int .i64 a1_0, .int .i64 a1_1, .string a1_2, .slice A1_3 l1_3.length c1_3] 24 (0, 0)) (by (with_reducible repeat (first | refine blk_drewN ?_ _ | refine blk_drew ?_ | refine blk_alloc ?_ _)); exact BK107.out) hb); have n1_ := Aside0.mk (below_step (by repeat (first | (with_reducible first | exact HB.out | apply below_alloc | apply pw_below_drewN | apply below_drew1 | refine below_set ?_ GE107.out) | exact HB.out)) hb); clear BK107; clear HB; have BK107 := n0_; have HB := n1_; clear n0_ n1_; (try clear hb); (try clear hb2); (try clear hk); (try clear hi)))
        repeat (go_quiet (first | (go_at_call 31; (with_reducible refine (crosstreeref04_Width.calls a1_0 a1_1 a1_2 _ _ l1_3 t108 _ ?side1 ?side2 A10.out).mono ?_); (case side1 => repeat (first | exact (Kd.C_below HR1_3.out HB.out) | (with_reducible refine Kd.C_alloc ?_ _) | (with_reducible refine Kd.C_drewN ?_ _) | (with_reducible refine Kd.C_drew ?_))); (case side2 => exact HC1_3.out); rintro e w12 ⟨rfl, hb⟩; have n0_ := Aside0.mk (blk_below (g := gb107) (o := .cells #[.int .i64 a1_0, .int .i64 a1_1, .string a1_2, .slice A1_3 l1_3.length c1_3] 24 (0, 0)) (by (with_reducible repeat (first | refine blk_drewN ?_ _ | refine blk_drew ?_ | refine blk_alloc ?_ _)); exact BK107.out) hb); have n1_ := Aside0.mk (below_step (by repeat (first | (with_reducible first | exact HB.out | apply below_alloc | apply pw_below_drewN | apply below_drew1 | refine below_set ?_ GE107.out) | exact HB.out)) hb); clear BK107; clear HB; have BK107 := n0_; have HB := n1_; clear n0_ n1_; (try clear hb); (try clear hb2); (try clear hk); (try clear hi))); try go_wp2_with (first | (go_at_call 31; (with_reducible refine (crosstreeref04_Width.calls a1_0 a1_1 a1_2 _ _ l1_3 t108 _ ?side1 ?side2 A10.out).mono ?_); (case side1 => repeat (first | exact (Kd.C_below HR1_3.out HB.out) | (with_reducible refine Kd.C_alloc ?_ _) | (with_reducible refine Kd.C_drewN ?_ _) | (with_reducible refine Kd.C_drew ?_))); (case side2 => exact HC1_3.out); rintro e w12 ⟨rfl, hb⟩; have n0_ := Aside0.mk (blk_below (g := gb107) (o := .cells #[.int .i64 a1_0, .int .i64 a1_1, .string a1_2, .slice A1_3 l1_3.length c1_3] 24 (0, 0)) (by (with_reducible repeat (first | refine blk_drewN ?_ _ | refine blk_drew ?_ | refine blk_alloc ?_ _)); exact BK107.out) hb); have n1_ := Aside0.mk (below_step (by repeat (first | (with_reducible first | exact HB.out | apply below_alloc | apply pw_below_drewN | apply below_drew1 | refine below_set ?_ GE107.out) | exact HB.out)) hb); clear BK107; clear HB; have BK107 := n0_; have HB := n1_; clear n0_ n1_; (try clear hb); (try clear hb2); (try clear hk); (try clear hi))))
        go_ret3
        exact ⟨by first | rfl | (simp [errW_none, errW_some] <;> rfl) | (simp [*, errW_none, errW_some] <;> rfl), by repeat (first | (with_reducible first | exact HB.out | apply below_alloc | apply pw_below_drewN | apply below_drew1 | refine below_set ?_ GE107.out) | exact HB.out)⟩
      · replace c9 := Bool.eq_false_iff.mpr c9
        subst c9
        have H1 : (if a1_0 = 7 then (crosstreeref05_Size.j1 kj2 l0 a1_0 (a1_0 == 7) a1_0 a1_1 a1_2 l1_3) else (crosstreeref05_Size.j1 kj2 l0 a1_0 (a1_0 == 8) a1_0 a1_1 a1_2 l1_3)) = some (r1, r2, r3) := by rw [if_neg (show ¬ (false = true) by decide)] at H; exact H
        clear H
        have H := H1
        clear H1
        have HC13 := Aside0.mk H
        clear H
        go_upto_if 23 with (fail)
        repeat (go_quiet (fail); go_upto_if 23 with (fail))
        go_cut [23] (fun v23 wc => ∃ (kq : Nat) (x23_12 : Bool), v23 = .bool x23_12 ∧ Aside0 (crosstreeref05_Size.j1 kq l0 a1_0 x23_12 a1_0 a1_1 a1_2 l1_3 = some (r1, r2, r3)) ∧ Aside0 (kq ≤ kj2) ∧ Aside0 (wc.heap[gb107]? = some (.cells #[.int .i64 a1_0, .int .i64 a1_1, .string a1_2, (.slice A1_3 l1_3.length c1_3)] 24 (0, 0))) ∧ Aside0 (Below w.heap.size w wc))
        case first =>
          have H := HC13.out
          clear HC13
          by_cases c14 : a1_0 = 7
          · rw [if_pos c14] at H
            have c14b0 : (a1_0 == 7) = true := beq_iff_eq.mpr c14
            have c14b1 : (a1_0 != 7) = false := bne_eq_false_iff_eq.mpr c14
            clear c14
            (first | rw [c14b0] | (simp only [i64_w, i32_w]; rw [c14b0]) | skip)
            have H' := Aside0.mk H
            clear H
            go_wp2
            repeat (go_quiet (fail); try go_wp2)
            go_meet
            case rel => exact ⟨_, ((a1_0 == 7)), (by first | rfl | (simp; done) | (simp [*]; done)), H', ⟨by have := HJ2.out; first | omega | exact Nat.le_refl _⟩, ⟨by (with_reducible repeat (first | refine blk_drewN ?_ _ | refine blk_drew ?_ | refine blk_alloc ?_ _)); exact BK107.out⟩, ⟨by repeat (first | (with_reducible first | exact HB.out | apply below_alloc | apply pw_below_drewN | apply below_drew1 | refine below_set ?_ GE107.out) | exact HB.out)⟩⟩
          · rw [if_neg c14] at H
            have c14b0 : (a1_0 == 7) = false := beq_eq_false_iff_ne.mpr c14
            have c14b1 : (a1_0 != 7) = true := bne_iff_ne.mpr c14
            (first | rw [c14b0] | (simp only [i64_w, i32_w]; rw [c14b0]) | skip)
            have H' := Aside0.mk H
            clear H
            go_wp2
            repeat (go_quiet (fail); try go_wp2)
            go_meet
            case rel => exact ⟨_, ((a1_0 == 8)), (by first | rfl | (simp; done) | (simp [*]; done)), H', ⟨by have := HJ2.out; first | omega | exact Nat.le_refl _⟩, ⟨by (with_reducible repeat (first | refine blk_drewN ?_ _ | refine blk_drew ?_ | refine blk_alloc ?_ _)); exact BK107.out⟩, ⟨by repeat (first | (with_reducible first | exact HB.out | apply below_alloc | apply pw_below_drewN | apply below_drew1 | refine below_set ?_ GE107.out) | exact HB.out)⟩⟩
        case rest =>
          clear HC13
          try clear c1
          try clear c2
          try clear p2
          try clear c6
          try clear c6b0
          try clear c6b1
          try clear c7
          try clear c7b0
          try clear c7b1
          try clear c8
          try clear c8b0
          try clear c8b1
          try clear c9
          try clear c14
          try clear c14b0
          try clear c14b1
          try clear hcz11_0
          try clear hcz11_1
          try clear hcz11_2
          try clear hcz11_3
          try clear hcz5_0
          try clear hcz5_1
          try clear hcz5_2
          try clear hcz5_3
          try clear hfz11_0
          try clear hfz11_1
          try clear hfz11_2
          try clear hfz11_3
          try clear hfz5_0
          try clear hfz5_1
          try clear hfz5_2
          try clear hfz5_3
          try clear p2
          obtain ⟨kq, x23_12, rfl, HA, HJ12, BK107, HB⟩ := hcut
          cases kq with
          | zero => exact absurd HA.out (by simp [crosstreeref05_Size.j1])
          | succ kj12 =>
            have H := HA.out
            clear HA
            simp only [crosstreeref05_Size.j1] at H
            by_cases c15 : x23_12 = true
            · subst c15
              have H1 : ((crosstreeref05_Which.f kj12 l0 a1_0 a1_1 a1_2 l1_3).bind fun t109 => (if t109 < 0 then (some (0, 0, 7)) else (if 0 ≤ t109 then (if t109 < (l0.length : Int) then (some ((rd_T51 l0 t109).f1, (rd_T51 l0 t109).f2, 0)) else (none)) else (none)))) = some (r1, r2, r3) := by rw [if_pos rfl] at H; exact H
              clear H
              have H := H1
              clear H1
              replace H := Option.bind_eq_some_iff.mp H
              obtain ⟨t109, A160, H⟩ := H
              replace H : (if t109 < 0 then (some (0, 0, 7)) else (if 0 ≤ t109 then (if t109 < (l0.length : Int) then (some ((rd_T51 l0 t109).f1, (rd_T51 l0 t109).f2, 0)) else (none)) else (none))) = some (r1, r2, r3) := H
              have A16 := Aside0.mk A160
              clear A160
              by_cases c17 : t109 < 0
              · rw [if_pos c17] at H
                have c17b0 : decide (t109 < 0) = true := decide_eq_true c17
                clear c17
                simp only [Option.some.injEq, Prod.mk.injEq] at H
                obtain ⟨rfl, rfl, rfl⟩ := H
                have hcz18_0 : wc.cell? ⟨gb107, 0, none⟩ = some (.int .i64 a1_0) := (blk_cell BK107.out 0).trans rfl
                have hcz18_1 : wc.cell? ⟨gb107, 1, none⟩ = some (.int .i64 a1_1) := (blk_cell BK107.out 1).trans rfl
                have hcz18_2 : wc.cell? ⟨gb107, 2, none⟩ = some (.string a1_2) := (blk_cell BK107.out 2).trans rfl
                have hcz18_3 : wc.cell? ⟨gb107, 3, none⟩ = some (.slice A1_3 l1_3.length c1_3) := (blk_cell BK107.out 3).trans rfl
                have hfz18_0 := blk_frozen BK107.out 0
                have hfz18_1 := blk_frozen BK107.out 1
                have hfz18_2 := blk_frozen BK107.out 2
                have hfz18_3 := blk_frozen BK107.out 3
                go_wp2_with (first | (go_at_call 32; (with_reducible refine (crosstreeref05_Which.calls kj12 _ _ l0 a1_0 a1_1 a1_2 _ _ l1_3 t109 _ ?side1 ?side2 ?side3 ?side4 A16.out).mono ?_); (case side1 => repeat (first | exact (Kd.C_below HR0.out HB.out) | (with_reducible refine Kd.C_alloc ?_ _) | (with_reducible refine Kd.C_drewN ?_ _) | (with_reducible refine Kd.C_drew ?_))); (case side2 => exact HC0.out); (case side3 => repeat (first | exact (Kd.C_below HR1_3.out HB.out) | (with_reducible refine Kd.C_alloc ?_ _) | (with_reducible refine Kd.C_drewN ?_ _) | (with_reducible refine Kd.C_drew ?_))); (case side4 => exact HC1_3.out); rintro e w19 ⟨rfl, hb⟩; have n0_ := Aside0.mk (blk_below (g := gb107) (o := .cells #[.int .i64 a1_0, .int .i64 a1_1, .string a1_2, .slice A1_3 l1_3.length c1_3] 24 (0, 0)) (by (with_reducible repeat (first | refine blk_drewN ?_ _ | refine blk_drew ?_ | refine blk_alloc ?_ _)); exact BK107.out) hb); have n1_ := Aside0.mk (below_step (by repeat (first | (with_reducible first | exact HB.out | apply below_alloc | apply pw_below_drewN | apply below_drew1 | refine below_set ?_ GE107.out) | exact HB.out)) hb); clear BK107; clear HB; have BK107 := n0_; have HB := n1_; clear n0_ n1_; (try clear hb); (try clear hb2); (try clear hk); (try clear hi)))
                repeat (go_quiet (first | (go_at_call 32; (with_reducible refine (crosstreeref05_Which.calls kj12 _ _ l0 a1_0 a1_1 a1_2 _ _ l1_3 t109 _ ?side1 ?side2 ?side3 ?side4 A16.out).mono ?_); (case side1 => repeat (first | exact (Kd.C_below HR0.out HB.out) | (with_reducible refine Kd.C_alloc ?_ _) | (with_reducible refine Kd.C_drewN ?_ _) | (with_reducible refine Kd.C_drew ?_))); (case side2 => exact HC0.out); (case side3 => repeat (first | exact (Kd.C_below HR1_3.out HB.out) | (with_reducible refine Kd.C_alloc ?_ _) | (with_reducible refine Kd.C_drewN ?_ _) | (with_reducible refine Kd.C_drew ?_))); (case side4 => exact HC1_3.out); rintro e w19 ⟨rfl, hb⟩; have n0_ := Aside0.mk (blk_below (g := gb107) (o := .cells #[.int .i64 a1_0, .int .i64 a1_1, .string a1_2, .slice A1_3 l1_3.length c1_3] 24 (0, 0)) (by (with_reducible repeat (first | refine blk_drewN ?_ _ | refine blk_drew ?_ | refine blk_alloc ?_ _)); exact BK107.out) hb); have n1_ := Aside0.mk (below_step (by repeat (first | (with_reducible first | exact HB.out | apply below_alloc | apply pw_below_drewN | apply below_drew1 | refine below_set ?_ GE107.out) | exact HB.out)) hb); clear BK107; clear HB; have BK107 := n0_; have HB := n1_; clear n0_ n1_; (try clear hb); (try clear hb2); (try clear hk); (try clear hi))); try go_wp2_with (first | (go_at_call 32; (with_reducible refine (crosstreeref05_Which.calls kj12 _ _ l0 a1_0 a1_1 a1_2 _ _ l1_3 t109 _ ?side1 ?side2 ?side3 ?side4 A16.out).mono ?_); (case side1 => repeat (first | exact (Kd.C_below HR0.out HB.out) | (with_reducible refine Kd.C_alloc ?_ _) | (with_reducible refine Kd.C_drewN ?_ _) | (with_reducible refine Kd.C_drew ?_))); (case side2 => exact HC0.out); (case side3 => repeat (first | exact (Kd.C_below HR1_3.out HB.out) | (with_reducible refine Kd.C_alloc ?_ _) | (with_reducible refine Kd.C_drewN ?_ _) | (with_reducible refine Kd.C_drew ?_))); (case side4 => exact HC1_3.out); rintro e w19 ⟨rfl, hb⟩; have n0_ := Aside0.mk (blk_below (g := gb107) (o := .cells #[.int .i64 a1_0, .int .i64 a1_1, .string a1_2, .slice A1_3 l1_3.length c1_3] 24 (0, 0)) (by (with_reducible repeat (first | refine blk_drewN ?_ _ | refine blk_drew ?_ | refine blk_alloc ?_ _)); exact BK107.out) hb); have n1_ := Aside0.mk (below_step (by repeat (first | (with_reducible first | exact HB.out | apply below_alloc | apply pw_below_drewN | apply below_drew1 | refine below_set ?_ GE107.out) | exact HB.out)) hb); clear BK107; clear HB; have BK107 := n0_; have HB := n1_; clear n0_ n1_; (try clear hb); (try clear hb2); (try clear hk); (try clear hi))))
                go_ret3
                exact ⟨by first | rfl | (simp [errW_none, errW_some] <;> rfl) | (simp [*, errW_none, errW_some] <;> rfl), by repeat (first | (with_reducible first | exact HB.out | apply below_alloc | apply pw_below_drewN | apply below_drew1 | refine below_set ?_ GE107.out) | exact HB.out)⟩
              · rw [if_neg c17] at H
                have c17b0 : decide (t109 < 0) = false := decide_eq_false c17
                clear c17
                by_cases c20 : 0 ≤ t109
                · rw [if_pos c20] at H
                  have c20b0 : decide (0 ≤ t109) = true := decide_eq_true c20
                  clear c20
                  by_cases c21 : t109 < (l0.length : Int)
                  · rw [if_pos c21] at H
                    have c21b0 : decide (t109 < (l0.length : Int)) = true := decide_eq_true c21
                    clear c21
                    simp only [Option.some.injEq, Prod.mk.injEq] at H
                    obtain ⟨rfl, rfl, rfl⟩ := H
                    have hcz22_0 : wc.cell? ⟨gb107, 0, none⟩ = some (.int .i64 a1_0) := (blk_cell BK107.out 0).trans rfl
                    have hcz22_1 : wc.cell? ⟨gb107, 1, none⟩ = some (.int .i64 a1_1) := (blk_cell BK107.out 1).trans rfl
                    have hcz22_2 : wc.cell? ⟨gb107, 2, none⟩ = some (.string a1_2) := (blk_cell BK107.out 2).trans rfl
                    have hcz22_3 : wc.cell? ⟨gb107, 3, none⟩ = some (.slice A1_3 l1_3.length c1_3) := (blk_cell BK107.out 3).trans rfl
                    have hfz22_0 := blk_frozen BK107.out 0
                    have hfz22_1 := blk_frozen BK107.out 1
                    have hfz22_2 := blk_frozen BK107.out 2
                    have hfz22_3 := blk_frozen BK107.out 3
                    go_wp2_with (first | (go_at_call 32; (with_reducible refine (crosstreeref05_Which.calls kj12 _ _ l0 a1_0 a1_1 a1_2 _ _ l1_3 t109 _ ?side1 ?side2 ?side3 ?side4 A16.out).mono ?_); (case side1 => repeat (first | exact (Kd.C_below HR0.out HB.out) | (with_reducible refine Kd.C_alloc ?_ _) | (with_reducible refine Kd.C_drewN ?_ _) | (with_reducible refine Kd.C_drew ?_))); (case side2 => exact HC0.out); (case side3 => repeat (first | exact (Kd.C_below HR1_3.out HB.out) | (with_reducible refine Kd.C_alloc ?_ _) | (with_reducible refine Kd.C_drewN ?_ _) | (with_reducible refine Kd.C_drew ?_))); (case side4 => exact HC1_3.out); rintro e w23 ⟨rfl, hb⟩; have n0_ := Aside0.mk (blk_below (g := gb107) (o := .cells #[.int .i64 a1_0, .int .i64 a1_1, .string a1_2, .slice A1_3 l1_3.length c1_3] 24 (0, 0)) (by (with_reducible repeat (first | refine blk_drewN ?_ _ | refine blk_drew ?_ | refine blk_alloc ?_ _)); exact BK107.out) hb); have n1_ := Aside0.mk (below_step (by repeat (first | (with_reducible first | exact HB.out | apply below_alloc | apply pw_below_drewN | apply below_drew1 | refine below_set ?_ GE107.out) | exact HB.out)) hb); clear BK107; clear HB; have BK107 := n0_; have HB := n1_; clear n0_ n1_; (try clear hb); (try clear hb2); (try clear hk); (try clear hi); have p110 : 0 ≤ (t109 : Int) := of_decide_eq_true (by first | (with_reducible assumption) | assumption); have q110 : t109 < (l0.length : Int) := of_decide_eq_true (by first | (with_reducible assumption) | assumption); obtain ⟨ad110, A110_3, c110_3, A110_6, c110_6, e110, hx110_0, hx110_1, hx110_2, hx110_3, hx110_4, hx110_5, hx110_6, hl110_3, hi110_3, hl110_6, hi110_6⟩ := at_T51 HR0.out t109 p110 q110; cases e110; replace hx110_0 := (HB.out.cell (World.block_lt_of_cell? w _ hx110_0)).trans hx110_0; replace hx110_1 := (HB.out.cell (World.block_lt_of_cell? w _ hx110_1)).trans hx110_1; replace hx110_2 := (HB.out.cell (World.block_lt_of_cell? w _ hx110_2)).trans hx110_2; replace hx110_3 := (HB.out.cell (World.block_lt_of_cell? w _ hx110_3)).trans hx110_3; replace hx110_4 := (HB.out.cell (World.block_lt_of_cell? w _ hx110_4)).trans hx110_4; replace hx110_5 := (HB.out.cell (World.block_lt_of_cell? w _ hx110_5)).trans hx110_5; replace hx110_6 := (HB.out.cell (World.block_lt_of_cell? w _ hx110_6)).trans hx110_6; have HR110_3 := Aside0.mk hi110_3; have HC110_3 := Aside0.mk hl110_3; clear hi110_3 hl110_3; have HR110_6 := Aside0.mk hi110_6; have HC110_6 := Aside0.mk hl110_6; clear hi110_6 hl110_6; replace p110 := eq_true p110; replace q110 := eq_true q110; have p111 : 0 ≤ (t109 : Int) := of_decide_eq_true (by first | (with_reducible assumption) | assumption); have q111 : t109 < (l0.length : Int) := of_decide_eq_true (by first | (with_reducible assumption) | assumption); obtain ⟨ad111, A111_3, c111_3, A111_6, c111_6, e111, hx111_0, hx111_1, hx111_2, hx111_3, hx111_4, hx111_5, hx111_6, hl111_3, hi111_3, hl111_6, hi111_6⟩ := at_T51 HR0.out t109 p111 q111; obtain rfl : ad110 = ad111 := (by injection e111); replace hx111_0 := (HB.out.cell (World.block_lt_of_cell? w _ hx111_0)).trans hx111_0; replace hx111_1 := (HB.out.cell (World.block_lt_of_cell? w _ hx111_1)).trans hx111_1; replace hx111_2 := (HB.out.cell (World.block_lt_of_cell? w _ hx111_2)).trans hx111_2; replace hx111_3 := (HB.out.cell (World.block_lt_of_cell? w _ hx111_3)).trans hx111_3; replace hx111_4 := (HB.out.cell (World.block_lt_of_cell? w _ hx111_4)).trans hx111_4; replace hx111_5 := (HB.out.cell (World.block_lt_of_cell? w _ hx111_5)).trans hx111_5; replace hx111_6 := (HB.out.cell (World.block_lt_of_cell? w _ hx111_6)).trans hx111_6; have HR111_3 := Aside0.mk hi111_3; have HC111_3 := Aside0.mk hl111_3; clear hi111_3 hl111_3; have HR111_6 := Aside0.mk hi111_6; have HC111_6 := Aside0.mk hl111_6; clear hi111_6 hl111_6; replace p111 := eq_true p111; replace q111 := eq_true q111; have ea_ := Option.some.inj (hx110_3.symm.trans hx111_3); injection ea_ with ea_ en_ ec_; subst ea_; subst ec_; clear en_; have ea_ := Option.some.inj (hx110_6.symm.trans hx111_6); injection ea_ with ea_ en_ ec_; subst ea_; subst ec_; clear en_))
                    repeat (go_quiet (first | (go_at_call 32; (with_reducible refine (crosstreeref05_Which.calls kj12 _ _ l0 a1_0 a1_1 a1_2 _ _ l1_3 t109 _ ?side1 ?side2 ?side3 ?side4 A16.out).mono ?_); (case side1 => repeat (first | exact (Kd.C_below HR0.out HB.out) | (with_reducible refine Kd.C_alloc ?_ _) | (with_reducible refine Kd.C_drewN ?_ _) | (with_reducible refine Kd.C_drew ?_))); (case side2 => exact HC0.out); (case side3 => repeat (first | exact (Kd.C_below HR1_3.out HB.out) | (with_reducible refine Kd.C_alloc ?_ _) | (with_reducible refine Kd.C_drewN ?_ _) | (with_reducible refine Kd.C_drew ?_))); (case side4 => exact HC1_3.out); rintro e w23 ⟨rfl, hb⟩; have n0_ := Aside0.mk (blk_below (g := gb107) (o := .cells #[.int .i64 a1_0, .int .i64 a1_1, .string a1_2, .slice A1_3 l1_3.length c1_3] 24 (0, 0)) (by (with_reducible repeat (first | refine blk_drewN ?_ _ | refine blk_drew ?_ | refine blk_alloc ?_ _)); exact BK107.out) hb); have n1_ := Aside0.mk (below_step (by repeat (first | (with_reducible first | exact HB.out | apply below_alloc | apply pw_below_drewN | apply below_drew1 | refine below_set ?_ GE107.out) | exact HB.out)) hb); clear BK107; clear HB; have BK107 := n0_; have HB := n1_; clear n0_ n1_; (try clear hb); (try clear hb2); (try clear hk); (try clear hi); have p110 : 0 ≤ (t109 : Int) := of_decide_eq_true (by first | (with_reducible assumption) | assumption); have q110 : t109 < (l0.length : Int) := of_decide_eq_true (by first | (with_reducible assumption) | assumption); obtain ⟨ad110, A110_3, c110_3, A110_6, c110_6, e110, hx110_0, hx110_1, hx110_2, hx110_3, hx110_4, hx110_5, hx110_6, hl110_3, hi110_3, hl110_6, hi110_6⟩ := at_T51 HR0.out t109 p110 q110; cases e110; replace hx110_0 := (HB.out.cell (World.block_lt_of_cell? w _ hx110_0)).trans hx110_0; replace hx110_1 := (HB.out.cell (World.block_lt_of_cell? w _ hx110_1)).trans hx110_1; replace hx110_2 := (HB.out.cell (World.block_lt_of_cell? w _ hx110_2)).trans hx110_2; replace hx110_3 := (HB.out.cell (World.block_lt_of_cell? w _ hx110_3)).trans hx110_3; replace hx110_4 := (HB.out.cell (World.block_lt_of_cell? w _ hx110_4)).trans hx110_4; replace hx110_5 := (HB.out.cell (World.block_lt_of_cell? w _ hx110_5)).trans hx110_5; replace hx110_6 := (HB.out.cell (World.block_lt_of_cell? w _ hx110_6)).trans hx110_6; have HR110_3 := Aside0.mk hi110_3; have HC110_3 := Aside0.mk hl110_3; clear hi110_3 hl110_3; have HR110_6 := Aside0.mk hi110_6; have HC110_6 := Aside0.mk hl110_6; clear hi110_6 hl110_6; replace p110 := eq_true p110; replace q110 := eq_true q110; have p111 : 0 ≤ (t109 : Int) := of_decide_eq_true (by first | (with_reducible assumption) | assumption); have q111 : t109 < (l0.length : Int) := of_decide_eq_true (by first | (with_reducible assumption) | assumption); obtain ⟨ad111, A111_3, c111_3, A111_6, c111_6, e111, hx111_0, hx111_1, hx111_2, hx111_3, hx111_4, hx111_5, hx111_6, hl111_3, hi111_3, hl111_6, hi111_6⟩ := at_T51 HR0.out t109 p111 q111; obtain rfl : ad110 = ad111 := (by injection e111); replace hx111_0 := (HB.out.cell (World.block_lt_of_cell? w _ hx111_0)).trans hx111_0; replace hx111_1 := (HB.out.cell (World.block_lt_of_cell? w _ hx111_1)).trans hx111_1; replace hx111_2 := (HB.out.cell (World.block_lt_of_cell? w _ hx111_2)).trans hx111_2; replace hx111_3 := (HB.out.cell (World.block_lt_of_cell? w _ hx111_3)).trans hx111_3; replace hx111_4 := (HB.out.cell (World.block_lt_of_cell? w _ hx111_4)).trans hx111_4; replace hx111_5 := (HB.out.cell (World.block_lt_of_cell? w _ hx111_5)).trans hx111_5; replace hx111_6 := (HB.out.cell (World.block_lt_of_cell? w _ hx111_6)).trans hx111_6; have HR111_3 := Aside0.mk hi111_3; have HC111_3 := Aside0.mk hl111_3; clear hi111_3 hl111_3; have HR111_6 := Aside0.mk hi111_6; have HC111_6 := Aside0.mk hl111_6; clear hi111_6 hl111_6; replace p111 := eq_true p111; replace q111 := eq_true q111; have ea_ := Option.some.inj (hx110_3.symm.trans hx111_3); injection ea_ with ea_ en_ ec_; subst ea_; subst ec_; clear en_; have ea_ := Option.some.inj (hx110_6.symm.trans hx111_6); injection ea_ with ea_ en_ ec_; subst ea_; subst ec_; clear en_)); try go_wp2_with (first | (go_at_call 32; (with_reducible refine (crosstreeref05_Which.calls kj12 _ _ l0 a1_0 a1_1 a1_2 _ _ l1_3 t109 _ ?side1 ?side2 ?side3 ?side4 A16.out).mono ?_); (case side1 => repeat (first | exact (Kd.C_below HR0.out HB.out) | (with_reducible refine Kd.C_alloc ?_ _) | (with_reducible refine Kd.C_drewN ?_ _) | (with_reducible refine Kd.C_drew ?_))); (case side2 => exact HC0.out); (case side3 => repeat (first | exact (Kd.C_below HR1_3.out HB.out) | (with_reducible refine Kd.C_alloc ?_ _) | (with_reducible refine Kd.C_drewN ?_ _) | (with_reducible refine Kd.C_drew ?_))); (case side4 => exact HC1_3.out); rintro e w23 ⟨rfl, hb⟩; have n0_ := Aside0.mk (blk_below (g := gb107) (o := .cells #[.int .i64 a1_0, .int .i64 a1_1, .string a1_2, .slice A1_3 l1_3.length c1_3] 24 (0, 0)) (by (with_reducible repeat (first | refine blk_drewN ?_ _ | refine blk_drew ?_ | refine blk_alloc ?_ _)); exact BK107.out) hb); have n1_ := Aside0.mk (below_step (by repeat (first | (with_reducible first | exact HB.out | apply below_alloc | apply pw_below_drewN | apply below_drew1 | refine below_set ?_ GE107.out) | exact HB.out)) hb); clear BK107; clear HB; have BK107 := n0_; have HB := n1_; clear n0_ n1_; (try clear hb); (try clear hb2); (try clear hk); (try clear hi); have p110 : 0 ≤ (t109 : Int) := of_decide_eq_true (by first | (with_reducible assumption) | assumption); have q110 : t109 < (l0.length : Int) := of_decide_eq_true (by first | (with_reducible assumption) | assumption); obtain ⟨ad110, A110_3, c110_3, A110_6, c110_6, e110, hx110_0, hx110_1, hx110_2, hx110_3, hx110_4, hx110_5, hx110_6, hl110_3, hi110_3, hl110_6, hi110_6⟩ := at_T51 HR0.out t109 p110 q110; cases e110; replace hx110_0 := (HB.out.cell (World.block_lt_of_cell? w _ hx110_0)).trans hx110_0; replace hx110_1 := (HB.out.cell (World.block_lt_of_cell? w _ hx110_1)).trans hx110_1; replace hx110_2 := (HB.out.cell (World.block_lt_of_cell? w _ hx110_2)).trans hx110_2; replace hx110_3 := (HB.out.cell (World.block_lt_of_cell? w _ hx110_3)).trans hx110_3; replace hx110_4 := (HB.out.cell (World.block_lt_of_cell? w _ hx110_4)).trans hx110_4; replace hx110_5 := (HB.out.cell (World.block_lt_of_cell? w _ hx110_5)).trans hx110_5; replace hx110_6 := (HB.out.cell (World.block_lt_of_cell? w _ hx110_6)).trans hx110_6; have HR110_3 := Aside0.mk hi110_3; have HC110_3 := Aside0.mk hl110_3; clear hi110_3 hl110_3; have HR110_6 := Aside0.mk hi110_6; have HC110_6 := Aside0.mk hl110_6; clear hi110_6 hl110_6; replace p110 := eq_true p110; replace q110 := eq_true q110; have p111 : 0 ≤ (t109 : Int) := of_decide_eq_true (by first | (with_reducible assumption) | assumption); have q111 : t109 < (l0.length : Int) := of_decide_eq_true (by first | (with_reducible assumption) | assumption); obtain ⟨ad111, A111_3, c111_3, A111_6, c111_6, e111, hx111_0, hx111_1, hx111_2, hx111_3, hx111_4, hx111_5, hx111_6, hl111_3, hi111_3, hl111_6, hi111_6⟩ := at_T51 HR0.out t109 p111 q111; obtain rfl : ad110 = ad111 := (by injection e111); replace hx111_0 := (HB.out.cell (World.block_lt_of_cell? w _ hx111_0)).trans hx111_0; replace hx111_1 := (HB.out.cell (World.block_lt_of_cell? w _ hx111_1)).trans hx111_1; replace hx111_2 := (HB.out.cell (World.block_lt_of_cell? w _ hx111_2)).trans hx111_2; replace hx111_3 := (HB.out.cell (World.block_lt_of_cell? w _ hx111_3)).trans hx111_3; replace hx111_4 := (HB.out.cell (World.block_lt_of_cell? w _ hx111_4)).trans hx111_4; replace hx111_5 := (HB.out.cell (World.block_lt_of_cell? w _ hx111_5)).trans hx111_5; replace hx111_6 := (HB.out.cell (World.block_lt_of_cell? w _ hx111_6)).trans hx111_6; have HR111_3 := Aside0.mk hi111_3; have HC111_3 := Aside0.mk hl111_3; clear hi111_3 hl111_3; have HR111_6 := Aside0.mk hi111_6; have HC111_6 := Aside0.mk hl111_6; clear hi111_6 hl111_6; replace p111 := eq_true p111; replace q111 := eq_true q111; have ea_ := Option.some.inj (hx110_3.symm.trans hx111_3); injection ea_ with ea_ en_ ec_; subst ea_; subst ec_; clear en_; have ea_ := Option.some.inj (hx110_6.symm.trans hx111_6); injection ea_ with ea_ en_ ec_; subst ea_; subst ec_; clear en_)))
                    go_ret3
                    exact ⟨by first | rfl | (simp [errW_none, errW_some] <;> rfl) | (simp [*, errW_none, errW_some] <;> rfl), by repeat (first | (with_reducible first | exact HB.out | apply below_alloc | apply pw_below_drewN | apply below_drew1 | refine below_set ?_ GE107.out) | exact HB.out)⟩
                  · rw [if_neg c21] at H
                    exact absurd H (by simp)
                · rw [if_neg c20] at H
                  exact absurd H (by simp)
            · replace c15 := Bool.eq_false_iff.mpr c15
              subst c15
              have H1 : (if a1_0 = 6 then (if (l1_3.length : Int) = 1 then (crosstreeref05_Size.j2 kj12 l0 (decide (a1_1 < 1)) a1_0 a1_1 a1_2 l1_3) else (crosstreeref05_Size.j2 kj12 l0 true a1_0 a1_1 a1_2 l1_3)) else (some (0, 0, 3))) = some (r1, r2, r3) := by rw [if_neg (show ¬ (false = true) by decide)] at H; exact H
              clear H
              have H := H1
              clear H1
              by_cases c24 : a1_0 = 6
              · rw [if_pos c24] at H
                have c24b0 : (a1_0 == 6) = true := beq_iff_eq.mpr c24
                have c24b1 : (a1_0 != 6) = false := bne_eq_false_iff_eq.mpr c24
                clear c24
                have HC25 := Aside0.mk H
                clear H
                go_upto_region 15 with (fail)
                repeat (go_quiet (fail); go_upto_region 15 with (fail))
                go_cut [51] (fun v51 wc => ∃ (kq : Nat) (x51_24 : Bool), v51 = .bool x51_24 ∧ Aside0 (crosstreeref05_Size.j2 kq l0 x51_24 a1_0 a1_1 a1_2 l1_3 = some (r1, r2, r3)) ∧ Aside0 (kq ≤ kj12) ∧ Aside0 (wc.heap[gb107]? = some (.cells #[.int .i64 a1_0, .int .i64 a1_1, .string a1_2, (.slice A1_3 l1_3.length c1_3)] 24 (0, 0))) ∧ Aside0 (Below w.heap.size w wc))
                case first =>
                  have H := HC25.out
                  clear HC25
                  by_cases c26 : (l1_3.length : Int) = 1
                  · rw [if_pos c26] at H
                    have c26b0 : ((l1_3.length : Int) == 1) = true := beq_iff_eq.mpr c26
                    have c26b1 : ((l1_3.length : Int) != 1) = false := bne_eq_false_iff_eq.mpr c26
                    clear c26
                    (first | rw [c26b0] | (simp only [i64_w, i32_w]; rw [c26b0]) | skip)
                    have H' := Aside0.mk H
                    clear H
                    have hcz27_0 : wc.cell? ⟨gb107, 0, none⟩ = some (.int .i64 a1_0) := (blk_cell BK107.out 0).trans rfl
                    have hcz27_1 : wc.cell? ⟨gb107, 1, none⟩ = some (.int .i64 a1_1) := (blk_cell BK107.out 1).trans rfl
                    have hcz27_2 : wc.cell? ⟨gb107, 2, none⟩ = some (.string a1_2) := (blk_cell BK107.out 2).trans rfl
                    have hcz27_3 : wc.cell? ⟨gb107, 3, none⟩ = some (.slice A1_3 l1_3.length c1_3) := (blk_cell BK107.out 3).trans rfl
                    have hfz27_0 := blk_frozen BK107.out 0
                    have hfz27_1 := blk_frozen BK107.out 1
                    have hfz27_2 := blk_frozen BK107.out 2
                    have hfz27_3 := blk_frozen BK107.out 3
                    go_wp2
                    repeat (go_quiet (fail); try go_wp2)
                    go_meet
                    case rel => exact ⟨_, (decide (a1_1 < 1)), (by first | rfl | (simp; done) | (simp [*]; done)), H', ⟨by have := HJ2.out; have := HJ12.out; first | omega | exact Nat.le_refl _⟩, ⟨by (with_reducible repeat (first | refine blk_drewN ?_ _ | refine blk_drew ?_ | refine blk_alloc ?_ _)); exact BK107.out⟩, ⟨by repeat (first | (with_reducible first | exact HB.out | apply below_alloc | apply pw_below_drewN | apply below_drew1 | refine below_set ?_ GE107.out) | exact HB.out)⟩⟩
                  · rw [if_neg c26] at H
                    have c26b0 : ((l1_3.length : Int) == 1) = false := beq_eq_false_iff_ne.mpr c26
                    have c26b1 : ((l1_3.length : Int) != 1) = true := bne_iff_ne.mpr c26
                    (first | rw [c26b0] | (simp only [i64_w, i32_w]; rw [c26b0]) | skip)
                    have H' := Aside0.mk H
                    clear H
                    have hcz28_0 : wc.cell? ⟨gb107, 0, none⟩ = some (.int .i64 a1_0) := (blk_cell BK107.out 0).trans rfl
                    have hcz28_1 : wc.cell? ⟨gb107, 1, none⟩ = some (.int .i64 a1_1) := (blk_cell BK107.out 1).trans rfl
                    have hcz28_2 : wc.cell? ⟨gb107, 2, none⟩ = some (.string a1_2) := (blk_cell BK107.out 2).trans rfl
                    have hcz28_3 : wc.cell? ⟨gb107, 3, none⟩ = some (.slice A1_3 l1_3.length c1_3) := (blk_cell BK107.out 3).trans rfl
                    have hfz28_0 := blk_frozen BK107.out 0
                    have hfz28_1 := blk_frozen BK107.out 1
                    have hfz28_2 := blk_frozen BK107.out 2
                    have hfz28_3 := blk_frozen BK107.out 3
                    go_wp2
                    repeat (go_quiet (fail); try go_wp2)
                    go_meet
                    case rel => exact ⟨_, (true), (by first | rfl | (simp; done) | (simp [*]; done)), H', ⟨by have := HJ2.out; have := HJ12.out; first | omega | exact Nat.le_refl _⟩, ⟨by (with_reducible repeat (first | refine blk_drewN ?_ _ | refine blk_drew ?_ | refine blk_alloc ?_ _)); exact BK107.out⟩, ⟨by repeat (first | (with_reducible first | exact HB.out | apply below_alloc | apply pw_below_drewN | apply below_drew1 | refine below_set ?_ GE107.out) | exact HB.out)⟩⟩
                case rest =>
                  clear HC25
                  try clear c1
                  try clear p1
                  try clear q1
                  try clear hx1
                  try clear c2
                  try clear p2
                  try clear c6
                  try clear c6b0
                  try clear c6b1
                  try clear c7
                  try clear c7b0
                  try clear c7b1
                  try clear c8
                  try clear c8b0
                  try clear c8b1
                  try clear c9
                  try clear c11
                  try clear p11
                  try clear q11
                  try clear hx11
                  try clear c14
                  try clear c14b0
                  try clear c14b1
                  try clear c15
                  try clear c17
                  try clear c17b0
                  try clear c20
                  try clear c20b0
                  try clear c21
                  try clear c21b0
                  try clear c23
                  try clear c24
                  try clear c24b0
                  try clear c24b1
                  try clear c26
                  try clear c26b0
                  try clear c26b1
                  try clear hcz11_0
                  try clear hcz11_1
                  try clear hcz11_2
                  try clear hcz11_3
                  try clear hcz18_0
                  try clear hcz18_1
                  try clear hcz18_2
                  try clear hcz18_3
                  try clear hcz22_0
                  try clear hcz22_1
                  try clear hcz22_2
                  try clear hcz22_3
                  try clear hcz27_0
                  try clear hcz27_1
                  try clear hcz27_2
                  try clear hcz27_3
                  try clear hcz28_0
                  try clear hcz28_1
                  try clear hcz28_2
                  try clear hcz28_3
                  try clear hcz5_0
                  try clear hcz5_1
                  try clear hcz5_2
                  try clear hcz5_3
                  try clear hfz11_0
                  try clear hfz11_1
                  try clear hfz11_2
                  try clear hfz11_3
                  try clear hfz18_0
                  try clear hfz18_1
                  try clear hfz18_2
                  try clear hfz18_3
                  try clear hfz22_0
                  try clear hfz22_1
                  try clear hfz22_2
                  try clear hfz22_3
                  try clear hfz27_0
                  try clear hfz27_1
                  try clear hfz27_2
                  try clear hfz27_3
                  try clear hfz28_0
                  try clear hfz28_1
                  try clear hfz28_2
                  try clear hfz28_3
                  try clear hfz5_0
                  try clear hfz5_1
                  try clear hfz5_2
                  try clear hfz5_3
                  try clear hx110_0
                  try clear hx110_1
                  try clear hx110_2
                  try clear hx110_3
                  try clear hx110_4
                  try clear hx110_5
                  try clear hx110_6
                  try clear hx111_0
                  try clear hx111_1
                  try clear hx111_2
                  try clear hx111_3
                  try clear hx111_4
                  try clear hx111_5
                  try clear hx111_6
                  try clear p110
                  try clear p111
                  try clear p2
                  try clear q110
                  try clear q111
                  obtain ⟨kq, x51_24, rfl, HA, HJ24, BK107, HB⟩ := hcut
                  cases kq with
                  | zero => exact absurd HA.out (by simp [crosstreeref05_Size.j2])
                  | succ kj24 =>
                    have H := HA.out
                    clear HA
                    simp only [crosstreeref05_Size.j2] at H
                    by_cases c29 : x51_24 = true
                    · subst c29
                      have H1 : (some (0, 0, 3)) = some (r1, r2, r3) := by rw [if_pos rfl] at H; exact H
                      clear H
                      have H := H1
                      clear H1
                      simp only [Option.some.injEq, Prod.mk.injEq] at H
                      obtain ⟨rfl, rfl, rfl⟩ := H
                      go_wp2
                      repeat (go_quiet (fail); try go_wp2)
                      go_ret3
                      exact ⟨by first | rfl | (simp [errW_none, errW_some] <;> rfl) | (simp [*, errW_none, errW_some] <;> rfl), by repeat (first | (with_reducible first | exact HB.out | apply below_alloc | apply pw_below_drewN | apply below_drew1 | refine below_set ?_ GE107.out) | exact HB.out)⟩
                    · replace c29 := Bool.eq_false_iff.mpr c29
                      subst c29
                      have H1 : (if 0 < (l1_3.length : Int) then ((crosstreeref05_Size.f kj24 l0 ((rd_T24 l1_3 0).f0) ((rd_T24 l1_3 0).f1) ((rd_T24 l1_3 0).f2) ((rd_T24 l1_3 0).f3)).bind fun bt113 => (if bt113.2.2 = 0 then (if bt113.1 > 0 then (if a1_1 > 4096 then (some (0, 0, 5)) else (if (wrap64 (bt113.1 * a1_1)) > 4096 then (some (0, 0, 5)) else (some (wrap64 (bt113.1 * a1_1), bt113.2.1, 0)))) else (if (wrap64 (bt113.1 * a1_1)) > 4096 then (some (0, 0, 5)) else (some (wrap64 (bt113.1 * a1_1), bt113.2.1, 0)))) else (some (0, 0, bt113.2.2)))) else (none)) = some (r1, r2, r3) := by rw [if_neg (show ¬ (false = true) by decide)] at H; exact H
                      clear H
                      have H := H1
                      clear H1
                      by_cases c30 : 0 < (l1_3.length : Int)
                      · rw [if_pos c30] at H
                        have c30b0 : decide (0 < (l1_3.length : Int)) = true := decide_eq_true c30
                        have c30b1 : decide (0 < l1_3.length) = true := decide_eq_true (by omega)
                        clear c30
                        replace H := Option.bind_eq_some_iff.mp H
                        obtain ⟨⟨t113, t114, t115⟩, A310, H⟩ := H
                        replace H : (if t115 = 0 then (if t113 > 0 then (if a1_1 > 4096 then (some (0, 0, 5)) else (if (wrap64 (t113 * a1_1)) > 4096 then (some (0, 0, 5)) else (some (wrap64 (t113 * a1_1), t114, 0)))) else (if (wrap64 (t113 * a1_1)) > 4096 then (some (0, 0, 5)) else (some (wrap64 (t113 * a1_1), t114, 0)))) else (some (0, 0, t115))) = some (r1, r2, r3) := H
                        have A31 := Aside0.mk A310
                        clear A310
                        by_cases c32 : t115 = 0
                        · rw [if_pos c32] at H
                          have c32b0 : (t115 == 0) = true := beq_iff_eq.mpr c32
                          have c32b1 : (t115 != 0) = false := bne_eq_false_iff_eq.mpr c32
                          clear c32
                          by_cases c33 : t113 > 0
                          · rw [if_pos c33] at H
                            have c33b0 : decide (0 < t113) = true := decide_eq_true c33
                            clear c33
                            by_cases c34 : a1_1 > 4096
                            · rw [if_pos c34] at H
                              have c34b0 : decide (4096 < a1_1) = true := decide_eq_true c34
                              clear c34
                              simp only [Option.some.injEq, Prod.mk.injEq] at H
                              obtain ⟨rfl, rfl, rfl⟩ := H
                              have hcz35_0 : wc.cell? ⟨gb107, 0, none⟩ = some (.int .i64 a1_0) := (blk_cell BK107.out 0).trans rfl
                              have hcz35_1 : wc.cell? ⟨gb107, 1, none⟩ = some (.int .i64 a1_1) := (blk_cell BK107.out 1).trans rfl
                              have hcz35_2 : wc.cell? ⟨gb107, 2, none⟩ = some (.string a1_2) := (blk_cell BK107.out 2).trans rfl
                              have hcz35_3 : wc.cell? ⟨gb107, 3, none⟩ = some (.slice A1_3 l1_3.length c1_3) := (blk_cell BK107.out 3).trans rfl
                              have hfz35_0 := blk_frozen BK107.out 0
                              have hfz35_1 := blk_frozen BK107.out 1
                              have hfz35_2 := blk_frozen BK107.out 2
                              have hfz35_3 := blk_frozen BK107.out 3
                              have p112 : 0 ≤ (0 : Int) := (by omega)
                              have q112 : 0 < (l1_3.length : Int) := of_decide_eq_true (by first | (with_reducible assumption) | assumption)
                              obtain ⟨ad112, A112_3, c112_3, e112, hx112_0, hx112_1, hx112_2, hx112_3, hl112_3, hi112_3⟩ := at_T24 HR1_3.out 0 p112 q112
                              cases e112
                              have qi112 : (0 < l1_3.length) = True := eq_true (by omega)
                              (try rw [show ((0 : Int)).toNat = 0 from rfl] at hx112_0)
                              (try rw [show 0 * 4 = 0 from rfl] at hx112_0)
                              (try rw [Addr.add_zero'] at hx112_0)
                              (try rw [show ((0 : Int)).toNat = 0 from rfl] at hx112_1)
                              (try rw [show 0 * 4 = 0 from rfl] at hx112_1)
                              (try rw [Addr.add_zero'] at hx112_1)
                              (try rw [show ((0 : Int)).toNat = 0 from rfl] at hx112_2)
                              (try rw [show 0 * 4 = 0 from rfl] at hx112_2)
                              (try rw [Addr.add_zero'] at hx112_2)
                              (try rw [show ((0 : Int)).toNat = 0 from rfl] at hx112_3)
                              (try rw [show 0 * 4 = 0 from rfl] at hx112_3)
                              (try rw [Addr.add_zero'] at hx112_3)
                              replace hx112_0 := (HB.out.cell (World.block_lt_of_cell? w _ hx112_0)).trans hx112_0
                              replace hx112_1 := (HB.out.cell (World.block_lt_of_cell? w _ hx112_1)).trans hx112_1
                              replace hx112_2 := (HB.out.cell (World.block_lt_of_cell? w _ hx112_2)).trans hx112_2
                              replace hx112_3 := (HB.out.cell (World.block_lt_of_cell? w _ hx112_3)).trans hx112_3
                              have HR112_3 := Aside0.mk hi112_3
                              have HC112_3 := Aside0.mk hl112_3
                              clear hi112_3 hl112_3
                              replace p112 := eq_true p112
                              replace q112 := eq_true q112
                              go_wp2_with (first | (go_at_call 23; (with_reducible refine (ih kj24 (by have := HJ2.out; have := HJ12.out; have := HJ24.out; omega) _ _ l0 ((rd_T24 l1_3 0).f0) ((rd_T24 l1_3 0).f1) ((rd_T24 l1_3 0).f2) _ _ ((rd_T24 l1_3 0).f3) t113 t114 t115 _ ?side1 ?side2 ?side3 ?side4 A31.out).mono ?_); (case side1 => repeat (first | exact (Kd.C_below HR0.out HB.out) | (with_reducible refine Kd.C_alloc ?_ _) | (with_reducible refine Kd.C_drewN ?_ _) | (with_reducible refine Kd.C_drew ?_))); (case side2 => exact HC0.out); (case side3 => repeat (first | exact (Kd.C_below HR112_3.out HB.out) | (with_reducible refine Kd.C_alloc ?_ _) | (with_reducible refine Kd.C_drewN ?_ _) | (with_reducible refine Kd.C_drew ?_))); (case side4 => exact HC112_3.out); rintro e w36 ⟨rfl, hb⟩; have n0_ := Aside0.mk (blk_below (g := gb107) (o := .cells #[.int .i64 a1_0, .int .i64 a1_1, .string a1_2, .slice (some ad112) l1_3.length c1_3] 24 (0, 0)) (by (with_reducible repeat (first | refine blk_drewN ?_ _ | refine blk_drew ?_ | refine blk_alloc ?_ _)); exact BK107.out) hb); have n1_ := Aside0.mk (below_step (by repeat (first | (with_reducible first | exact HB.out | apply below_alloc | apply pw_below_drewN | apply below_drew1 | refine below_set ?_ GE107.out) | exact HB.out)) hb); clear BK107; clear HB; have BK107 := n0_; have HB := n1_; clear n0_ n1_; (try clear hb); (try clear hb2); (try clear hk); (try clear hi); have hcz37_0 : w36.cell? ⟨gb107, 0, none⟩ = some (.int .i64 a1_0) := (blk_cell BK107.out 0).trans rfl; have hcz37_1 : w36.cell? ⟨gb107, 1, none⟩ = some (.int .i64 a1_1) := (blk_cell BK107.out 1).trans rfl; have hcz37_2 : w36.cell? ⟨gb107, 2, none⟩ = some (.string a1_2) := (blk_cell BK107.out 2).trans rfl; have hcz37_3 : w36.cell? ⟨gb107, 3, none⟩ = some (.slice (some ad112) l1_3.length c1_3) := (blk_cell BK107.out 3).trans rfl; have hfz37_0 := blk_frozen BK107.out 0; have hfz37_1 := blk_frozen BK107.out 1; have hfz37_2 := blk_frozen BK107.out 2; have hfz37_3 := blk_frozen BK107.out 3))
                              repeat (go_quiet (first | (go_at_call 23; (with_reducible refine (ih kj24 (by have := HJ2.out; have := HJ12.out; have := HJ24.out; omega) _ _ l0 ((rd_T24 l1_3 0).f0) ((rd_T24 l1_3 0).f1) ((rd_T24 l1_3 0).f2) _ _ ((rd_T24 l1_3 0).f3) t113 t114 t115 _ ?side1 ?side2 ?side3 ?side4 A31.out).mono ?_); (case side1 => repeat (first | exact (Kd.C_below HR0.out HB.out) | (with_reducible refine Kd.C_alloc ?_ _) | (with_reducible refine Kd.C_drewN ?_ _) | (with_reducible refine Kd.C_drew ?_))); (case side2 => exact HC0.out); (case side3 => repeat (first | exact (Kd.C_below HR112_3.out HB.out) | (with_reducible refine Kd.C_alloc ?_ _) | (with_reducible refine Kd.C_drewN ?_ _) | (with_reducible refine Kd.C_drew ?_))); (case side4 => exact HC112_3.out); rintro e w36 ⟨rfl, hb⟩; have n0_ := Aside0.mk (blk_below (g := gb107) (o := .cells #[.int .i64 a1_0, .int .i64 a1_1, .string a1_2, .slice (some ad112) l1_3.length c1_3] 24 (0, 0)) (by (with_reducible repeat (first | refine blk_drewN ?_ _ | refine blk_drew ?_ | refine blk_alloc ?_ _)); exact BK107.out) hb); have n1_ := Aside0.mk (below_step (by repeat (first | (with_reducible first | exact HB.out | apply below_alloc | apply pw_below_drewN | apply below_drew1 | refine below_set ?_ GE107.out) | exact HB.out)) hb); clear BK107; clear HB; have BK107 := n0_; have HB := n1_; clear n0_ n1_; (try clear hb); (try clear hb2); (try clear hk); (try clear hi); have hcz37_0 : w36.cell? ⟨gb107, 0, none⟩ = some (.int .i64 a1_0) := (blk_cell BK107.out 0).trans rfl; have hcz37_1 : w36.cell? ⟨gb107, 1, none⟩ = some (.int .i64 a1_1) := (blk_cell BK107.out 1).trans rfl; have hcz37_2 : w36.cell? ⟨gb107, 2, none⟩ = some (.string a1_2) := (blk_cell BK107.out 2).trans rfl; have hcz37_3 : w36.cell? ⟨gb107, 3, none⟩ = some (.slice (some ad112) l1_3.length c1_3) := (blk_cell BK107.out 3).trans rfl; have hfz37_0 := blk_frozen BK107.out 0; have hfz37_1 := blk_frozen BK107.out 1; have hfz37_2 := blk_frozen BK107.out 2; have hfz37_3 := blk_frozen BK107.out 3)); try go_wp2_with (first | (go_at_call 23; (with_reducible refine (ih kj24 (by have := HJ2.out; have := HJ12.out; have := HJ24.out; omega) _ _ l0 ((rd_T24 l1_3 0).f0) ((rd_T24 l1_3 0).f1) ((rd_T24 l1_3 0).f2) _ _ ((rd_T24 l1_3 0).f3) t113 t114 t115 _ ?side1 ?side2 ?side3 ?side4 A31.out).mono ?_); (case side1 => repeat (first | exact (Kd.C_below HR0.out HB.out) | (with_reducible refine Kd.C_alloc ?_ _) | (with_reducible refine Kd.C_drewN ?_ _) | (with_reducible refine Kd.C_drew ?_))); (case side2 => exact HC0.out); (case side3 => repeat (first | exact (Kd.C_below HR112_3.out HB.out) | (with_reducible refine Kd.C_alloc ?_ _) | (with_reducible refine Kd.C_drewN ?_ _) | (with_reducible refine Kd.C_drew ?_))); (case side4 => exact HC112_3.out); rintro e w36 ⟨rfl, hb⟩; have n0_ := Aside0.mk (blk_below (g := gb107) (o := .cells #[.int .i64 a1_0, .int .i64 a1_1, .string a1_2, .slice (some ad112) l1_3.length c1_3] 24 (0, 0)) (by (with_reducible repeat (first | refine blk_drewN ?_ _ | refine blk_drew ?_ | refine blk_alloc ?_ _)); exact BK107.out) hb); have n1_ := Aside0.mk (below_step (by repeat (first | (with_reducible first | exact HB.out | apply below_alloc | apply pw_below_drewN | apply below_drew1 | refine below_set ?_ GE107.out) | exact HB.out)) hb); clear BK107; clear HB; have BK107 := n0_; have HB := n1_; clear n0_ n1_; (try clear hb); (try clear hb2); (try clear hk); (try clear hi); have hcz37_0 : w36.cell? ⟨gb107, 0, none⟩ = some (.int .i64 a1_0) := (blk_cell BK107.out 0).trans rfl; have hcz37_1 : w36.cell? ⟨gb107, 1, none⟩ = some (.int .i64 a1_1) := (blk_cell BK107.out 1).trans rfl; have hcz37_2 : w36.cell? ⟨gb107, 2, none⟩ = some (.string a1_2) := (blk_cell BK107.out 2).trans rfl; have hcz37_3 : w36.cell? ⟨gb107, 3, none⟩ = some (.slice (some ad112) l1_3.length c1_3) := (blk_cell BK107.out 3).trans rfl; have hfz37_0 := blk_frozen BK107.out 0; have hfz37_1 := blk_frozen BK107.out 1; have hfz37_2 := blk_frozen BK107.out 2; have hfz37_3 := blk_frozen BK107.out 3)))
                              go_ret3
                              exact ⟨by first | rfl | (simp [errW_none, errW_some] <;> rfl) | (simp [*, errW_none, errW_some] <;> rfl), by repeat (first | (with_reducible first | exact HB.out | apply below_alloc | apply pw_below_drewN | apply below_drew1 | refine below_set ?_ GE107.out) | exact HB.out)⟩
                            · rw [if_neg c34] at H
                              have c34b0 : decide (4096 < a1_1) = false := decide_eq_false c34
                              clear c34
                              by_cases c38 : (wrap64 (t113 * a1_1)) > 4096
                              · rw [if_pos c38] at H
                                have c38b0 : decide (4096 < (wrap64 (t113 * a1_1))) = true := decide_eq_true c38
                                clear c38
                                simp only [Option.some.injEq, Prod.mk.injEq] at H
                                obtain ⟨rfl, rfl, rfl⟩ := H
                                have hcz39_0 : wc.cell? ⟨gb107, 0, none⟩ = some (.int .i64 a1_0) := (blk_cell BK107.out 0).trans rfl
                                have hcz39_1 : wc.cell? ⟨gb107, 1, none⟩ = some (.int .i64 a1_1) := (blk_cell BK107.out 1).trans rfl
                                have hcz39_2 : wc.cell? ⟨gb107, 2, none⟩ = some (.string a1_2) := (blk_cell BK107.out 2).trans rfl
                                have hcz39_3 : wc.cell? ⟨gb107, 3, none⟩ = some (.slice A1_3 l1_3.length c1_3) := (blk_cell BK107.out 3).trans rfl
                                have hfz39_0 := blk_frozen BK107.out 0
                                have hfz39_1 := blk_frozen BK107.out 1
                                have hfz39_2 := blk_frozen BK107.out 2
                                have hfz39_3 := blk_frozen BK107.out 3
                                have p112 : 0 ≤ (0 : Int) := (by omega)
                                have q112 : 0 < (l1_3.length : Int) := of_decide_eq_true (by first | (with_reducible assumption) | assumption)
                                obtain ⟨ad112, A112_3, c112_3, e112, hx112_0, hx112_1, hx112_2, hx112_3, hl112_3, hi112_3⟩ := at_T24 HR1_3.out 0 p112 q112
                                cases e112
                                have qi112 : (0 < l1_3.length) = True := eq_true (by omega)
                                (try rw [show ((0 : Int)).toNat = 0 from rfl] at hx112_0)
                                (try rw [show 0 * 4 = 0 from rfl] at hx112_0)
                                (try rw [Addr.add_zero'] at hx112_0)
                                (try rw [show ((0 : Int)).toNat = 0 from rfl] at hx112_1)
                                (try rw [show 0 * 4 = 0 from rfl] at hx112_1)
                                (try rw [Addr.add_zero'] at hx112_1)
                                (try rw [show ((0 : Int)).toNat = 0 from rfl] at hx112_2)
                                (try rw [show 0 * 4 = 0 from rfl] at hx112_2)
                                (try rw [Addr.add_zero'] at hx112_2)
                                (try rw [show ((0 : Int)).toNat = 0 from rfl] at hx112_3)
                                (try rw [show 0 * 4 = 0 from rfl] at hx112_3)
                                (try rw [Addr.add_zero'] at hx112_3)
                                replace hx112_0 := (HB.out.cell (World.block_lt_of_cell? w _ hx112_0)).trans hx112_0
                                replace hx112_1 := (HB.out.cell (World.block_lt_of_cell? w _ hx112_1)).trans hx112_1
                                replace hx112_2 := (HB.out.cell (World.block_lt_of_cell? w _ hx112_2)).trans hx112_2
                                replace hx112_3 := (HB.out.cell (World.block_lt_of_cell? w _ hx112_3)).trans hx112_3
                                have HR112_3 := Aside0.mk hi112_3
                                have HC112_3 := Aside0.mk hl112_3
                                clear hi112_3 hl112_3
                                replace p112 := eq_true p112
                                replace q112 := eq_true q112
                                go_wp2_with (first | (go_at_call 23; (with_reducible refine (ih kj24 (by have := HJ2.out; have := HJ12.out; have := HJ24.out; omega) _ _ l0 ((rd_T24 l1_3 0).f0) ((rd_T24 l1_3 0).f1) ((rd_T24 l1_3 0).f2) _ _ ((rd_T24 l1_3 0).f3) t113 t114 t115 _ ?side1 ?side2 ?side3 ?side4 A31.out).mono ?_); (case side1 => repeat (first | exact (Kd.C_below HR0.out HB.out) | (with_reducible refine Kd.C_alloc ?_ _) | (with_reducible refine Kd.C_drewN ?_ _) | (with_reducible refine Kd.C_drew ?_))); (case side2 => exact HC0.out); (case side3 => repeat (first | exact (Kd.C_below HR112_3.out HB.out) | (with_reducible refine Kd.C_alloc ?_ _) | (with_reducible refine Kd.C_drewN ?_ _) | (with_reducible refine Kd.C_drew ?_))); (case side4 => exact HC112_3.out); rintro e w40 ⟨rfl, hb⟩; have n0_ := Aside0.mk (blk_below (g := gb107) (o := .cells #[.int .i64 a1_0, .int .i64 a1_1, .string a1_2, .slice (some ad112) l1_3.length c1_3] 24 (0, 0)) (by (with_reducible repeat (first | refine blk_drewN ?_ _ | refine blk_drew ?_ | refine blk_alloc ?_ _)); exact BK107.out) hb); have n1_ := Aside0.mk (below_step (by repeat (first | (with_reducible first | exact HB.out | apply below_alloc | apply pw_below_drewN | apply below_drew1 | refine below_set ?_ GE107.out) | exact HB.out)) hb); clear BK107; clear HB; have BK107 := n0_; have HB := n1_; clear n0_ n1_; (try clear hb); (try clear hb2); (try clear hk); (try clear hi); have hcz41_0 : w40.cell? ⟨gb107, 0, none⟩ = some (.int .i64 a1_0) := (blk_cell BK107.out 0).trans rfl; have hcz41_1 : w40.cell? ⟨gb107, 1, none⟩ = some (.int .i64 a1_1) := (blk_cell BK107.out 1).trans rfl; have hcz41_2 : w40.cell? ⟨gb107, 2, none⟩ = some (.string a1_2) := (blk_cell BK107.out 2).trans rfl; have hcz41_3 : w40.cell? ⟨gb107, 3, none⟩ = some (.slice (some ad112) l1_3.length c1_3) := (blk_cell BK107.out 3).trans rfl; have hfz41_0 := blk_frozen BK107.out 0; have hfz41_1 := blk_frozen BK107.out 1; have hfz41_2 := blk_frozen BK107.out 2; have hfz41_3 := blk_frozen BK107.out 3))
                                repeat (go_quiet (first | (go_at_call 23; (with_reducible refine (ih kj24 (by have := HJ2.out; have := HJ12.out; have := HJ24.out; omega) _ _ l0 ((rd_T24 l1_3 0).f0) ((rd_T24 l1_3 0).f1) ((rd_T24 l1_3 0).f2) _ _ ((rd_T24 l1_3 0).f3) t113 t114 t115 _ ?side1 ?side2 ?side3 ?side4 A31.out).mono ?_); (case side1 => repeat (first | exact (Kd.C_below HR0.out HB.out) | (with_reducible refine Kd.C_alloc ?_ _) | (with_reducible refine Kd.C_drewN ?_ _) | (with_reducible refine Kd.C_drew ?_))); (case side2 => exact HC0.out); (case side3 => repeat (first | exact (Kd.C_below HR112_3.out HB.out) | (with_reducible refine Kd.C_alloc ?_ _) | (with_reducible refine Kd.C_drewN ?_ _) | (with_reducible refine Kd.C_drew ?_))); (case side4 => exact HC112_3.out); rintro e w40 ⟨rfl, hb⟩; have n0_ := Aside0.mk (blk_below (g := gb107) (o := .cells #[.int .i64 a1_0, .int .i64 a1_1, .string a1_2, .slice (some ad112) l1_3.length c1_3] 24 (0, 0)) (by (with_reducible repeat (first | refine blk_drewN ?_ _ | refine blk_drew ?_ | refine blk_alloc ?_ _)); exact BK107.out) hb); have n1_ := Aside0.mk (below_step (by repeat (first | (with_reducible first | exact HB.out | apply below_alloc | apply pw_below_drewN | apply below_drew1 | refine below_set ?_ GE107.out) | exact HB.out)) hb); clear BK107; clear HB; have BK107 := n0_; have HB := n1_; clear n0_ n1_; (try clear hb); (try clear hb2); (try clear hk); (try clear hi); have hcz41_0 : w40.cell? ⟨gb107, 0, none⟩ = some (.int .i64 a1_0) := (blk_cell BK107.out 0).trans rfl; have hcz41_1 : w40.cell? ⟨gb107, 1, none⟩ = some (.int .i64 a1_1) := (blk_cell BK107.out 1).trans rfl; have hcz41_2 : w40.cell? ⟨gb107, 2, none⟩ = some (.string a1_2) := (blk_cell BK107.out 2).trans rfl; have hcz41_3 : w40.cell? ⟨gb107, 3, none⟩ = some (.slice (some ad112) l1_3.length c1_3) := (blk_cell BK107.out 3).trans rfl; have hfz41_0 := blk_frozen BK107.out 0; have hfz41_1 := blk_frozen BK107.out 1; have hfz41_2 := blk_frozen BK107.out 2; have hfz41_3 := blk_frozen BK107.out 3)); try go_wp2_with (first | (go_at_call 23; (with_reducible refine (ih kj24 (by have := HJ2.out; have := HJ12.out; have := HJ24.out; omega) _ _ l0 ((rd_T24 l1_3 0).f0) ((rd_T24 l1_3 0).f1) ((rd_T24 l1_3 0).f2) _ _ ((rd_T24 l1_3 0).f3) t113 t114 t115 _ ?side1 ?side2 ?side3 ?side4 A31.out).mono ?_); (case side1 => repeat (first | exact (Kd.C_below HR0.out HB.out) | (with_reducible refine Kd.C_alloc ?_ _) | (with_reducible refine Kd.C_drewN ?_ _) | (with_reducible refine Kd.C_drew ?_))); (case side2 => exact HC0.out); (case side3 => repeat (first | exact (Kd.C_below HR112_3.out HB.out) | (with_reducible refine Kd.C_alloc ?_ _) | (with_reducible refine Kd.C_drewN ?_ _) | (with_reducible refine Kd.C_drew ?_))); (case side4 => exact HC112_3.out); rintro e w40 ⟨rfl, hb⟩; have n0_ := Aside0.mk (blk_below (g := gb107) (o := .cells #[.int .i64 a1_0, .int .i64 a1_1, .string a1_2, .slice (some ad112) l1_3.length c1_3] 24 (0, 0)) (by (with_reducible repeat (first | refine blk_drewN ?_ _ | refine blk_drew ?_ | refine blk_alloc ?_ _)); exact BK107.out) hb); have n1_ := Aside0.mk (below_step (by repeat (first | (with_reducible first | exact HB.out | apply below_alloc | apply pw_below_drewN | apply below_drew1 | refine below_set ?_ GE107.out) | exact HB.out)) hb); clear BK107; clear HB; have BK107 := n0_; have HB := n1_; clear n0_ n1_; (try clear hb); (try clear hb2); (try clear hk); (try clear hi); have hcz41_0 : w40.cell? ⟨gb107, 0, none⟩ = some (.int .i64 a1_0) := (blk_cell BK107.out 0).trans rfl; have hcz41_1 : w40.cell? ⟨gb107, 1, none⟩ = some (.int .i64 a1_1) := (blk_cell BK107.out 1).trans rfl; have hcz41_2 : w40.cell? ⟨gb107, 2, none⟩ = some (.string a1_2) := (blk_cell BK107.out 2).trans rfl; have hcz41_3 : w40.cell? ⟨gb107, 3, none⟩ = some (.slice (some ad112) l1_3.length c1_3) := (blk_cell BK107.out 3).trans rfl; have hfz41_0 := blk_frozen BK107.out 0; have hfz41_1 := blk_frozen BK107.out 1; have hfz41_2 := blk_frozen BK107.out 2; have hfz41_3 := blk_frozen BK107.out 3)))
                                go_ret3
                                exact ⟨by first | rfl | (simp [errW_none, errW_some] <;> rfl) | (simp [*, errW_none, errW_some] <;> rfl), by repeat (first | (with_reducible first | exact HB.out | apply below_alloc | apply pw_below_drewN | apply below_drew1 | refine below_set ?_ GE107.out) | exact HB.out)⟩
                              · rw [if_neg c38] at H
                                have c38b0 : decide (4096 < (wrap64 (t113 * a1_1))) = false := decide_eq_false c38
                                clear c38
                                simp only [Option.some.injEq, Prod.mk.injEq] at H
                                obtain ⟨rfl, rfl, rfl⟩ := H
                                have hcz42_0 : wc.cell? ⟨gb107, 0, none⟩ = some (.int .i64 a1_0) := (blk_cell BK107.out 0).trans rfl
                                have hcz42_1 : wc.cell? ⟨gb107, 1, none⟩ = some (.int .i64 a1_1) := (blk_cell BK107.out 1).trans rfl
                                have hcz42_2 : wc.cell? ⟨gb107, 2, none⟩ = some (.string a1_2) := (blk_cell BK107.out 2).trans rfl
                                have hcz42_3 : wc.cell? ⟨gb107, 3, none⟩ = some (.slice A1_3 l1_3.length c1_3) := (blk_cell BK107.out 3).trans rfl
                                have hfz42_0 := blk_frozen BK107.out 0
                                have hfz42_1 := blk_frozen BK107.out 1
                                have hfz42_2 := blk_frozen BK107.out 2
                                have hfz42_3 := blk_frozen BK107.out 3
                                have p112 : 0 ≤ (0 : Int) := (by omega)
                                have q112 : 0 < (l1_3.length : Int) := of_decide_eq_true (by first | (with_reducible assumption) | assumption)
                                obtain ⟨ad112, A112_3, c112_3, e112, hx112_0, hx112_1, hx112_2, hx112_3, hl112_3, hi112_3⟩ := at_T24 HR1_3.out 0 p112 q112
                                cases e112
                                have qi112 : (0 < l1_3.length) = True := eq_true (by omega)
                                (try rw [show ((0 : Int)).toNat = 0 from rfl] at hx112_0)
                                (try rw [show 0 * 4 = 0 from rfl] at hx112_0)
                                (try rw [Addr.add_zero'] at hx112_0)
                                (try rw [show ((0 : Int)).toNat = 0 from rfl] at hx112_1)
                                (try rw [show 0 * 4 = 0 from rfl] at hx112_1)
                                (try rw [Addr.add_zero'] at hx112_1)
                                (try rw [show ((0 : Int)).toNat = 0 from rfl] at hx112_2)
                                (try rw [show 0 * 4 = 0 from rfl] at hx112_2)
                                (try rw [Addr.add_zero'] at hx112_2)
                                (try rw [show ((0 : Int)).toNat = 0 from rfl] at hx112_3)
                                (try rw [show 0 * 4 = 0 from rfl] at hx112_3)
                                (try rw [Addr.add_zero'] at hx112_3)
                                replace hx112_0 := (HB.out.cell (World.block_lt_of_cell? w _ hx112_0)).trans hx112_0
                                replace hx112_1 := (HB.out.cell (World.block_lt_of_cell? w _ hx112_1)).trans hx112_1
                                replace hx112_2 := (HB.out.cell (World.block_lt_of_cell? w _ hx112_2)).trans hx112_2
                                replace hx112_3 := (HB.out.cell (World.block_lt_of_cell? w _ hx112_3)).trans hx112_3
                                have HR112_3 := Aside0.mk hi112_3
                                have HC112_3 := Aside0.mk hl112_3
                                clear hi112_3 hl112_3
                                replace p112 := eq_true p112
                                replace q112 := eq_true q112
                                go_wp2_with (first | (go_at_call 23; (with_reducible refine (ih kj24 (by have := HJ2.out; have := HJ12.out; have := HJ24.out; omega) _ _ l0 ((rd_T24 l1_3 0).f0) ((rd_T24 l1_3 0).f1) ((rd_T24 l1_3 0).f2) _ _ ((rd_T24 l1_3 0).f3) t113 t114 t115 _ ?side1 ?side2 ?side3 ?side4 A31.out).mono ?_); (case side1 => repeat (first | exact (Kd.C_below HR0.out HB.out) | (with_reducible refine Kd.C_alloc ?_ _) | (with_reducible refine Kd.C_drewN ?_ _) | (with_reducible refine Kd.C_drew ?_))); (case side2 => exact HC0.out); (case side3 => repeat (first | exact (Kd.C_below HR112_3.out HB.out) | (with_reducible refine Kd.C_alloc ?_ _) | (with_reducible refine Kd.C_drewN ?_ _) | (with_reducible refine Kd.C_drew ?_))); (case side4 => exact HC112_3.out); rintro e w43 ⟨rfl, hb⟩; have n0_ := Aside0.mk (blk_below (g := gb107) (o := .cells #[.int .i64 a1_0, .int .i64 a1_1, .string a1_2, .slice (some ad112) l1_3.length c1_3] 24 (0, 0)) (by (with_reducible repeat (first | refine blk_drewN ?_ _ | refine blk_drew ?_ | refine blk_alloc ?_ _)); exact BK107.out) hb); have n1_ := Aside0.mk (below_step (by repeat (first | (with_reducible first | exact HB.out | apply below_alloc | apply pw_below_drewN | apply below_drew1 | refine below_set ?_ GE107.out) | exact HB.out)) hb); clear BK107; clear HB; have BK107 := n0_; have HB := n1_; clear n0_ n1_; (try clear hb); (try clear hb2); (try clear hk); (try clear hi); have hcz44_0 : w43.cell? ⟨gb107, 0, none⟩ = some (.int .i64 a1_0) := (blk_cell BK107.out 0).trans rfl; have hcz44_1 : w43.cell? ⟨gb107, 1, none⟩ = some (.int .i64 a1_1) := (blk_cell BK107.out 1).trans rfl; have hcz44_2 : w43.cell? ⟨gb107, 2, none⟩ = some (.string a1_2) := (blk_cell BK107.out 2).trans rfl; have hcz44_3 : w43.cell? ⟨gb107, 3, none⟩ = some (.slice (some ad112) l1_3.length c1_3) := (blk_cell BK107.out 3).trans rfl; have hfz44_0 := blk_frozen BK107.out 0; have hfz44_1 := blk_frozen BK107.out 1; have hfz44_2 := blk_frozen BK107.out 2; have hfz44_3 := blk_frozen BK107.out 3))
                                repeat (go_quiet (first | (go_at_call 23; (with_reducible refine (ih kj24 (by have := HJ2.out; have := HJ12.out; have := HJ24.out; omega) _ _ l0 ((rd_T24 l1_3 0).f0) ((rd_T24 l1_3 0).f1) ((rd_T24 l1_3 0).f2) _ _ ((rd_T24 l1_3 0).f3) t113 t114 t115 _ ?side1 ?side2 ?side3 ?side4 A31.out).mono ?_); (case side1 => repeat (first | exact (Kd.C_below HR0.out HB.out) | (with_reducible refine Kd.C_alloc ?_ _) | (with_reducible refine Kd.C_drewN ?_ _) | (with_reducible refine Kd.C_drew ?_))); (case side2 => exact HC0.out); (case side3 => repeat (first | exact (Kd.C_below HR112_3.out HB.out) | (with_reducible refine Kd.C_alloc ?_ _) | (with_reducible refine Kd.C_drewN ?_ _) | (with_reducible refine Kd.C_drew ?_))); (case side4 => exact HC112_3.out); rintro e w43 ⟨rfl, hb⟩; have n0_ := Aside0.mk (blk_below (g := gb107) (o := .cells #[.int .i64 a1_0, .int .i64 a1_1, .string a1_2, .slice (some ad112) l1_3.length c1_3] 24 (0, 0)) (by (with_reducible repeat (first | refine blk_drewN ?_ _ | refine blk_drew ?_ | refine blk_alloc ?_ _)); exact BK107.out) hb); have n1_ := Aside0.mk (below_step (by repeat (first | (with_reducible first | exact HB.out | apply below_alloc | apply pw_below_drewN | apply below_drew1 | refine below_set ?_ GE107.out) | exact HB.out)) hb); clear BK107; clear HB; have BK107 := n0_; have HB := n1_; clear n0_ n1_; (try clear hb); (try clear hb2); (try clear hk); (try clear hi); have hcz44_0 : w43.cell? ⟨gb107, 0, none⟩ = some (.int .i64 a1_0) := (blk_cell BK107.out 0).trans rfl; have hcz44_1 : w43.cell? ⟨gb107, 1, none⟩ = some (.int .i64 a1_1) := (blk_cell BK107.out 1).trans rfl; have hcz44_2 : w43.cell? ⟨gb107, 2, none⟩ = some (.string a1_2) := (blk_cell BK107.out 2).trans rfl; have hcz44_3 : w43.cell? ⟨gb107, 3, none⟩ = some (.slice (some ad112) l1_3.length c1_3) := (blk_cell BK107.out 3).trans rfl; have hfz44_0 := blk_frozen BK107.out 0; have hfz44_1 := blk_frozen BK107.out 1; have hfz44_2 := blk_frozen BK107.out 2; have hfz44_3 := blk_frozen BK107.out 3)); try go_wp2_with (first | (go_at_call 23; (with_reducible refine (ih kj24 (by have := HJ2.out; have := HJ12.out; have := HJ24.out; omega) _ _ l0 ((rd_T24 l1_3 0).f0) ((rd_T24 l1_3 0).f1) ((rd_T24 l1_3 0).f2) _ _ ((rd_T24 l1_3 0).f3) t113 t114 t115 _ ?side1 ?side2 ?side3 ?side4 A31.out).mono ?_); (case side1 => repeat (first | exact (Kd.C_below HR0.out HB.out) | (with_reducible refine Kd.C_alloc ?_ _) | (with_reducible refine Kd.C_drewN ?_ _) | (with_reducible refine Kd.C_drew ?_))); (case side2 => exact HC0.out); (case side3 => repeat (first | exact (Kd.C_below HR112_3.out HB.out) | (with_reducible refine Kd.C_alloc ?_ _) | (with_reducible refine Kd.C_drewN ?_ _) | (with_reducible refine Kd.C_drew ?_))); (case side4 => exact HC112_3.out); rintro e w43 ⟨rfl, hb⟩; have n0_ := Aside0.mk (blk_below (g := gb107) (o := .cells #[.int .i64 a1_0, .int .i64 a1_1, .string a1_2, .slice (some ad112) l1_3.length c1_3] 24 (0, 0)) (by (with_reducible repeat (first | refine blk_drewN ?_ _ | refine blk_drew ?_ | refine blk_alloc ?_ _)); exact BK107.out) hb); have n1_ := Aside0.mk (below_step (by repeat (first | (with_reducible first | exact HB.out | apply below_alloc | apply pw_below_drewN | apply below_drew1 | refine below_set ?_ GE107.out) | exact HB.out)) hb); clear BK107; clear HB; have BK107 := n0_; have HB := n1_; clear n0_ n1_; (try clear hb); (try clear hb2); (try clear hk); (try clear hi); have hcz44_0 : w43.cell? ⟨gb107, 0, none⟩ = some (.int .i64 a1_0) := (blk_cell BK107.out 0).trans rfl; have hcz44_1 : w43.cell? ⟨gb107, 1, none⟩ = some (.int .i64 a1_1) := (blk_cell BK107.out 1).trans rfl; have hcz44_2 : w43.cell? ⟨gb107, 2, none⟩ = some (.string a1_2) := (blk_cell BK107.out 2).trans rfl; have hcz44_3 : w43.cell? ⟨gb107, 3, none⟩ = some (.slice (some ad112) l1_3.length c1_3) := (blk_cell BK107.out 3).trans rfl; have hfz44_0 := blk_frozen BK107.out 0; have hfz44_1 := blk_frozen BK107.out 1; have hfz44_2 := blk_frozen BK107.out 2; have hfz44_3 := blk_frozen BK107.out 3)))
                                go_ret3
                                exact ⟨by first | rfl | (simp [errW_none, errW_some] <;> rfl) | (simp [*, errW_none, errW_some] <;> rfl), by repeat (first | (with_reducible first | exact HB.out | apply below_alloc | apply pw_below_drewN | apply below_drew1 | refine below_set ?_ GE107.out) | exact HB.out)⟩
                          · rw [if_neg c33] at H
                            have c33b0 : decide (0 < t113) = false := decide_eq_false c33
                            clear c33
                            by_cases c45 : (wrap64 (t113 * a1_1)) > 4096
                            · rw [if_pos c45] at H
                              have c45b0 : decide (4096 < (wrap64 (t113 * a1_1))) = true := decide_eq_true c45
                              clear c45
                              simp only [Option.some.injEq, Prod.mk.injEq] at H
                              obtain ⟨rfl, rfl, rfl⟩ := H
                              have hcz46_0 : wc.cell? ⟨gb107, 0, none⟩ = some (.int .i64 a1_0) := (blk_cell BK107.out 0).trans rfl
                              have hcz46_1 : wc.cell? ⟨gb107, 1, none⟩ = some (.int .i64 a1_1) := (blk_cell BK107.out 1).trans rfl
                              have hcz46_2 : wc.cell? ⟨gb107, 2, none⟩ = some (.string a1_2) := (blk_cell BK107.out 2).trans rfl
                              have hcz46_3 : wc.cell? ⟨gb107, 3, none⟩ = some (.slice A1_3 l1_3.length c1_3) := (blk_cell BK107.out 3).trans rfl
                              have hfz46_0 := blk_frozen BK107.out 0
                              have hfz46_1 := blk_frozen BK107.out 1
                              have hfz46_2 := blk_frozen BK107.out 2
                              have hfz46_3 := blk_frozen BK107.out 3
                              have p112 : 0 ≤ (0 : Int) := (by omega)
                              have q112 : 0 < (l1_3.length : Int) := of_decide_eq_true (by first | (with_reducible assumption) | assumption)
                              obtain ⟨ad112, A112_3, c112_3, e112, hx112_0, hx112_1, hx112_2, hx112_3, hl112_3, hi112_3⟩ := at_T24 HR1_3.out 0 p112 q112
                              cases e112
                              have qi112 : (0 < l1_3.length) = True := eq_true (by omega)
                              (try rw [show ((0 : Int)).toNat = 0 from rfl] at hx112_0)
                              (try rw [show 0 * 4 = 0 from rfl] at hx112_0)
                              (try rw [Addr.add_zero'] at hx112_0)
                              (try rw [show ((0 : Int)).toNat = 0 from rfl] at hx112_1)
                              (try rw [show 0 * 4 = 0 from rfl] at hx112_1)
                              (try rw [Addr.add_zero'] at hx112_1)
                              (try rw [show ((0 : Int)).toNat = 0 from rfl] at hx112_2)
                              (try rw [show 0 * 4 = 0 from rfl] at hx112_2)
                              (try rw [Addr.add_zero'] at hx112_2)
                              (try rw [show ((0 : Int)).toNat = 0 from rfl] at hx112_3)
                              (try rw [show 0 * 4 = 0 from rfl] at hx112_3)
                              (try rw [Addr.add_zero'] at hx112_3)
                              replace hx112_0 := (HB.out.cell (World.block_lt_of_cell? w _ hx112_0)).trans hx112_0
                              replace hx112_1 := (HB.out.cell (World.block_lt_of_cell? w _ hx112_1)).trans hx112_1
                              replace hx112_2 := (HB.out.cell (World.block_lt_of_cell? w _ hx112_2)).trans hx112_2
                              replace hx112_3 := (HB.out.cell (World.block_lt_of_cell? w _ hx112_3)).trans hx112_3
                              have HR112_3 := Aside0.mk hi112_3
                              have HC112_3 := Aside0.mk hl112_3
                              clear hi112_3 hl112_3
                              replace p112 := eq_true p112
                              replace q112 := eq_true q112
                              go_wp2_with (first | (go_at_call 23; (with_reducible refine (ih kj24 (by have := HJ2.out; have := HJ12.out; have := HJ24.out; omega) _ _ l0 ((rd_T24 l1_3 0).f0) ((rd_T24 l1_3 0).f1) ((rd_T24 l1_3 0).f2) _ _ ((rd_T24 l1_3 0).f3) t113 t114 t115 _ ?side1 ?side2 ?side3 ?side4 A31.out).mono ?_); (case side1 => repeat (first | exact (Kd.C_below HR0.out HB.out) | (with_reducible refine Kd.C_alloc ?_ _) | (with_reducible refine Kd.C_drewN ?_ _) | (with_reducible refine Kd.C_drew ?_))); (case side2 => exact HC0.out); (case side3 => repeat (first | exact (Kd.C_below HR112_3.out HB.out) | (with_reducible refine Kd.C_alloc ?_ _) | (with_reducible refine Kd.C_drewN ?_ _) | (with_reducible refine Kd.C_drew ?_))); (case side4 => exact HC112_3.out); rintro e w47 ⟨rfl, hb⟩; have n0_ := Aside0.mk (blk_below (g := gb107) (o := .cells #[.int .i64 a1_0, .int .i64 a1_1, .string a1_2, .slice (some ad112) l1_3.length c1_3] 24 (0, 0)) (by (with_reducible repeat (first | refine blk_drewN ?_ _ | refine blk_drew ?_ | refine blk_alloc ?_ _)); exact BK107.out) hb); have n1_ := Aside0.mk (below_step (by repeat (first | (with_reducible first | exact HB.out | apply below_alloc | apply pw_below_drewN | apply below_drew1 | refine below_set ?_ GE107.out) | exact HB.out)) hb); clear BK107; clear HB; have BK107 := n0_; have HB := n1_; clear n0_ n1_; (try clear hb); (try clear hb2); (try clear hk); (try clear hi); have hcz48_0 : w47.cell? ⟨gb107, 0, none⟩ = some (.int .i64 a1_0) := (blk_cell BK107.out 0).trans rfl; have hcz48_1 : w47.cell? ⟨gb107, 1, none⟩ = some (.int .i64 a1_1) := (blk_cell BK107.out 1).trans rfl; have hcz48_2 : w47.cell? ⟨gb107, 2, none⟩ = some (.string a1_2) := (blk_cell BK107.out 2).trans rfl; have hcz48_3 : w47.cell? ⟨gb107, 3, none⟩ = some (.slice (some ad112) l1_3.length c1_3) := (blk_cell BK107.out 3).trans rfl; have hfz48_0 := blk_frozen BK107.out 0; have hfz48_1 := blk_frozen BK107.out 1; have hfz48_2 := blk_frozen BK107.out 2; have hfz48_3 := blk_frozen BK107.out 3))
                              repeat (go_quiet (first | (go_at_call 23; (with_reducible refine (ih kj24 (by have := HJ2.out; have := HJ12.out; have := HJ24.out; omega) _ _ l0 ((rd_T24 l1_3 0).f0) ((rd_T24 l1_3 0).f1) ((rd_T24 l1_3 0).f2) _ _ ((rd_T24 l1_3 0).f3) t113 t114 t115 _ ?side1 ?side2 ?side3 ?side4 A31.out).mono ?_); (case side1 => repeat (first | exact (Kd.C_below HR0.out HB.out) | (with_reducible refine Kd.C_alloc ?_ _) | (with_reducible refine Kd.C_drewN ?_ _) | (with_reducible refine Kd.C_drew ?_))); (case side2 => exact HC0.out); (case side3 => repeat (first | exact (Kd.C_below HR112_3.out HB.out) | (with_reducible refine Kd.C_alloc ?_ _) | (with_reducible refine Kd.C_drewN ?_ _) | (with_reducible refine Kd.C_drew ?_))); (case side4 => exact HC112_3.out); rintro e w47 ⟨rfl, hb⟩; have n0_ := Aside0.mk (blk_below (g := gb107) (o := .cells #[.int .i64 a1_0, .int .i64 a1_1, .string a1_2, .slice (some ad112) l1_3.length c1_3] 24 (0, 0)) (by (with_reducible repeat (first | refine blk_drewN ?_ _ | refine blk_drew ?_ | refine blk_alloc ?_ _)); exact BK107.out) hb); have n1_ := Aside0.mk (below_step (by repeat (first | (with_reducible first | exact HB.out | apply below_alloc | apply pw_below_drewN | apply below_drew1 | refine below_set ?_ GE107.out) | exact HB.out)) hb); clear BK107; clear HB; have BK107 := n0_; have HB := n1_; clear n0_ n1_; (try clear hb); (try clear hb2); (try clear hk); (try clear hi); have hcz48_0 : w47.cell? ⟨gb107, 0, none⟩ = some (.int .i64 a1_0) := (blk_cell BK107.out 0).trans rfl; have hcz48_1 : w47.cell? ⟨gb107, 1, none⟩ = some (.int .i64 a1_1) := (blk_cell BK107.out 1).trans rfl; have hcz48_2 : w47.cell? ⟨gb107, 2, none⟩ = some (.string a1_2) := (blk_cell BK107.out 2).trans rfl; have hcz48_3 : w47.cell? ⟨gb107, 3, none⟩ = some (.slice (some ad112) l1_3.length c1_3) := (blk_cell BK107.out 3).trans rfl; have hfz48_0 := blk_frozen BK107.out 0; have hfz48_1 := blk_frozen BK107.out 1; have hfz48_2 := blk_frozen BK107.out 2; have hfz48_3 := blk_frozen BK107.out 3)); try go_wp2_with (first | (go_at_call 23; (with_reducible refine (ih kj24 (by have := HJ2.out; have := HJ12.out; have := HJ24.out; omega) _ _ l0 ((rd_T24 l1_3 0).f0) ((rd_T24 l1_3 0).f1) ((rd_T24 l1_3 0).f2) _ _ ((rd_T24 l1_3 0).f3) t113 t114 t115 _ ?side1 ?side2 ?side3 ?side4 A31.out).mono ?_); (case side1 => repeat (first | exact (Kd.C_below HR0.out HB.out) | (with_reducible refine Kd.C_alloc ?_ _) | (with_reducible refine Kd.C_drewN ?_ _) | (with_reducible refine Kd.C_drew ?_))); (case side2 => exact HC0.out); (case side3 => repeat (first | exact (Kd.C_below HR112_3.out HB.out) | (with_reducible refine Kd.C_alloc ?_ _) | (with_reducible refine Kd.C_drewN ?_ _) | (with_reducible refine Kd.C_drew ?_))); (case side4 => exact HC112_3.out); rintro e w47 ⟨rfl, hb⟩; have n0_ := Aside0.mk (blk_below (g := gb107) (o := .cells #[.int .i64 a1_0, .int .i64 a1_1, .string a1_2, .slice (some ad112) l1_3.length c1_3] 24 (0, 0)) (by (with_reducible repeat (first | refine blk_drewN ?_ _ | refine blk_drew ?_ | refine blk_alloc ?_ _)); exact BK107.out) hb); have n1_ := Aside0.mk (below_step (by repeat (first | (with_reducible first | exact HB.out | apply below_alloc | apply pw_below_drewN | apply below_drew1 | refine below_set ?_ GE107.out) | exact HB.out)) hb); clear BK107; clear HB; have BK107 := n0_; have HB := n1_; clear n0_ n1_; (try clear hb); (try clear hb2); (try clear hk); (try clear hi); have hcz48_0 : w47.cell? ⟨gb107, 0, none⟩ = some (.int .i64 a1_0) := (blk_cell BK107.out 0).trans rfl; have hcz48_1 : w47.cell? ⟨gb107, 1, none⟩ = some (.int .i64 a1_1) := (blk_cell BK107.out 1).trans rfl; have hcz48_2 : w47.cell? ⟨gb107, 2, none⟩ = some (.string a1_2) := (blk_cell BK107.out 2).trans rfl; have hcz48_3 : w47.cell? ⟨gb107, 3, none⟩ = some (.slice (some ad112) l1_3.length c1_3) := (blk_cell BK107.out 3).trans rfl; have hfz48_0 := blk_frozen BK107.out 0; have hfz48_1 := blk_frozen BK107.out 1; have hfz48_2 := blk_frozen BK107.out 2; have hfz48_3 := blk_frozen BK107.out 3)))
                              go_ret3
                              exact ⟨by first | rfl | (simp [errW_none, errW_some] <;> rfl) | (simp [*, errW_none, errW_some] <;> rfl), by repeat (first | (with_reducible first | exact HB.out | apply below_alloc | apply pw_below_drewN | apply below_drew1 | refine below_set ?_ GE107.out) | exact HB.out)⟩
                            · rw [if_neg c45] at H
                              have c45b0 : decide (4096 < (wrap64 (t113 * a1_1))) = false := decide_eq_false c45
                              clear c45
                              simp only [Option.some.injEq, Prod.mk.injEq] at H
                              obtain ⟨rfl, rfl, rfl⟩ := H
                              have hcz49_0 : wc.cell? ⟨gb107, 0, none⟩ = some (.int .i64 a1_0) := (blk_cell BK107.out 0).trans rfl
                              have hcz49_1 : wc.cell? ⟨gb107, 1, none⟩ = some (.int .i64 a1_1) := (blk_cell BK107.out 1).trans rfl
                              have hcz49_2 : wc.cell? ⟨gb107, 2, none⟩ = some (.string a1_2) := (blk_cell BK107.out 2).trans rfl
                              have hcz49_3 : wc.cell? ⟨gb107, 3, none⟩ = some (.slice A1_3 l1_3.length c1_3) := (blk_cell BK107.out 3).trans rfl
                              have hfz49_0 := blk_frozen BK107.out 0
                              have hfz49_1 := blk_frozen BK107.out 1
                              have hfz49_2 := blk_frozen BK107.out 2
                              have hfz49_3 := blk_frozen BK107.out 3
                              have p112 : 0 ≤ (0 : Int) := (by omega)
                              have q112 : 0 < (l1_3.length : Int) := of_decide_eq_true (by first | (with_reducible assumption) | assumption)
                              obtain ⟨ad112, A112_3, c112_3, e112, hx112_0, hx112_1, hx112_2, hx112_3, hl112_3, hi112_3⟩ := at_T24 HR1_3.out 0 p112 q112
                              cases e112
                              have qi112 : (0 < l1_3.length) = True := eq_true (by omega)
                              (try rw [show ((0 : Int)).toNat = 0 from rfl] at hx112_0)
                              (try rw [show 0 * 4 = 0 from rfl] at hx112_0)
                              (try rw [Addr.add_zero'] at hx112_0)
                              (try rw [show ((0 : Int)).toNat = 0 from rfl] at hx112_1)
                              (try rw [show 0 * 4 = 0 from rfl] at hx112_1)
                              (try rw [Addr.add_zero'] at hx112_1)
                              (try rw [show ((0 : Int)).toNat = 0 from rfl] at hx112_2)
                              (try rw [show 0 * 4 = 0 from rfl] at hx112_2)
                              (try rw [Addr.add_zero'] at hx112_2)
                              (try rw [show ((0 : Int)).toNat = 0 from rfl] at hx112_3)
                              (try rw [show 0 * 4 = 0 from rfl] at hx112_3)
                              (try rw [Addr.add_zero'] at hx112_3)
                              replace hx112_0 := (HB.out.cell (World.block_lt_of_cell? w _ hx112_0)).trans hx112_0
                              replace hx112_1 := (HB.out.cell (World.block_lt_of_cell? w _ hx112_1)).trans hx112_1
                              replace hx112_2 := (HB.out.cell (World.block_lt_of_cell? w _ hx112_2)).trans hx112_2
                              replace hx112_3 := (HB.out.cell (World.block_lt_of_cell? w _ hx112_3)).trans hx112_3
                              have HR112_3 := Aside0.mk hi112_3
                              have HC112_3 := Aside0.mk hl112_3
                              clear hi112_3 hl112_3
                              replace p112 := eq_true p112
                              replace q112 := eq_true q112
                              go_wp2_with (first | (go_at_call 23; (with_reducible refine (ih kj24 (by have := HJ2.out; have := HJ12.out; have := HJ24.out; omega) _ _ l0 ((rd_T24 l1_3 0).f0) ((rd_T24 l1_3 0).f1) ((rd_T24 l1_3 0).f2) _ _ ((rd_T24 l1_3 0).f3) t113 t114 t115 _ ?side1 ?side2 ?side3 ?side4 A31.out).mono ?_); (case side1 => repeat (first | exact (Kd.C_below HR0.out HB.out) | (with_reducible refine Kd.C_alloc ?_ _) | (with_reducible refine Kd.C_drewN ?_ _) | (with_reducible refine Kd.C_drew ?_))); (case side2 => exact HC0.out); (case side3 => repeat (first | exact (Kd.C_below HR112_3.out HB.out) | (with_reducible refine Kd.C_alloc ?_ _) | (with_reducible refine Kd.C_drewN ?_ _) | (with_reducible refine Kd.C_drew ?_))); (case side4 => exact HC112_3.out); rintro e w50 ⟨rfl, hb⟩; have n0_ := Aside0.mk (blk_below (g := gb107) (o := .cells #[.int .i64 a1_0, .int .i64 a1_1, .string a1_2, .slice (some ad112) l1_3.length c1_3] 24 (0, 0)) (by (with_reducible repeat (first | refine blk_drewN ?_ _ | refine blk_drew ?_ | refine blk_alloc ?_ _)); exact BK107.out) hb); have n1_ := Aside0.mk (below_step (by repeat (first | (with_reducible first | exact HB.out | apply below_alloc | apply pw_below_drewN | apply below_drew1 | refine below_set ?_ GE107.out) | exact HB.out)) hb); clear BK107; clear HB; have BK107 := n0_; have HB := n1_; clear n0_ n1_; (try clear hb); (try clear hb2); (try clear hk); (try clear hi); have hcz51_0 : w50.cell? ⟨gb107, 0, none⟩ = some (.int .i64 a1_0) := (blk_cell BK107.out 0).trans rfl; have hcz51_1 : w50.cell? ⟨gb107, 1, none⟩ = some (.int .i64 a1_1) := (blk_cell BK107.out 1).trans rfl; have hcz51_2 : w50.cell? ⟨gb107, 2, none⟩ = some (.string a1_2) := (blk_cell BK107.out 2).trans rfl; have hcz51_3 : w50.cell? ⟨gb107, 3, none⟩ = some (.slice (some ad112) l1_3.length c1_3) := (blk_cell BK107.out 3).trans rfl; have hfz51_0 := blk_frozen BK107.out 0; have hfz51_1 := blk_frozen BK107.out 1; have hfz51_2 := blk_frozen BK107.out 2; have hfz51_3 := blk_frozen BK107.out 3))
                              repeat (go_quiet (first | (go_at_call 23; (with_reducible refine (ih kj24 (by have := HJ2.out; have := HJ12.out; have := HJ24.out; omega) _ _ l0 ((rd_T24 l1_3 0).f0) ((rd_T24 l1_3 0).f1) ((rd_T24 l1_3 0).f2) _ _ ((rd_T24 l1_3 0).f3) t113 t114 t115 _ ?side1 ?side2 ?side3 ?side4 A31.out).mono ?_); (case side1 => repeat (first | exact (Kd.C_below HR0.out HB.out) | (with_reducible refine Kd.C_alloc ?_ _) | (with_reducible refine Kd.C_drewN ?_ _) | (with_reducible refine Kd.C_drew ?_))); (case side2 => exact HC0.out); (case side3 => repeat (first | exact (Kd.C_below HR112_3.out HB.out) | (with_reducible refine Kd.C_alloc ?_ _) | (with_reducible refine Kd.C_drewN ?_ _) | (with_reducible refine Kd.C_drew ?_))); (case side4 => exact HC112_3.out); rintro e w50 ⟨rfl, hb⟩; have n0_ := Aside0.mk (blk_below (g := gb107) (o := .cells #[.int .i64 a1_0, .int .i64 a1_1, .string a1_2, .slice (some ad112) l1_3.length c1_3] 24 (0, 0)) (by (with_reducible repeat (first | refine blk_drewN ?_ _ | refine blk_drew ?_ | refine blk_alloc ?_ _)); exact BK107.out) hb); have n1_ := Aside0.mk (below_step (by repeat (first | (with_reducible first | exact HB.out | apply below_alloc | apply pw_below_drewN | apply below_drew1 | refine below_set ?_ GE107.out) | exact HB.out)) hb); clear BK107; clear HB; have BK107 := n0_; have HB := n1_; clear n0_ n1_; (try clear hb); (try clear hb2); (try clear hk); (try clear hi); have hcz51_0 : w50.cell? ⟨gb107, 0, none⟩ = some (.int .i64 a1_0) := (blk_cell BK107.out 0).trans rfl; have hcz51_1 : w50.cell? ⟨gb107, 1, none⟩ = some (.int .i64 a1_1) := (blk_cell BK107.out 1).trans rfl; have hcz51_2 : w50.cell? ⟨gb107, 2, none⟩ = some (.string a1_2) := (blk_cell BK107.out 2).trans rfl; have hcz51_3 : w50.cell? ⟨gb107, 3, none⟩ = some (.slice (some ad112) l1_3.length c1_3) := (blk_cell BK107.out 3).trans rfl; have hfz51_0 := blk_frozen BK107.out 0; have hfz51_1 := blk_frozen BK107.out 1; have hfz51_2 := blk_frozen BK107.out 2; have hfz51_3 := blk_frozen BK107.out 3)); try go_wp2_with (first | (go_at_call 23; (with_reducible refine (ih kj24 (by have := HJ2.out; have := HJ12.out; have := HJ24.out; omega) _ _ l0 ((rd_T24 l1_3 0).f0) ((rd_T24 l1_3 0).f1) ((rd_T24 l1_3 0).f2) _ _ ((rd_T24 l1_3 0).f3) t113 t114 t115 _ ?side1 ?side2 ?side3 ?side4 A31.out).mono ?_); (case side1 => repeat (first | exact (Kd.C_below HR0.out HB.out) | (with_reducible refine Kd.C_alloc ?_ _) | (with_reducible refine Kd.C_drewN ?_ _) | (with_reducible refine Kd.C_drew ?_))); (case side2 => exact HC0.out); (case side3 => repeat (first | exact (Kd.C_below HR112_3.out HB.out) | (with_reducible refine Kd.C_alloc ?_ _) | (with_reducible refine Kd.C_drewN ?_ _) | (with_reducible refine Kd.C_drew ?_))); (case side4 => exact HC112_3.out); rintro e w50 ⟨rfl, hb⟩; have n0_ := Aside0.mk (blk_below (g := gb107) (o := .cells #[.int .i64 a1_0, .int .i64 a1_1, .string a1_2, .slice (some ad112) l1_3.length c1_3] 24 (0, 0)) (by (with_reducible repeat (first | refine blk_drewN ?_ _ | refine blk_drew ?_ | refine blk_alloc ?_ _)); exact BK107.out) hb); have n1_ := Aside0.mk (below_step (by repeat (first | (with_reducible first | exact HB.out | apply below_alloc | apply pw_below_drewN | apply below_drew1 | refine below_set ?_ GE107.out) | exact HB.out)) hb); clear BK107; clear HB; have BK107 := n0_; have HB := n1_; clear n0_ n1_; (try clear hb); (try clear hb2); (try clear hk); (try clear hi); have hcz51_0 : w50.cell? ⟨gb107, 0, none⟩ = some (.int .i64 a1_0) := (blk_cell BK107.out 0).trans rfl; have hcz51_1 : w50.cell? ⟨gb107, 1, none⟩ = some (.int .i64 a1_1) := (blk_cell BK107.out 1).trans rfl; have hcz51_2 : w50.cell? ⟨gb107, 2, none⟩ = some (.string a1_2) := (blk_cell BK107.out 2).trans rfl; have hcz51_3 : w50.cell? ⟨gb107, 3, none⟩ = some (.slice (some ad112) l1_3.length c1_3) := (blk_cell BK107.out 3).trans rfl; have hfz51_0 := blk_frozen BK107.out 0; have hfz51_1 := blk_frozen BK107.out 1; have hfz51_2 := blk_frozen BK107.out 2; have hfz51_3 := blk_frozen BK107.out 3)))
                              go_ret3
                              exact ⟨by first | rfl | (simp [errW_none, errW_some] <;> rfl) | (simp [*, errW_none, errW_some] <;> rfl), by repeat (first | (with_reducible first | exact HB.out | apply below_alloc | apply pw_below_drewN | apply below_drew1 | refine below_set ?_ GE107.out) | exact HB.out)⟩
                        · rw [if_neg c32] at H
                          have c32b0 : (t115 == 0) = false := beq_eq_false_iff_ne.mpr c32
                          have c32b1 : (t115 != 0) = true := bne_iff_ne.mpr c32
                          simp only [Option.some.injEq, Prod.mk.injEq] at H
                          obtain ⟨rfl, rfl, rfl⟩ := H
                          have hcz52_0 : wc.cell? ⟨gb107, 0, none⟩ = some (.int .i64 a1_0) := (blk_cell BK107.out 0).trans rfl
                          have hcz52_1 : wc.cell? ⟨gb107, 1, none⟩ = some (.int .i64 a1_1) := (blk_cell BK107.out 1).trans rfl
                          have hcz52_2 : wc.cell? ⟨gb107, 2, none⟩ = some (.string a1_2) := (blk_cell BK107.out 2).trans rfl
                          have hcz52_3 : wc.cell? ⟨gb107, 3, none⟩ = some (.slice A1_3 l1_3.length c1_3) := (blk_cell BK107.out 3).trans rfl
                          have hfz52_0 := blk_frozen BK107.out 0
                          have hfz52_1 := blk_frozen BK107.out 1
                          have hfz52_2 := blk_frozen BK107.out 2
                          have hfz52_3 := blk_frozen BK107.out 3
                          have p112 : 0 ≤ (0 : Int) := (by omega)
                          have q112 : 0 < (l1_3.length : Int) := of_decide_eq_true (by first | (with_reducible assumption) | assumption)
                          obtain ⟨ad112, A112_3, c112_3, e112, hx112_0, hx112_1, hx112_2, hx112_3, hl112_3, hi112_3⟩ := at_T24 HR1_3.out 0 p112 q112
                          cases e112
                          have qi112 : (0 < l1_3.length) = True := eq_true (by omega)
                          (try rw [show ((0 : Int)).toNat = 0 from rfl] at hx112_0)
                          (try rw [show 0 * 4 = 0 from rfl] at hx112_0)
                          (try rw [Addr.add_zero'] at hx112_0)
                          (try rw [show ((0 : Int)).toNat = 0 from rfl] at hx112_1)
                          (try rw [show 0 * 4 = 0 from rfl] at hx112_1)
                          (try rw [Addr.add_zero'] at hx112_1)
                          (try rw [show ((0 : Int)).toNat = 0 from rfl] at hx112_2)
                          (try rw [show 0 * 4 = 0 from rfl] at hx112_2)
                          (try rw [Addr.add_zero'] at hx112_2)
                          (try rw [show ((0 : Int)).toNat = 0 from rfl] at hx112_3)
                          (try rw [show 0 * 4 = 0 from rfl] at hx112_3)
                          (try rw [Addr.add_zero'] at hx112_3)
                          replace hx112_0 := (HB.out.cell (World.block_lt_of_cell? w _ hx112_0)).trans hx112_0
                          replace hx112_1 := (HB.out.cell (World.block_lt_of_cell? w _ hx112_1)).trans hx112_1
                          replace hx112_2 := (HB.out.cell (World.block_lt_of_cell? w _ hx112_2)).trans hx112_2
                          replace hx112_3 := (HB.out.cell (World.block_lt_of_cell? w _ hx112_3)).trans hx112_3
                          have HR112_3 := Aside0.mk hi112_3
                          have HC112_3 := Aside0.mk hl112_3
                          clear hi112_3 hl112_3
                          replace p112 := eq_true p112
                          replace q112 := eq_true q112
                          go_wp2_with (first | (go_at_call 23; (with_reducible refine (ih kj24 (by have := HJ2.out; have := HJ12.out; have := HJ24.out; omega) _ _ l0 ((rd_T24 l1_3 0).f0) ((rd_T24 l1_3 0).f1) ((rd_T24 l1_3 0).f2) _ _ ((rd_T24 l1_3 0).f3) t113 t114 t115 _ ?side1 ?side2 ?side3 ?side4 A31.out).mono ?_); (case side1 => repeat (first | exact (Kd.C_below HR0.out HB.out) | (with_reducible refine Kd.C_alloc ?_ _) | (with_reducible refine Kd.C_drewN ?_ _) | (with_reducible refine Kd.C_drew ?_))); (case side2 => exact HC0.out); (case side3 => repeat (first | exact (Kd.C_below HR112_3.out HB.out) | (with_reducible refine Kd.C_alloc ?_ _) | (with_reducible refine Kd.C_drewN ?_ _) | (with_reducible refine Kd.C_drew ?_))); (case side4 => exact HC112_3.out); rintro e w53 ⟨rfl, hb⟩; have n0_ := Aside0.mk (blk_below (g := gb107) (o := .cells #[.int .i64 a1_0, .int .i64 a1_1, .string a1_2, .slice (some ad112) l1_3.length c1_3] 24 (0, 0)) (by (with_reducible repeat (first | refine blk_drewN ?_ _ | refine blk_drew ?_ | refine blk_alloc ?_ _)); exact BK107.out) hb); have n1_ := Aside0.mk (below_step (by repeat (first | (with_reducible first | exact HB.out | apply below_alloc | apply pw_below_drewN | apply below_drew1 | refine below_set ?_ GE107.out) | exact HB.out)) hb); clear BK107; clear HB; have BK107 := n0_; have HB := n1_; clear n0_ n1_; (try clear hb); (try clear hb2); (try clear hk); (try clear hi)))
                          repeat (go_quiet (first | (go_at_call 23; (with_reducible refine (ih kj24 (by have := HJ2.out; have := HJ12.out; have := HJ24.out; omega) _ _ l0 ((rd_T24 l1_3 0).f0) ((rd_T24 l1_3 0).f1) ((rd_T24 l1_3 0).f2) _ _ ((rd_T24 l1_3 0).f3) t113 t114 t115 _ ?side1 ?side2 ?side3 ?side4 A31.out).mono ?_); (case side1 => repeat (first | exact (Kd.C_below HR0.out HB.out) | (with_reducible refine Kd.C_alloc ?_ _) | (with_reducible refine Kd.C_drewN ?_ _) | (with_reducible refine Kd.C_drew ?_))); (case side2 => exact HC0.out); (case side3 => repeat (first | exact (Kd.C_below HR112_3.out HB.out) | (with_reducible refine Kd.C_alloc ?_ _) | (with_reducible refine Kd.C_drewN ?_ _) | (with_reducible refine Kd.C_drew ?_))); (case side4 => exact HC112_3.out); rintro e w53 ⟨rfl, hb⟩; have n0_ := Aside0.mk (blk_below (g := gb107) (o := .cells #[.int .i64 a1_0, .int .i64 a1_1, .string a1_2, .slice (some ad112) l1_3.length c1_3] 24 (0, 0)) (by (with_reducible repeat (first | refine blk_drewN ?_ _ | refine blk_drew ?_ | refine blk_alloc ?_ _)); exact BK107.out) hb); have n1_ := Aside0.mk (below_step (by repeat (first | (with_reducible first | exact HB.out | apply below_alloc | apply pw_below_drewN | apply below_drew1 | refine below_set ?_ GE107.out) | exact HB.out)) hb); clear BK107; clear HB; have BK107 := n0_; have HB := n1_; clear n0_ n1_; (try clear hb); (try clear hb2); (try clear hk); (try clear hi))); try go_wp2_with (first | (go_at_call 23; (with_reducible refine (ih kj24 (by have := HJ2.out; have := HJ12.out; have := HJ24.out; omega) _ _ l0 ((rd_T24 l1_3 0).f0) ((rd_T24 l1_3 0).f1) ((rd_T24 l1_3 0).f2) _ _ ((rd_T24 l1_3 0).f3) t113 t114 t115 _ ?side1 ?side2 ?side3 ?side4 A31.out).mono ?_); (case side1 => repeat (first | exact (Kd.C_below HR0.out HB.out) | (with_reducible refine Kd.C_alloc ?_ _) | (with_reducible refine Kd.C_drewN ?_ _) | (with_reducible refine Kd.C_drew ?_))); (case side2 => exact HC0.out); (case side3 => repeat (first | exact (Kd.C_below HR112_3.out HB.out) | (with_reducible refine Kd.C_alloc ?_ _) | (with_reducible refine Kd.C_drewN ?_ _) | (with_reducible refine Kd.C_drew ?_))); (case side4 => exact HC112_3.out); rintro e w53 ⟨rfl, hb⟩; have n0_ := Aside0.mk (blk_below (g := gb107) (o := .cells #[.int .i64 a1_0, .int .i64 a1_1, .string a1_2, .slice (some ad112) l1_3.length c1_3] 24 (0, 0)) (by (with_reducible repeat (first | refine blk_drewN ?_ _ | refine blk_drew ?_ | refine blk_alloc ?_ _)); exact BK107.out) hb); have n1_ := Aside0.mk (below_step (by repeat (first | (with_reducible first | exact HB.out | apply below_alloc | apply pw_below_drewN | apply below_drew1 | refine below_set ?_ GE107.out) | exact HB.out)) hb); clear BK107; clear HB; have BK107 := n0_; have HB := n1_; clear n0_ n1_; (try clear hb); (try clear hb2); (try clear hk); (try clear hi))))
                          go_ret3
                          exact ⟨by first | rfl | (simp [errW_none, errW_some] <;> rfl) | (simp [*, errW_none, errW_some] <;> rfl), by repeat (first | (with_reducible first | exact HB.out | apply below_alloc | apply pw_below_drewN | apply below_drew1 | refine below_set ?_ GE107.out) | exact HB.out)⟩
                      · rw [if_neg c30] at H
                        exact absurd H (by simp)
              · rw [if_neg c24] at H
                have c24b0 : (a1_0 == 6) = false := beq_eq_false_iff_ne.mpr c24
                have c24b1 : (a1_0 != 6) = true := bne_iff_ne.mpr c24
                simp only [Option.some.injEq, Prod.mk.injEq] at H
                obtain ⟨rfl, rfl, rfl⟩ := H
                go_wp2
                repeat (go_quiet (fail); try go_wp2)
                go_ret3
                exact ⟨by first | rfl | (simp [errW_none, errW_some] <;> rfl) | (simp [*, errW_none, errW_some] <;> rfl), by repeat (first | (with_reducible first | exact HB.out | apply below_alloc | apply pw_below_drewN | apply below_drew1 | refine below_set ?_ GE107.out) | exact HB.out)⟩

end Go.Proofs.Ytndcnhbcconbcaa.G
