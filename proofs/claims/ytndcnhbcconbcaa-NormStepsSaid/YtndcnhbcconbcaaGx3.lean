-- A print of Ytndcnhbcconbcaa: functions, their calls (by the kit's print.py, from a copy in scratch).
import Derived.Test.YtndcnhbcconbcaaGx0
import Derived.Test.YtndcnhbcconbcaaGx1
import Derived.Test.YtndcnhbcconbcaaGx2
namespace Go.Proofs.Ytndcnhbcconbcaa.G
open Go.RowKit Go.Proofs.YtndcnhbcconbcaaW.PrintWords Go.Proofs.YtndcnhbcconbcaaW.PrintLast Go.Proofs.YtndcnhbcconbcaaW.PrintMore
attribute [local go_sem] max2_int min2_int max_two min_two max_three min_three max_four min_four   -- for this text's walks alone
set_option linter.unusedVariables false
set_option linter.unusedSimpArgs false

/-! ### crosstreeref06_Inner: function 24 -/
mutual
def crosstreeref06_Inner.l0 : Nat → List (S51) → Int → Int → Int → Int → ByteArray → List (S24) → Option (Int)
  | 0, _, _, _, _, _, _, _ => none
  | k + 1, x0, x2, x7, x117000, x117001, x117002, x117003 => if x7 > 0 then (if x2 ≥ x7 then (crosstreeref06_Inner.l0 k x0 (wrap64 (x2 - x7)) x7 x117000 x117001 x117002 x117003) else (if 0 < (x117003.length : Int) then ((crosstreeref06_Inner.f k x0 ((rd_T24 x117003 0).f0) ((rd_T24 x117003 0).f1) ((rd_T24 x117003 0).f2) ((rd_T24 x117003 0).f3) x2).bind fun t122 => (some t122)) else (none))) else (if 0 < (x117003.length : Int) then ((crosstreeref06_Inner.f k x0 ((rd_T24 x117003 0).f0) ((rd_T24 x117003 0).f1) ((rd_T24 x117003 0).f2) ((rd_T24 x117003 0).f3) x2).bind fun t124 => (some t124)) else (none))
def crosstreeref06_Inner.j1 : Nat → List (S51) → Int → Int → Bool → Option (Int)
  | 0, _, _, _, _ => none
  | k + 1, x0, x2, x10, x55 => if x55 = true then (some x2) else (if 0 ≤ x10 then (if x10 < (x0.length : Int) then (crosstreeref06_Inner.l1 k x0 x2 ((rd_T51 x0 x10).f3) 0) else (none)) else (none))
def crosstreeref06_Inner.l1 : Nat → List (S51) → Int → List (S72) → Int → Option (Int)
  | 0, _, _, _, _ => none
  | k + 1, x0, x2, x11, x12 => if x12 < (x11.length : Int) then (if 0 ≤ x12 then ((crosstreeref05_Size.f k x0 ((rd_T72 x11 x12).f1.f0) ((rd_T72 x11 x12).f1.f1) ((rd_T72 x11 x12).f1.f2) ((rd_T72 x11 x12).f1.f3)).bind fun bt128 => (if ((rd_T72 x11 x12).f2) ≤ x2 then (if x2 < (wrap64 (((rd_T72 x11 x12).f2) + bt128.1)) then ((crosstreeref06_Inner.f k x0 ((rd_T72 x11 x12).f1.f0) ((rd_T72 x11 x12).f1.f1) ((rd_T72 x11 x12).f1.f2) ((rd_T72 x11 x12).f1.f3) (wrap64 (x2 - ((rd_T72 x11 x12).f2)))).bind fun t136 => (some (wrap64 (((rd_T72 x11 x12).f2) + t136)))) else (crosstreeref06_Inner.l1 k x0 x2 x11 (wrap64 (x12 + 1)))) else (crosstreeref06_Inner.l1 k x0 x2 x11 (wrap64 (x12 + 1))))) else (none)) else (some x2)
def crosstreeref06_Inner.f : Nat → List (S51) → Int → Int → ByteArray → List (S24) → Int → Option (Int)
  | 0, _, _, _, _, _, _ => none
  | k + 1, l0, a1_0, a1_1, a1_2, l1_3, a2 => if a1_0 = 6 then (if 0 < (l1_3.length : Int) then ((crosstreeref05_Size.f k l0 ((rd_T24 l1_3 0).f0) ((rd_T24 l1_3 0).f1) ((rd_T24 l1_3 0).f2) ((rd_T24 l1_3 0).f3)).bind fun bt118 => (crosstreeref06_Inner.l0 k l0 a2 bt118.1 a1_0 a1_1 a1_2 l1_3)) else (none)) else ((crosstreeref05_Which.f k l0 a1_0 a1_1 a1_2 l1_3).bind fun t125 => (if a1_0 = 7 then (crosstreeref06_Inner.j1 k l0 a2 t125 (decide (t125 < 0))) else (crosstreeref06_Inner.j1 k l0 a2 t125 true)))
end
theorem crosstreeref06_Inner.mono_l : ∀ k, (∀ y0 y1 y2 y3 y4 y5, LeO (crosstreeref06_Inner.f k y0 y1 y2 y3 y4 y5) (crosstreeref06_Inner.f (k + 1) y0 y1 y2 y3 y4 y5)) ∧ (∀ y0 y1 y2 y3 y4 y5 y6, LeO (crosstreeref06_Inner.l0 k y0 y1 y2 y3 y4 y5 y6) (crosstreeref06_Inner.l0 (k + 1) y0 y1 y2 y3 y4 y5 y6)) ∧ (∀ y0 y1 y2 y3, LeO (crosstreeref06_Inner.j1 k y0 y1 y2 y3) (crosstreeref06_Inner.j1 (k + 1) y0 y1 y2 y3)) ∧ (∀ y0 y1 y2 y3, LeO (crosstreeref06_Inner.l1 k y0 y1 y2 y3) (crosstreeref06_Inner.l1 (k + 1) y0 y1 y2 y3))
  | 0 => ⟨fun _ _ _ _ _ _ r h => by simp [crosstreeref06_Inner.f] at h, fun _ _ _ _ _ _ _ r h => by simp [crosstreeref06_Inner.l0] at h, fun _ _ _ _ r h => by simp [crosstreeref06_Inner.j1] at h, fun _ _ _ _ r h => by simp [crosstreeref06_Inner.l1] at h⟩
  | k + 1 => by
    obtain ⟨ih0, ih1, ih2, ih3⟩ := crosstreeref06_Inner.mono_l k
    refine ⟨?_, ?_, ?_, ?_⟩
    · intro y0 y1 y2 y3 y4 y5
      unfold crosstreeref06_Inner.f
      repeat' first
      | (with_reducible exact ih0 _ _ _ _ _ _)
      | (with_reducible exact ih1 _ _ _ _ _ _ _)
      | (with_reducible exact ih2 _ _ _ _)
      | (with_reducible exact ih3 _ _ _ _)
      | (with_reducible exact crosstreeref05_Size.mono _ _ _ _ _ _)
      | (with_reducible exact crosstreeref05_Which.mono _ _ _ _ _ _)
      | (with_reducible exact LeO.refl _)
      | (with_reducible exact LeO.none _)
      | (with_reducible refine LeO.ite ?_ ?_)
      | (with_reducible refine LeO.bind ?_ (fun _ => ?_))
      | exact ih0 _ _ _ _ _ _
      | exact ih1 _ _ _ _ _ _ _
      | exact ih2 _ _ _ _
      | exact ih3 _ _ _ _
      | exact crosstreeref05_Size.mono _ _ _ _ _ _
      | exact crosstreeref05_Which.mono _ _ _ _ _ _
      | exact LeO.none _
      | refine LeO.ite ?_ ?_
      | refine LeO.bind ?_ (fun _ => ?_)
    · intro y0 y1 y2 y3 y4 y5 y6
      unfold crosstreeref06_Inner.l0
      repeat' first
      | (with_reducible exact ih0 _ _ _ _ _ _)
      | (with_reducible exact ih1 _ _ _ _ _ _ _)
      | (with_reducible exact ih2 _ _ _ _)
      | (with_reducible exact ih3 _ _ _ _)
      | (with_reducible exact crosstreeref05_Size.mono _ _ _ _ _ _)
      | (with_reducible exact crosstreeref05_Which.mono _ _ _ _ _ _)
      | (with_reducible exact LeO.refl _)
      | (with_reducible exact LeO.none _)
      | (with_reducible refine LeO.ite ?_ ?_)
      | (with_reducible refine LeO.bind ?_ (fun _ => ?_))
      | exact ih0 _ _ _ _ _ _
      | exact ih1 _ _ _ _ _ _ _
      | exact ih2 _ _ _ _
      | exact ih3 _ _ _ _
      | exact crosstreeref05_Size.mono _ _ _ _ _ _
      | exact crosstreeref05_Which.mono _ _ _ _ _ _
      | exact LeO.none _
      | refine LeO.ite ?_ ?_
      | refine LeO.bind ?_ (fun _ => ?_)
    · intro y0 y1 y2 y3
      unfold crosstreeref06_Inner.j1
      repeat' first
      | (with_reducible exact ih0 _ _ _ _ _ _)
      | (with_reducible exact ih1 _ _ _ _ _ _ _)
      | (with_reducible exact ih2 _ _ _ _)
      | (with_reducible exact ih3 _ _ _ _)
      | (with_reducible exact crosstreeref05_Size.mono _ _ _ _ _ _)
      | (with_reducible exact crosstreeref05_Which.mono _ _ _ _ _ _)
      | (with_reducible exact LeO.refl _)
      | (with_reducible exact LeO.none _)
      | (with_reducible refine LeO.ite ?_ ?_)
      | (with_reducible refine LeO.bind ?_ (fun _ => ?_))
      | exact ih0 _ _ _ _ _ _
      | exact ih1 _ _ _ _ _ _ _
      | exact ih2 _ _ _ _
      | exact ih3 _ _ _ _
      | exact crosstreeref05_Size.mono _ _ _ _ _ _
      | exact crosstreeref05_Which.mono _ _ _ _ _ _
      | exact LeO.none _
      | refine LeO.ite ?_ ?_
      | refine LeO.bind ?_ (fun _ => ?_)
    · intro y0 y1 y2 y3
      unfold crosstreeref06_Inner.l1
      repeat' first
      | (with_reducible exact ih0 _ _ _ _ _ _)
      | (with_reducible exact ih1 _ _ _ _ _ _ _)
      | (with_reducible exact ih2 _ _ _ _)
      | (with_reducible exact ih3 _ _ _ _)
      | (with_reducible exact crosstreeref05_Size.mono _ _ _ _ _ _)
      | (with_reducible exact crosstreeref05_Which.mono _ _ _ _ _ _)
      | (with_reducible exact LeO.refl _)
      | (with_reducible exact LeO.none _)
      | (with_reducible refine LeO.ite ?_ ?_)
      | (with_reducible refine LeO.bind ?_ (fun _ => ?_))
      | exact ih0 _ _ _ _ _ _
      | exact ih1 _ _ _ _ _ _ _
      | exact ih2 _ _ _ _
      | exact ih3 _ _ _ _
      | exact crosstreeref05_Size.mono _ _ _ _ _ _
      | exact crosstreeref05_Which.mono _ _ _ _ _ _
      | exact LeO.none _
      | refine LeO.ite ?_ ?_
      | refine LeO.bind ?_ (fun _ => ?_)
theorem crosstreeref06_Inner.mono : ∀ a0 a1 a2 a3 a4 a5 k, LeO (crosstreeref06_Inner.f k a0 a1 a2 a3 a4 a5) (crosstreeref06_Inner.f (k + 1) a0 a1 a2 a3 a4 a5) := by
  intro a0 a1 a2 a3 a4 a5 k
  obtain ⟨ih0, ih1, ih2, ih3⟩ := crosstreeref06_Inner.mono_l k
  exact ih0 a0 a1 a2 a3 a4 a5
def crosstreeref06_Inner.T15 : Bool × List (List Nat × List Nat) := (true, [([], []), ([], []), ([0, 1], [0, 1]), ([2], [2]), ([3], [3]), ([], []), ([], []), ([], []), ([6, 7], [6, 7]), ([8], [8]), ([9], [9]), ([], []), ([], []), ([], []), ([12, 13], [12, 13]), ([14], [14]), ([15], [15]), ([11, 16], [11, 16]), ([5, 10, 17], [5, 10, 17]), ([4, 18], [4, 18]), ([19, 18, 0, 1, 2, 3, 4, 5, 6, 7, 8, 9, 10, 11, 12, 13, 14, 15, 16, 17, 18, 19], [19])])
def crosstreeref06_Inner.B15 : List Nat := [0, 0, 3, 7, 15, 0, 0, 0, 192, 448, 960, 0, 0, 0, 12288, 28672, 61440, 129024, 262112, 524287, 1048575]
theorem crosstreeref06_Inner.tab15 : rtab .any (opsOf Try.f24 15) = crosstreeref06_Inner.T15 := by kernel_rfl
theorem crosstreeref06_Inner.bits15 : waitsOk crosstreeref06_Inner.T15.2 crosstreeref06_Inner.B15 = true := by kernel_rfl
set_option maxHeartbeats 8000000 in
set_option maxRecDepth 100000 in
theorem crosstreeref06_Inner.calls (k : Nat) : ∀ (A0 : Option Addr) (c0 : Nat) (l0 : List (S51)) (a1_0 : Int) (a1_1 : Int) (a1_2 : ByteArray) (A1_3 : Option Addr) (c1_3 : Nat) (l1_3 : List (S24)) (a2 : Int) (r : Int) (w : World) (hr0 : Kd.C k51 w A0 l0.length l0) (hc0 : l0.length ≤ c0) (hr1_3 : Kd.C k24 w A1_3 l1_3.length l1_3) (hc1_3 : l1_3.length ≤ c1_3) (h : crosstreeref06_Inner.f k l0 a1_0 a1_1 a1_2 l1_3 a2 = some r),
    Calls Try.prog 24 #[.slice A0 l0.length c0, .agg #[.int .i64 a1_0, .int .i64 a1_1, .string a1_2, .slice A1_3 l1_3.length c1_3], .int .i64 a2] w fun e w' => e = .returned (.int .i64 r) ∧ Below w.heap.size w w' := by
  induction k using Nat.strongRecOn with
  | _ k ih =>
  intro A0 c0 l0 a1_0 a1_1 a1_2 A1_3 c1_3 l1_3 a2 r w hr0 hc0 hr1_3 hc1_3 h
  cases k with
  | zero => exact absurd h (by simp [crosstreeref06_Inner.f])
  | succ k =>
  simp only [crosstreeref06_Inner.f] at h
  have hu24 := Try.underlying24
  have HR0 := Aside0.mk hr0
  have HC0 := Aside0.mk hc0
  clear hr0 hc0
  have HR1_3 := Aside0.mk hr1_3
  have HC1_3 := Aside0.mk hc1_3
  clear hr1_3 hc1_3
  have HB := Aside0.mk (Below.refl w.heap.size w)
  have H : (if a1_0 = 6 then (if 0 < (l1_3.length : Int) then ((crosstreeref05_Size.f k l0 ((rd_T24 l1_3 0).f0) ((rd_T24 l1_3 0).f1) ((rd_T24 l1_3 0).f2) ((rd_T24 l1_3 0).f3)).bind fun bt118 => (crosstreeref06_Inner.l0 k l0 a2 bt118.1 a1_0 a1_1 a1_2 l1_3)) else (none)) else ((crosstreeref05_Which.f k l0 a1_0 a1_1 a1_2 l1_3).bind fun t125 => (if a1_0 = 7 then (crosstreeref06_Inner.j1 k l0 a2 t125 (decide (t125 < 0))) else (crosstreeref06_Inner.j1 k l0 a2 t125 true)))) = some r := h
  clear h
  by_cases c4 : a1_0 = 6
  · rw [if_pos c4] at H
    have c4b0 : (a1_0 == 6) = true := beq_iff_eq.mpr c4
    have c4b1 : (a1_0 != 6) = false := bne_eq_false_iff_eq.mpr c4
    clear c4
    by_cases c5 : 0 < (l1_3.length : Int)
    · rw [if_pos c5] at H
      have c5b0 : decide (0 < (l1_3.length : Int)) = true := decide_eq_true c5
      have c5b1 : decide (0 < l1_3.length) = true := decide_eq_true (by omega)
      clear c5
      replace H := Option.bind_eq_some_iff.mp H
      obtain ⟨⟨t118, t119, t120⟩, A60, H⟩ := H
      replace H : (crosstreeref06_Inner.l0 k l0 a2 t118 a1_0 a1_1 a1_2 l1_3) = some r := H
      have A6 := Aside0.mk A60
      clear A60
      have H' := Aside0.mk H
      clear H
      go_enter Try.func24, Try.ntmps24
      go_wp2_with (first | ((with_reducible refine gate_dst (N := 4) rfl ?_); refine box_event ?hg (N := 4) ?hd (cs := #[.int .i64 a1_0, .int .i64 a1_1, .string a1_2, .slice A1_3 l1_3.length c1_3]) (t := 24) ?hr ?_; (case hd => rfl); (case hg => rfl); (case hr => first | (go_simp; done) | (go_simp; rfl)); intro gb116 hg w7 hbox hb; have n0_ := Aside0.mk (below_step (by repeat (first | (with_reducible first | exact HB.out | apply below_alloc | apply pw_below_drewN | apply below_drew1) | exact HB.out)) hb); have n1_ := Aside0.mk (hbox); have n2_ := Aside0.mk ((by rw [hg]; exact (below_size (by repeat (first | (with_reducible first | exact HB.out | apply below_alloc | apply pw_below_drewN | apply below_drew1) | exact HB.out))) : w.heap.size ≤ gb116)); have n3_ := Aside0.mk ((by rw [hg]; exact (below_size (by repeat (first | (with_reducible first | exact HB.out | apply below_alloc | apply pw_below_drewN | apply below_drew1) | exact HB.out))) : w.heap.size ≤ gb116)); clear HB; have HB := n0_; have BK116 := n1_; have GW116 := n2_; have GE116 := n3_; clear n0_ n1_ n2_ n3_; clear hb hbox hg; have hcz8_0 : w7.cell? ⟨gb116, 0, none⟩ = some (.int .i64 a1_0) := (blk_cell BK116.out 0).trans rfl; have hcz8_1 : w7.cell? ⟨gb116, 1, none⟩ = some (.int .i64 a1_1) := (blk_cell BK116.out 1).trans rfl; have hcz8_2 : w7.cell? ⟨gb116, 2, none⟩ = some (.string a1_2) := (blk_cell BK116.out 2).trans rfl; have hcz8_3 : w7.cell? ⟨gb116, 3, none⟩ = some (.slice A1_3 l1_3.length c1_3) := (blk_cell BK116.out 3).trans rfl; have hfz8_0 := blk_frozen BK116.out 0; have hfz8_1 := blk_frozen BK116.out 1; have hfz8_2 := blk_frozen BK116.out 2; have hfz8_3 := blk_frozen BK116.out 3; have p117 : 0 ≤ (0 : Int) := (by omega); have q117 : 0 < (l1_3.length : Int) := of_decide_eq_true (by first | (with_reducible assumption) | assumption); obtain ⟨ad117, A117_3, c117_3, e117, hx117_0, hx117_1, hx117_2, hx117_3, hl117_3, hi117_3⟩ := at_T24 HR1_3.out 0 p117 q117; cases e117; have qi117 : (0 < l1_3.length) = True := eq_true (by omega); (try rw [show ((0 : Int)).toNat = 0 from rfl] at hx117_0); (try rw [show 0 * 4 = 0 from rfl] at hx117_0); (try rw [Addr.add_zero'] at hx117_0); (try rw [show ((0 : Int)).toNat = 0 from rfl] at hx117_1); (try rw [show 0 * 4 = 0 from rfl] at hx117_1); (try rw [Addr.add_zero'] at hx117_1); (try rw [show ((0 : Int)).toNat = 0 from rfl] at hx117_2); (try rw [show 0 * 4 = 0 from rfl] at hx117_2); (try rw [Addr.add_zero'] at hx117_2); (try rw [show ((0 : Int)).toNat = 0 from rfl] at hx117_3); (try rw [show 0 * 4 = 0 from rfl] at hx117_3); (try rw [Addr.add_zero'] at hx117_3); replace hx117_0 := (HB.out.cell (World.block_lt_of_cell? w _ hx117_0)).trans hx117_0; replace hx117_1 := (HB.out.cell (World.block_lt_of_cell? w _ hx117_1)).trans hx117_1; replace hx117_2 := (HB.out.cell (World.block_lt_of_cell? w _ hx117_2)).trans hx117_2; replace hx117_3 := (HB.out.cell (World.block_lt_of_cell? w _ hx117_3)).trans hx117_3; have HR117_3 := Aside0.mk hi117_3; have HC117_3 := Aside0.mk hl117_3; clear hi117_3 hl117_3; replace p117 := eq_true p117; replace q117 := eq_true q117) | ((with_reducible refine gate_callee (f := 23) rfl ?_); refine goesL_ (some 25) rfl rfl Try.func23 (by kernel_rfl) rfl #[.slice A0 l0.length c0, .agg #[.int .i64 ((rd_T24 l1_3 0).f0), .int .i64 ((rd_T24 l1_3 0).f1), .string ((rd_T24 l1_3 0).f2), .slice A117_3 ((rd_T24 l1_3 0).f3).length c117_3]] rfl (by (try simp only [List.map_toArray, List.map_cons, List.map_nil]); first | done | rfl | (simp only [List.length_drop, List.length_take]; rfl)) ?_; (with_reducible refine (crosstreeref05_Size.calls k _ _ l0 ((rd_T24 l1_3 0).f0) ((rd_T24 l1_3 0).f1) ((rd_T24 l1_3 0).f2) _ _ ((rd_T24 l1_3 0).f3) t118 t119 t120 _ ?side1 ?side2 ?side3 ?side4 A6.out).mono ?_); (case side1 => repeat (first | exact (Kd.C_below HR0.out HB.out) | (with_reducible refine Kd.C_alloc ?_ _) | (with_reducible refine Kd.C_drewN ?_ _) | (with_reducible refine Kd.C_drew ?_))); (case side2 => exact HC0.out); (case side3 => repeat (first | exact (Kd.C_below HR117_3.out HB.out) | (with_reducible refine Kd.C_alloc ?_ _) | (with_reducible refine Kd.C_drewN ?_ _) | (with_reducible refine Kd.C_drew ?_))); (case side4 => exact HC117_3.out); rintro e w9 ⟨rfl, hb⟩; refine ⟨_, rfl, ?_⟩; have n0_ := Aside0.mk (blk_below (g := gb116) (o := .cells #[.int .i64 a1_0, .int .i64 a1_1, .string a1_2, .slice (some ad117) l1_3.length c1_3] 24 (0, 0)) (by (with_reducible repeat (first | refine blk_drewN ?_ _ | refine blk_drew ?_ | refine blk_alloc ?_ _)); exact BK116.out) hb); have n1_ := Aside0.mk (below_step (by repeat (first | (with_reducible first | exact HB.out | apply below_alloc | apply pw_below_drewN | apply below_drew1 | refine below_set ?_ GE116.out) | exact HB.out)) hb); clear BK116; clear HB; have BK116 := n0_; have HB := n1_; clear n0_ n1_; (try clear hb); (try clear hb2); (try clear hk); (try clear hi)))
      go_loopg [2] k (fun kq v2 w' => ∃ (x2_1 : Int), v2 = .int .i64 x2_1 ∧ Aside0 (crosstreeref06_Inner.l0 kq l0 x2_1 t118 a1_0 a1_1 a1_2 l1_3 = some r) ∧ Aside0 (kq ≤ k) ∧ Aside0 (w'.heap[gb116]? = some (.cells #[.int .i64 a1_0, .int .i64 a1_1, .string a1_2, (.slice (some ad117) l1_3.length c1_3)] 24 (0, 0))) ∧ Aside0 (Below w.heap.size w w'))
      case atStart => exact ⟨(a2), (by first | rfl | (simp; done) | (simp [*]; done)), H', ⟨Nat.le_refl _⟩, ⟨by (with_reducible repeat (first | refine blk_drewN ?_ _ | refine blk_drew ?_ | refine blk_alloc ?_ _)); exact BK116.out⟩, ⟨by repeat (first | (with_reducible first | exact HB.out | apply below_alloc | apply pw_below_drewN | apply below_drew1 | refine below_set ?_ GE116.out) | exact HB.out)⟩⟩
      case round =>
        clear H'
        try clear c1
        try clear p1
        try clear q1
        try clear hx1
        try clear qi1
        try clear c2
        try clear p2
        try clear c4
        try clear c4b0
        try clear c4b1
        try clear c5
        try clear c5b0
        try clear c5b1
        try clear hcz8_0
        try clear hcz8_1
        try clear hcz8_2
        try clear hcz8_3
        try clear hfz8_0
        try clear hfz8_1
        try clear hfz8_2
        try clear hfz8_3
        try clear hx117_0
        try clear hx117_1
        try clear hx117_2
        try clear hx117_3
        try clear p117
        try clear q117
        obtain ⟨x2_1, rfl, HA, HK1, BK116, HB⟩ := hrel
        cases gk with
        | zero => exact absurd HA.out (by simp [crosstreeref06_Inner.l0])
        | succ k1 =>
          have H := HA.out
          clear HA
          simp only [crosstreeref06_Inner.l0] at H
          by_cases c10 : t118 > 0
          · rw [if_pos c10] at H
            have c10b0 : decide (0 < t118) = true := decide_eq_true c10
            clear c10
            by_cases c11 : x2_1 ≥ t118
            · rw [if_pos c11] at H
              have c11b0 : decide (t118 ≤ x2_1) = true := decide_eq_true c11
              clear c11
              have H' := Aside0.mk H
              clear H
              go_wp2
              go_roundg k1
              case measure => have := HK1.out; omega
              case rel => exact ⟨(wrap64 (x2_1 - t118)), (by first | rfl | (simp; done) | (simp [*]; done)), H', ⟨by have := HK1.out; omega⟩, ⟨by (with_reducible repeat (first | refine blk_drewN ?_ _ | refine blk_drew ?_ | refine blk_alloc ?_ _)); exact BK116.out⟩, ⟨by repeat (first | (with_reducible first | exact HB.out | apply below_alloc | apply pw_below_drewN | apply below_drew1 | refine below_set ?_ GE116.out) | exact HB.out)⟩⟩
            · rw [if_neg c11] at H
              have c11b0 : decide (t118 ≤ x2_1) = false := decide_eq_false c11
              clear c11
              by_cases c12 : 0 < (l1_3.length : Int)
              · rw [if_pos c12] at H
                have c12b0 : decide (0 < (l1_3.length : Int)) = true := decide_eq_true c12
                have c12b1 : decide (0 < l1_3.length) = true := decide_eq_true (by omega)
                clear c12
                replace H := Option.bind_eq_some_iff.mp H
                obtain ⟨t122, A130, H⟩ := H
                replace H : (some t122) = some r := H
                have A13 := Aside0.mk A130
                clear A130
                obtain rfl := Option.some.inj H
                have hcz14_0 : wr.cell? ⟨gb116, 0, none⟩ = some (.int .i64 a1_0) := (blk_cell BK116.out 0).trans rfl
                have hcz14_1 : wr.cell? ⟨gb116, 1, none⟩ = some (.int .i64 a1_1) := (blk_cell BK116.out 1).trans rfl
                have hcz14_2 : wr.cell? ⟨gb116, 2, none⟩ = some (.string a1_2) := (blk_cell BK116.out 2).trans rfl
                have hcz14_3 : wr.cell? ⟨gb116, 3, none⟩ = some (.slice (some ad117) l1_3.length c1_3) := (blk_cell BK116.out 3).trans rfl
                have hfz14_0 := blk_frozen BK116.out 0
                have hfz14_1 := blk_frozen BK116.out 1
                have hfz14_2 := blk_frozen BK116.out 2
                have hfz14_3 := blk_frozen BK116.out 3
                have p121 : 0 ≤ (0 : Int) := (by omega)
                have q121 : 0 < (l1_3.length : Int) := of_decide_eq_true (by first | (with_reducible assumption) | assumption)
                obtain ⟨ad121, A121_3, c121_3, e121, hx121_0, hx121_1, hx121_2, hx121_3, hl121_3, hi121_3⟩ := at_T24 HR1_3.out 0 p121 q121
                obtain rfl : ad117 = ad121 := (by injection e121)
                have qi121 : (0 < l1_3.length) = True := eq_true (by omega)
                (try rw [show ((0 : Int)).toNat = 0 from rfl] at hx121_0)
                (try rw [show 0 * 4 = 0 from rfl] at hx121_0)
                (try rw [Addr.add_zero'] at hx121_0)
                (try rw [show ((0 : Int)).toNat = 0 from rfl] at hx121_1)
                (try rw [show 0 * 4 = 0 from rfl] at hx121_1)
                (try rw [Addr.add_zero'] at hx121_1)
                (try rw [show ((0 : Int)).toNat = 0 from rfl] at hx121_2)
                (try rw [show 0 * 4 = 0 from rfl] at hx121_2)
                (try rw [Addr.add_zero'] at hx121_2)
                (try rw [show ((0 : Int)).toNat = 0 from rfl] at hx121_3)
                (try rw [show 0 * 4 = 0 from rfl] at hx121_3)
                (try rw [Addr.add_zero'] at hx121_3)
                replace hx121_0 := (HB.out.cell (World.block_lt_of_cell? w _ hx121_0)).trans hx121_0
                replace hx121_1 := (HB.out.cell (World.block_lt_of_cell? w _ hx121_1)).trans hx121_1
                replace hx121_2 := (HB.out.cell (World.block_lt_of_cell? w _ hx121_2)).trans hx121_2
                replace hx121_3 := (HB.out.cell (World.block_lt_of_cell? w _ hx121_3)).trans hx121_3
                have HR121_3 := Aside0.mk hi121_3
                have HC121_3 := Aside0.mk hl121_3
                clear hi121_3 hl121_3
                replace p121 := eq_true p121
                replace q121 := eq_true q121
                go_wp2_with (first | ((with_reducible refine gate_callee (f := 24) rfl ?_); refine goesL_ (some 45) rfl rfl Try.func24 (by kernel_rfl) rfl #[.slice A0 l0.length c0, .agg #[.int .i64 ((rd_T24 l1_3 0).f0), .int .i64 ((rd_T24 l1_3 0).f1), .string ((rd_T24 l1_3 0).f2), .slice A121_3 ((rd_T24 l1_3 0).f3).length c121_3], .int .i64 x2_1] rfl (by (try simp only [List.map_toArray, List.map_cons, List.map_nil]); first | done | rfl | (simp only [List.length_drop, List.length_take]; rfl)) ?_; (with_reducible refine (ih k1 (by have := HK1.out; omega) _ _ l0 ((rd_T24 l1_3 0).f0) ((rd_T24 l1_3 0).f1) ((rd_T24 l1_3 0).f2) _ _ ((rd_T24 l1_3 0).f3) x2_1 t122 _ ?side1 ?side2 ?side3 ?side4 A13.out).mono ?_); (case side1 => repeat (first | exact (Kd.C_below HR0.out HB.out) | (with_reducible refine Kd.C_alloc ?_ _) | (with_reducible refine Kd.C_drewN ?_ _) | (with_reducible refine Kd.C_drew ?_))); (case side2 => exact HC0.out); (case side3 => repeat (first | exact (Kd.C_below HR121_3.out HB.out) | (with_reducible refine Kd.C_alloc ?_ _) | (with_reducible refine Kd.C_drewN ?_ _) | (with_reducible refine Kd.C_drew ?_))); (case side4 => exact HC121_3.out); rintro e w15 ⟨rfl, hb⟩; refine ⟨_, rfl, ?_⟩; have n0_ := Aside0.mk (blk_below (g := gb116) (o := .cells #[.int .i64 a1_0, .int .i64 a1_1, .string a1_2, .slice (some ad117) l1_3.length c1_3] 24 (0, 0)) (by (with_reducible repeat (first | refine blk_drewN ?_ _ | refine blk_drew ?_ | refine blk_alloc ?_ _)); exact BK116.out) hb); have n1_ := Aside0.mk (below_step (by repeat (first | (with_reducible first | exact HB.out | apply below_alloc | apply pw_below_drewN | apply below_drew1 | refine below_set ?_ GE116.out) | exact HB.out)) hb); clear BK116; clear HB; have BK116 := n0_; have HB := n1_; clear n0_ n1_; (try clear hb); (try clear hb2); (try clear hk); (try clear hi)))
                go_ret
                exact ⟨by first | rfl | (simp [errW_none, errW_some] <;> rfl) | (simp [*, errW_none, errW_some] <;> rfl), by repeat (first | (with_reducible first | exact HB.out | apply below_alloc | apply pw_below_drewN | apply below_drew1 | refine below_set ?_ GE116.out) | exact HB.out)⟩
              · rw [if_neg c12] at H
                exact absurd H (by simp)
          · rw [if_neg c10] at H
            have c10b0 : decide (0 < t118) = false := decide_eq_false c10
            clear c10
            by_cases c16 : 0 < (l1_3.length : Int)
            · rw [if_pos c16] at H
              have c16b0 : decide (0 < (l1_3.length : Int)) = true := decide_eq_true c16
              have c16b1 : decide (0 < l1_3.length) = true := decide_eq_true (by omega)
              clear c16
              replace H := Option.bind_eq_some_iff.mp H
              obtain ⟨t124, A170, H⟩ := H
              replace H : (some t124) = some r := H
              have A17 := Aside0.mk A170
              clear A170
              obtain rfl := Option.some.inj H
              have hcz18_0 : wr.cell? ⟨gb116, 0, none⟩ = some (.int .i64 a1_0) := (blk_cell BK116.out 0).trans rfl
              have hcz18_1 : wr.cell? ⟨gb116, 1, none⟩ = some (.int .i64 a1_1) := (blk_cell BK116.out 1).trans rfl
              have hcz18_2 : wr.cell? ⟨gb116, 2, none⟩ = some (.string a1_2) := (blk_cell BK116.out 2).trans rfl
              have hcz18_3 : wr.cell? ⟨gb116, 3, none⟩ = some (.slice (some ad117) l1_3.length c1_3) := (blk_cell BK116.out 3).trans rfl
              have hfz18_0 := blk_frozen BK116.out 0
              have hfz18_1 := blk_frozen BK116.out 1
              have hfz18_2 := blk_frozen BK116.out 2
              have hfz18_3 := blk_frozen BK116.out 3
              have p123 : 0 ≤ (0 : Int) := (by omega)
              have q123 : 0 < (l1_3.length : Int) := of_decide_eq_true (by first | (with_reducible assumption) | assumption)
              obtain ⟨ad123, A123_3, c123_3, e123, hx123_0, hx123_1, hx123_2, hx123_3, hl123_3, hi123_3⟩ := at_T24 HR1_3.out 0 p123 q123
              obtain rfl : ad117 = ad123 := (by injection e123)
              have qi123 : (0 < l1_3.length) = True := eq_true (by omega)
              (try rw [show ((0 : Int)).toNat = 0 from rfl] at hx123_0)
              (try rw [show 0 * 4 = 0 from rfl] at hx123_0)
              (try rw [Addr.add_zero'] at hx123_0)
              (try rw [show ((0 : Int)).toNat = 0 from rfl] at hx123_1)
              (try rw [show 0 * 4 = 0 from rfl] at hx123_1)
              (try rw [Addr.add_zero'] at hx123_1)
              (try rw [show ((0 : Int)).toNat = 0 from rfl] at hx123_2)
              (try rw [show 0 * 4 = 0 from rfl] at hx123_2)
              (try rw [Addr.add_zero'] at hx123_2)
              (try rw [show ((0 : Int)).toNat = 0 from rfl] at hx123_3)
              (try rw [show 0 * 4 = 0 from rfl] at hx123_3)
              (try rw [Addr.add_zero'] at hx123_3)
              replace hx123_0 := (HB.out.cell (World.block_lt_of_cell? w _ hx123_0)).trans hx123_0
              replace hx123_1 := (HB.out.cell (World.block_lt_of_cell? w _ hx123_1)).trans hx123_1
              replace hx123_2 := (HB.out.cell (World.block_lt_of_cell? w _ hx123_2)).trans hx123_2
              replace hx123_3 := (HB.out.cell (World.block_lt_of_cell? w _ hx123_3)).trans hx123_3
              have HR123_3 := Aside0.mk hi123_3
              have HC123_3 := Aside0.mk hl123_3
              clear hi123_3 hl123_3
              replace p123 := eq_true p123
              replace q123 := eq_true q123
              go_wp2_with (first | ((with_reducible refine gate_callee (f := 24) rfl ?_); refine goesL_ (some 45) rfl rfl Try.func24 (by kernel_rfl) rfl #[.slice A0 l0.length c0, .agg #[.int .i64 ((rd_T24 l1_3 0).f0), .int .i64 ((rd_T24 l1_3 0).f1), .string ((rd_T24 l1_3 0).f2), .slice A123_3 ((rd_T24 l1_3 0).f3).length c123_3], .int .i64 x2_1] rfl (by (try simp only [List.map_toArray, List.map_cons, List.map_nil]); first | done | rfl | (simp only [List.length_drop, List.length_take]; rfl)) ?_; (with_reducible refine (ih k1 (by have := HK1.out; omega) _ _ l0 ((rd_T24 l1_3 0).f0) ((rd_T24 l1_3 0).f1) ((rd_T24 l1_3 0).f2) _ _ ((rd_T24 l1_3 0).f3) x2_1 t124 _ ?side1 ?side2 ?side3 ?side4 A17.out).mono ?_); (case side1 => repeat (first | exact (Kd.C_below HR0.out HB.out) | (with_reducible refine Kd.C_alloc ?_ _) | (with_reducible refine Kd.C_drewN ?_ _) | (with_reducible refine Kd.C_drew ?_))); (case side2 => exact HC0.out); (case side3 => repeat (first | exact (Kd.C_below HR123_3.out HB.out) | (with_reducible refine Kd.C_alloc ?_ _) | (with_reducible refine Kd.C_drewN ?_ _) | (with_reducible refine Kd.C_drew ?_))); (case side4 => exact HC123_3.out); rintro e w19 ⟨rfl, hb⟩; refine ⟨_, rfl, ?_⟩; have n0_ := Aside0.mk (blk_below (g := gb116) (o := .cells #[.int .i64 a1_0, .int .i64 a1_1, .string a1_2, .slice (some ad117) l1_3.length c1_3] 24 (0, 0)) (by (with_reducible repeat (first | refine blk_drewN ?_ _ | refine blk_drew ?_ | refine blk_alloc ?_ _)); exact BK116.out) hb); have n1_ := Aside0.mk (below_step (by repeat (first | (with_reducible first | exact HB.out | apply below_alloc | apply pw_below_drewN | apply below_drew1 | refine below_set ?_ GE116.out) | exact HB.out)) hb); clear BK116; clear HB; have BK116 := n0_; have HB := n1_; clear n0_ n1_; (try clear hb); (try clear hb2); (try clear hk); (try clear hi)))
              go_ret
              exact ⟨by first | rfl | (simp [errW_none, errW_some] <;> rfl) | (simp [*, errW_none, errW_some] <;> rfl), by repeat (first | (with_reducible first | exact HB.out | apply below_alloc | apply pw_below_drewN | apply below_drew1 | refine below_set ?_ GE116.out) | exact HB.out)⟩
            · rw [if_neg c16] at H
              exact absurd H (by simp)
    · rw [if_neg c5] at H
      exact absurd H (by simp)
  · rw [if_neg c4] at H
    have c4b0 : (a1_0 == 6) = false := beq_eq_false_iff_ne.mpr c4
    have c4b1 : (a1_0 != 6) = true := bne_iff_ne.mpr c4
    replace H := Option.bind_eq_some_iff.mp H
    obtain ⟨t125, A200, H⟩ := H
    replace H : (if a1_0 = 7 then (crosstreeref06_Inner.j1 k l0 a2 t125 (decide (t125 < 0))) else (crosstreeref06_Inner.j1 k l0 a2 t125 true)) = some r := H
    have A20 := Aside0.mk A200
    clear A200
    have HC21 := Aside0.mk H
    clear H
    go_enter Try.func24, Try.ntmps24
    go_upto_region 7 with (first | ((with_reducible refine gate_dst (N := 4) rfl ?_); refine box_event ?hg (N := 4) ?hd (cs := #[.int .i64 a1_0, .int .i64 a1_1, .string a1_2, .slice A1_3 l1_3.length c1_3]) (t := 24) ?hr ?_; (case hd => rfl); (case hg => rfl); (case hr => first | (go_simp; done) | (go_simp; rfl)); intro gb116 hg w22 hbox hb; have n0_ := Aside0.mk (below_step (by repeat (first | (with_reducible first | exact HB.out | apply below_alloc | apply pw_below_drewN | apply below_drew1) | exact HB.out)) hb); have n1_ := Aside0.mk (hbox); have n2_ := Aside0.mk ((by rw [hg]; exact (below_size (by repeat (first | (with_reducible first | exact HB.out | apply below_alloc | apply pw_below_drewN | apply below_drew1) | exact HB.out))) : w.heap.size ≤ gb116)); have n3_ := Aside0.mk ((by rw [hg]; exact (below_size (by repeat (first | (with_reducible first | exact HB.out | apply below_alloc | apply pw_below_drewN | apply below_drew1) | exact HB.out))) : w.heap.size ≤ gb116)); clear HB; have HB := n0_; have BK116 := n1_; have GW116 := n2_; have GE116 := n3_; clear n0_ n1_ n2_ n3_; clear hb hbox hg; have hcz23_0 : w22.cell? ⟨gb116, 0, none⟩ = some (.int .i64 a1_0) := (blk_cell BK116.out 0).trans rfl; have hcz23_1 : w22.cell? ⟨gb116, 1, none⟩ = some (.int .i64 a1_1) := (blk_cell BK116.out 1).trans rfl; have hcz23_2 : w22.cell? ⟨gb116, 2, none⟩ = some (.string a1_2) := (blk_cell BK116.out 2).trans rfl; have hcz23_3 : w22.cell? ⟨gb116, 3, none⟩ = some (.slice A1_3 l1_3.length c1_3) := (blk_cell BK116.out 3).trans rfl; have hfz23_0 := blk_frozen BK116.out 0; have hfz23_1 := blk_frozen BK116.out 1; have hfz23_2 := blk_frozen BK116.out 2; have hfz23_3 := blk_frozen BK116.out 3) | ((with_reducible refine gate_callee (f := 32) rfl ?_); refine goesL_ (some 48) rfl rfl Try.func32 (by kernel_rfl) rfl #[.slice A0 l0.length c0, .agg #[.int .i64 a1_0, .int .i64 a1_1, .string a1_2, .slice A1_3 l1_3.length c1_3]] rfl (by (try simp only [List.map_toArray, List.map_cons, List.map_nil]); first | done | rfl | (simp only [List.length_drop, List.length_take]; rfl)) ?_; (with_reducible refine (crosstreeref05_Which.calls k _ _ l0 a1_0 a1_1 a1_2 _ _ l1_3 t125 _ ?side1 ?side2 ?side3 ?side4 A20.out).mono ?_); (case side1 => repeat (first | exact (Kd.C_below HR0.out HB.out) | (with_reducible refine Kd.C_alloc ?_ _) | (with_reducible refine Kd.C_drewN ?_ _) | (with_reducible refine Kd.C_drew ?_))); (case side2 => exact HC0.out); (case side3 => repeat (first | exact (Kd.C_below HR1_3.out HB.out) | (with_reducible refine Kd.C_alloc ?_ _) | (with_reducible refine Kd.C_drewN ?_ _) | (with_reducible refine Kd.C_drew ?_))); (case side4 => exact HC1_3.out); rintro e w24 ⟨rfl, hb⟩; refine ⟨_, rfl, ?_⟩; have n0_ := Aside0.mk (blk_below (g := gb116) (o := .cells #[.int .i64 a1_0, .int .i64 a1_1, .string a1_2, .slice A1_3 l1_3.length c1_3] 24 (0, 0)) (by (with_reducible repeat (first | refine blk_drewN ?_ _ | refine blk_drew ?_ | refine blk_alloc ?_ _)); exact BK116.out) hb); have n1_ := Aside0.mk (below_step (by repeat (first | (with_reducible first | exact HB.out | apply below_alloc | apply pw_below_drewN | apply below_drew1 | refine below_set ?_ GE116.out) | exact HB.out)) hb); clear BK116; clear HB; have BK116 := n0_; have HB := n1_; clear n0_ n1_; (try clear hb); (try clear hb2); (try clear hk); (try clear hi)))
    (try simp only [Act.put, List.setIfInBounds_toArray, List.set_cons_zero, List.set_cons_succ])
    go_cut [55] (fun v55 wc => ∃ (kq : Nat) (x55_20 : Bool), v55 = .bool x55_20 ∧ Aside0 (crosstreeref06_Inner.j1 kq l0 a2 t125 x55_20 = some r) ∧ Aside0 (kq ≤ k) ∧ Aside0 (wc.heap[gb116]? = some (.cells #[.int .i64 a1_0, .int .i64 a1_1, .string a1_2, (.slice A1_3 l1_3.length c1_3)] 24 (0, 0))) ∧ Aside0 (Below w.heap.size w wc))
    case first =>
      have H := HC21.out
      clear HC21
      by_cases c25 : a1_0 = 7
      · rw [if_pos c25] at H
        have c25b0 : (a1_0 == 7) = true := beq_iff_eq.mpr c25
        have c25b1 : (a1_0 != 7) = false := bne_eq_false_iff_eq.mpr c25
        clear c25
        (first | rw [c25b0] | (simp only [i64_w, i32_w]; rw [c25b0]) | skip)
        have H' := Aside0.mk H
        clear H
        have hcz26_0 : w24.cell? ⟨gb116, 0, none⟩ = some (.int .i64 a1_0) := (blk_cell BK116.out 0).trans rfl
        have hcz26_1 : w24.cell? ⟨gb116, 1, none⟩ = some (.int .i64 a1_1) := (blk_cell BK116.out 1).trans rfl
        have hcz26_2 : w24.cell? ⟨gb116, 2, none⟩ = some (.string a1_2) := (blk_cell BK116.out 2).trans rfl
        have hcz26_3 : w24.cell? ⟨gb116, 3, none⟩ = some (.slice A1_3 l1_3.length c1_3) := (blk_cell BK116.out 3).trans rfl
        have hfz26_0 := blk_frozen BK116.out 0
        have hfz26_1 := blk_frozen BK116.out 1
        have hfz26_2 := blk_frozen BK116.out 2
        have hfz26_3 := blk_frozen BK116.out 3
        go_wp2
        go_meet
        case rel => exact ⟨_, (decide (t125 < 0)), (by first | rfl | (simp; done) | (simp [*]; done)), H', ⟨by first | omega | exact Nat.le_refl _⟩, ⟨by (with_reducible repeat (first | refine blk_drewN ?_ _ | refine blk_drew ?_ | refine blk_alloc ?_ _)); exact BK116.out⟩, ⟨by repeat (first | (with_reducible first | exact HB.out | apply below_alloc | apply pw_below_drewN | apply below_drew1 | refine below_set ?_ GE116.out) | exact HB.out)⟩⟩
      · rw [if_neg c25] at H
        have c25b0 : (a1_0 == 7) = false := beq_eq_false_iff_ne.mpr c25
        have c25b1 : (a1_0 != 7) = true := bne_iff_ne.mpr c25
        (first | rw [c25b0] | (simp only [i64_w, i32_w]; rw [c25b0]) | skip)
        have H' := Aside0.mk H
        clear H
        have hcz27_0 : w24.cell? ⟨gb116, 0, none⟩ = some (.int .i64 a1_0) := (blk_cell BK116.out 0).trans rfl
        have hcz27_1 : w24.cell? ⟨gb116, 1, none⟩ = some (.int .i64 a1_1) := (blk_cell BK116.out 1).trans rfl
        have hcz27_2 : w24.cell? ⟨gb116, 2, none⟩ = some (.string a1_2) := (blk_cell BK116.out 2).trans rfl
        have hcz27_3 : w24.cell? ⟨gb116, 3, none⟩ = some (.slice A1_3 l1_3.length c1_3) := (blk_cell BK116.out 3).trans rfl
        have hfz27_0 := blk_frozen BK116.out 0
        have hfz27_1 := blk_frozen BK116.out 1
        have hfz27_2 := blk_frozen BK116.out 2
        have hfz27_3 := blk_frozen BK116.out 3
        go_wp2
        go_meet
        case rel => exact ⟨_, (true), (by first | rfl | (simp; done) | (simp [*]; done)), H', ⟨by first | omega | exact Nat.le_refl _⟩, ⟨by (with_reducible repeat (first | refine blk_drewN ?_ _ | refine blk_drew ?_ | refine blk_alloc ?_ _)); exact BK116.out⟩, ⟨by repeat (first | (with_reducible first | exact HB.out | apply below_alloc | apply pw_below_drewN | apply below_drew1 | refine below_set ?_ GE116.out) | exact HB.out)⟩⟩
    case rest =>
      clear HC21
      try clear c1
      try clear p1
      try clear q1
      try clear hx1
      try clear qi1
      try clear c2
      try clear p2
      try clear c3
      try clear c4
      try clear c4b0
      try clear c4b1
      try clear c5
      try clear c5b0
      try clear c5b1
      try clear p6
      try clear c10
      try clear c10b0
      try clear c11
      try clear c11b0
      try clear p11
      try clear q11
      try clear hx11
      try clear qi11
      try clear c12
      try clear c12b0
      try clear c12b1
      try clear p12
      try clear q12
      try clear hx12
      try clear qi12
      try clear c16
      try clear c16b0
      try clear c16b1
      try clear c23
      try clear c24
      try clear c25
      try clear c25b0
      try clear c25b1
      try clear hcz14_0
      try clear hcz14_1
      try clear hcz14_2
      try clear hcz14_3
      try clear hcz18_0
      try clear hcz18_1
      try clear hcz18_2
      try clear hcz18_3
      try clear hcz23_0
      try clear hcz23_1
      try clear hcz23_2
      try clear hcz23_3
      try clear hcz26_0
      try clear hcz26_1
      try clear hcz26_2
      try clear hcz26_3
      try clear hcz27_0
      try clear hcz27_1
      try clear hcz27_2
      try clear hcz27_3
      try clear hcz8_0
      try clear hcz8_1
      try clear hcz8_2
      try clear hcz8_3
      try clear hfz14_0
      try clear hfz14_1
      try clear hfz14_2
      try clear hfz14_3
      try clear hfz18_0
      try clear hfz18_1
      try clear hfz18_2
      try clear hfz18_3
      try clear hfz23_0
      try clear hfz23_1
      try clear hfz23_2
      try clear hfz23_3
      try clear hfz26_0
      try clear hfz26_1
      try clear hfz26_2
      try clear hfz26_3
      try clear hfz27_0
      try clear hfz27_1
      try clear hfz27_2
      try clear hfz27_3
      try clear hfz8_0
      try clear hfz8_1
      try clear hfz8_2
      try clear hfz8_3
      try clear hx117_0
      try clear hx117_1
      try clear hx117_2
      try clear hx117_3
      try clear hx121_0
      try clear hx121_1
      try clear hx121_2
      try clear hx121_3
      try clear hx123_0
      try clear hx123_1
      try clear hx123_2
      try clear hx123_3
      try clear p1
      try clear p117
      try clear p121
      try clear p123
      try clear p2
      try clear q1
      try clear q117
      try clear q121
      try clear q123
      obtain ⟨kq, x55_20, rfl, HA, HJ20, BK116, HB⟩ := hcut
      cases kq with
      | zero => exact absurd HA.out (by simp [crosstreeref06_Inner.j1])
      | succ kj20 =>
        have H := HA.out
        clear HA
        simp only [crosstreeref06_Inner.j1] at H
        by_cases c28 : x55_20 = true
        · subst c28
          have H1 : (some a2) = some r := by rw [if_pos rfl] at H; exact H
          clear H
          have H := H1
          clear H1
          obtain rfl := Option.some.inj H
          go_wp2
          go_ret
          exact ⟨by first | rfl | (simp [errW_none, errW_some] <;> rfl) | (simp [*, errW_none, errW_some] <;> rfl), by repeat (first | (with_reducible first | exact HB.out | apply below_alloc | apply pw_below_drewN | apply below_drew1 | refine below_set ?_ GE116.out) | exact HB.out)⟩
        · replace c28 := Bool.eq_false_iff.mpr c28
          subst c28
          have H1 : (if 0 ≤ t125 then (if t125 < (l0.length : Int) then (crosstreeref06_Inner.l1 kj20 l0 a2 ((rd_T51 l0 t125).f3) 0) else (none)) else (none)) = some r := by rw [if_neg (show ¬ (false = true) by decide)] at H; exact H
          clear H
          have H := H1
          clear H1
          by_cases c29 : 0 ≤ t125
          · rw [if_pos c29] at H
            have c29b0 : decide (0 ≤ t125) = true := decide_eq_true c29
            clear c29
            by_cases c30 : t125 < (l0.length : Int)
            · rw [if_pos c30] at H
              have c30b0 : decide (t125 < (l0.length : Int)) = true := decide_eq_true c30
              clear c30
              have H' := Aside0.mk H
              clear H
              have p126 : 0 ≤ (t125 : Int) := of_decide_eq_true (by first | (with_reducible assumption) | assumption)
              have q126 : t125 < (l0.length : Int) := of_decide_eq_true (by first | (with_reducible assumption) | assumption)
              obtain ⟨ad126, A126_3, c126_3, A126_6, c126_6, e126, hx126_0, hx126_1, hx126_2, hx126_3, hx126_4, hx126_5, hx126_6, hl126_3, hi126_3, hl126_6, hi126_6⟩ := at_T51 HR0.out t125 p126 q126
              cases e126
              replace hx126_0 := (HB.out.cell (World.block_lt_of_cell? w _ hx126_0)).trans hx126_0
              replace hx126_1 := (HB.out.cell (World.block_lt_of_cell? w _ hx126_1)).trans hx126_1
              replace hx126_2 := (HB.out.cell (World.block_lt_of_cell? w _ hx126_2)).trans hx126_2
              replace hx126_3 := (HB.out.cell (World.block_lt_of_cell? w _ hx126_3)).trans hx126_3
              replace hx126_4 := (HB.out.cell (World.block_lt_of_cell? w _ hx126_4)).trans hx126_4
              replace hx126_5 := (HB.out.cell (World.block_lt_of_cell? w _ hx126_5)).trans hx126_5
              replace hx126_6 := (HB.out.cell (World.block_lt_of_cell? w _ hx126_6)).trans hx126_6
              have HR126_3 := Aside0.mk hi126_3
              have HC126_3 := Aside0.mk hl126_3
              clear hi126_3 hl126_3
              have HR126_6 := Aside0.mk hi126_6
              have HC126_6 := Aside0.mk hl126_6
              clear hi126_6 hl126_6
              replace p126 := eq_true p126
              replace q126 := eq_true q126
              go_wp2
              go_loopg [12] kj20 (fun kq v12 w' => ∃ (x12_2 : Int), v12 = .int .i64 x12_2 ∧ Aside0 (crosstreeref06_Inner.l1 kq l0 a2 ((rd_T51 l0 t125).f3) x12_2 = some r) ∧ Aside0 (kq ≤ kj20) ∧ Aside0 (w'.heap[gb116]? = some (.cells #[.int .i64 a1_0, .int .i64 a1_1, .string a1_2, (.slice A1_3 l1_3.length c1_3)] 24 (0, 0))) ∧ Aside0 (Below w.heap.size w w'))
              case atStart => exact ⟨(0), (by first | rfl | (simp; done) | (simp [*]; done)), H', ⟨Nat.le_refl _⟩, ⟨by (with_reducible repeat (first | refine blk_drewN ?_ _ | refine blk_drew ?_ | refine blk_alloc ?_ _)); exact BK116.out⟩, ⟨by repeat (first | (with_reducible first | exact HB.out | apply below_alloc | apply pw_below_drewN | apply below_drew1 | refine below_set ?_ GE116.out) | exact HB.out)⟩⟩
              case round =>
                clear H'
                try clear c1
                try clear p1
                try clear q1
                try clear hx1
                try clear qi1
                try clear c2
                try clear p2
                try clear c3
                try clear c4
                try clear c4b0
                try clear c4b1
                try clear c5
                try clear c5b0
                try clear c5b1
                try clear p6
                try clear c10
                try clear c10b0
                try clear c11
                try clear c11b0
                try clear p11
                try clear q11
                try clear hx11
                try clear qi11
                try clear c12
                try clear c12b0
                try clear c12b1
                try clear p12
                try clear q12
                try clear hx12
                try clear qi12
                try clear c16
                try clear c16b0
                try clear c16b1
                try clear c23
                try clear c24
                try clear c25
                try clear c25b0
                try clear c25b1
                try clear c28
                try clear c29
                try clear c29b0
                try clear c30
                try clear c30b0
                try clear hcz14_0
                try clear hcz14_1
                try clear hcz14_2
                try clear hcz14_3
                try clear hcz18_0
                try clear hcz18_1
                try clear hcz18_2
                try clear hcz18_3
                try clear hcz23_0
                try clear hcz23_1
                try clear hcz23_2
                try clear hcz23_3
                try clear hcz26_0
                try clear hcz26_1
                try clear hcz26_2
                try clear hcz26_3
                try clear hcz27_0
                try clear hcz27_1
                try clear hcz27_2
                try clear hcz27_3
                try clear hcz8_0
                try clear hcz8_1
                try clear hcz8_2
                try clear hcz8_3
                try clear hfz14_0
                try clear hfz14_1
                try clear hfz14_2
                try clear hfz14_3
                try clear hfz18_0
                try clear hfz18_1
                try clear hfz18_2
                try clear hfz18_3
                try clear hfz23_0
                try clear hfz23_1
                try clear hfz23_2
                try clear hfz23_3
                try clear hfz26_0
                try clear hfz26_1
                try clear hfz26_2
                try clear hfz26_3
                try clear hfz27_0
                try clear hfz27_1
                try clear hfz27_2
                try clear hfz27_3
                try clear hfz8_0
                try clear hfz8_1
                try clear hfz8_2
                try clear hfz8_3
                try clear hx117_0
                try clear hx117_1
                try clear hx117_2
                try clear hx117_3
                try clear hx121_0
                try clear hx121_1
                try clear hx121_2
                try clear hx121_3
                try clear hx123_0
                try clear hx123_1
                try clear hx123_2
                try clear hx123_3
                try clear hx126_0
                try clear hx126_1
                try clear hx126_2
                try clear hx126_3
                try clear hx126_4
                try clear hx126_5
                try clear hx126_6
                try clear p1
                try clear p11
                try clear p117
                try clear p12
                try clear p121
                try clear p123
                try clear p126
                try clear p2
                try clear p6
                try clear q1
                try clear q11
                try clear q117
                try clear q12
                try clear q121
                try clear q123
                try clear q126
                obtain ⟨x12_2, rfl, HA, HK2, BK116, HB⟩ := hrel
                cases gk with
                | zero => exact absurd HA.out (by simp [crosstreeref06_Inner.l1])
                | succ k2 =>
                  have H := HA.out
                  clear HA
                  simp only [crosstreeref06_Inner.l1] at H
                  by_cases c31 : x12_2 < (((rd_T51 l0 t125).f3).length : Int)
                  · rw [if_pos c31] at H
                    have c31b0 : decide (x12_2 < (((rd_T51 l0 t125).f3).length : Int)) = true := decide_eq_true c31
                    clear c31
                    by_cases c32 : 0 ≤ x12_2
                    · rw [if_pos c32] at H
                      have c32b0 : decide (0 ≤ x12_2) = true := decide_eq_true c32
                      clear c32
                      replace H := Option.bind_eq_some_iff.mp H
                      obtain ⟨⟨t128, t129, t130⟩, A330, H⟩ := H
                      replace H : (if ((rd_T72 ((rd_T51 l0 t125).f3) x12_2).f2) ≤ a2 then (if a2 < (wrap64 (((rd_T72 ((rd_T51 l0 t125).f3) x12_2).f2) + t128)) then ((crosstreeref06_Inner.f k2 l0 ((rd_T72 ((rd_T51 l0 t125).f3) x12_2).f1.f0) ((rd_T72 ((rd_T51 l0 t125).f3) x12_2).f1.f1) ((rd_T72 ((rd_T51 l0 t125).f3) x12_2).f1.f2) ((rd_T72 ((rd_T51 l0 t125).f3) x12_2).f1.f3) (wrap64 (a2 - ((rd_T72 ((rd_T51 l0 t125).f3) x12_2).f2)))).bind fun t136 => (some (wrap64 (((rd_T72 ((rd_T51 l0 t125).f3) x12_2).f2) + t136)))) else (crosstreeref06_Inner.l1 k2 l0 a2 ((rd_T51 l0 t125).f3) (wrap64 (x12_2 + 1)))) else (crosstreeref06_Inner.l1 k2 l0 a2 ((rd_T51 l0 t125).f3) (wrap64 (x12_2 + 1)))) = some r := H
                      have A33 := Aside0.mk A330
                      clear A330
                      by_cases c34 : ((rd_T72 ((rd_T51 l0 t125).f3) x12_2).f2) ≤ a2
                      · rw [if_pos c34] at H
                        have c34b0 : decide (((rd_T72 ((rd_T51 l0 t125).f3) x12_2).f2) ≤ a2) = true := decide_eq_true c34
                        clear c34
                        by_cases c35 : a2 < (wrap64 (((rd_T72 ((rd_T51 l0 t125).f3) x12_2).f2) + t128))
                        · rw [if_pos c35] at H
                          have c35b0 : decide (a2 < (wrap64 (((rd_T72 ((rd_T51 l0 t125).f3) x12_2).f2) + t128))) = true := decide_eq_true c35
                          clear c35
                          replace H := Option.bind_eq_some_iff.mp H
                          obtain ⟨t136, A360, H⟩ := H
                          replace H : (some (wrap64 (((rd_T72 ((rd_T51 l0 t125).f3) x12_2).f2) + t136))) = some r := H
                          have A36 := Aside0.mk A360
                          clear A360
                          obtain rfl := Option.some.inj H
                          have p127 : 0 ≤ (x12_2 : Int) := of_decide_eq_true (by first | (with_reducible assumption) | assumption)
                          have q127 : x12_2 < (((rd_T51 l0 t125).f3).length : Int) := of_decide_eq_true (by first | (with_reducible assumption) | assumption)
                          obtain ⟨ad127, A127_4, c127_4, e127, hx127_0, hx127_1, hx127_2, hx127_3, hx127_4, hx127_5, hl127_4, hi127_4⟩ := at_T72 HR126_6.out x12_2 p127 q127
                          cases e127
                          replace hx127_0 := (HB.out.cell (World.block_lt_of_cell? w _ hx127_0)).trans hx127_0
                          replace hx127_1 := (HB.out.cell (World.block_lt_of_cell? w _ hx127_1)).trans hx127_1
                          replace hx127_2 := (HB.out.cell (World.block_lt_of_cell? w _ hx127_2)).trans hx127_2
                          replace hx127_3 := (HB.out.cell (World.block_lt_of_cell? w _ hx127_3)).trans hx127_3
                          replace hx127_4 := (HB.out.cell (World.block_lt_of_cell? w _ hx127_4)).trans hx127_4
                          replace hx127_5 := (HB.out.cell (World.block_lt_of_cell? w _ hx127_5)).trans hx127_5
                          have HR127_4 := Aside0.mk hi127_4
                          have HC127_4 := Aside0.mk hl127_4
                          clear hi127_4 hl127_4
                          replace p127 := eq_true p127
                          replace q127 := eq_true q127
                          try go_wp2_with (first | ((with_reducible refine gate_callee (f := 23) rfl ?_); refine goesL_ (some 75) rfl rfl Try.func23 (by kernel_rfl) rfl #[.slice (some ad126) l0.length c0, .agg #[.int .i64 ((rd_T72 ((rd_T51 l0 t125).f3) x12_2).f1.f0), .int .i64 ((rd_T72 ((rd_T51 l0 t125).f3) x12_2).f1.f1), .string ((rd_T72 ((rd_T51 l0 t125).f3) x12_2).f1.f2), .slice A127_4 ((rd_T72 ((rd_T51 l0 t125).f3) x12_2).f1.f3).length c127_4]] rfl (by (try simp only [List.map_toArray, List.map_cons, List.map_nil]); first | done | rfl | (simp only [List.length_drop, List.length_take]; rfl)) ?_; (with_reducible refine (crosstreeref05_Size.calls k2 _ _ l0 ((rd_T72 ((rd_T51 l0 t125).f3) x12_2).f1.f0) ((rd_T72 ((rd_T51 l0 t125).f3) x12_2).f1.f1) ((rd_T72 ((rd_T51 l0 t125).f3) x12_2).f1.f2) _ _ ((rd_T72 ((rd_T51 l0 t125).f3) x12_2).f1.f3) t128 t129 t130 _ ?side1 ?side2 ?side3 ?side4 A33.out).mono ?_); (case side1 => repeat (first | exact (Kd.C_below HR0.out HB.out) | (with_reducible refine Kd.C_alloc ?_ _) | (with_reducible refine Kd.C_drewN ?_ _) | (with_reducible refine Kd.C_drew ?_))); (case side2 => exact HC0.out); (case side3 => repeat (first | exact (Kd.C_below HR127_4.out HB.out) | (with_reducible refine Kd.C_alloc ?_ _) | (with_reducible refine Kd.C_drewN ?_ _) | (with_reducible refine Kd.C_drew ?_))); (case side4 => exact HC127_4.out); rintro e w37 ⟨rfl, hb⟩; refine ⟨_, rfl, ?_⟩; have n0_ := Aside0.mk (blk_below (g := gb116) (o := .cells #[.int .i64 a1_0, .int .i64 a1_1, .string a1_2, .slice A1_3 l1_3.length c1_3] 24 (0, 0)) (by (with_reducible repeat (first | refine blk_drewN ?_ _ | refine blk_drew ?_ | refine blk_alloc ?_ _)); exact BK116.out) hb); have n1_ := Aside0.mk (below_step (by repeat (first | (with_reducible first | exact HB.out | apply below_alloc | apply pw_below_drewN | apply below_drew1 | refine below_set ?_ GE116.out) | exact HB.out)) hb); clear BK116; clear HB; have BK116 := n0_; have HB := n1_; clear n0_ n1_; (try clear hb); (try clear hb2); (try clear hk); (try clear hi); have p131 : 0 ≤ (x12_2 : Int) := of_decide_eq_true (by first | (with_reducible assumption) | assumption); have q131 : x12_2 < (((rd_T51 l0 t125).f3).length : Int) := of_decide_eq_true (by first | (with_reducible assumption) | assumption); obtain ⟨ad131, A131_4, c131_4, e131, hx131_0, hx131_1, hx131_2, hx131_3, hx131_4, hx131_5, hl131_4, hi131_4⟩ := at_T72 HR126_6.out x12_2 p131 q131; obtain rfl : ad127 = ad131 := (by injection e131); replace hx131_0 := (HB.out.cell (World.block_lt_of_cell? w _ hx131_0)).trans hx131_0; replace hx131_1 := (HB.out.cell (World.block_lt_of_cell? w _ hx131_1)).trans hx131_1; replace hx131_2 := (HB.out.cell (World.block_lt_of_cell? w _ hx131_2)).trans hx131_2; replace hx131_3 := (HB.out.cell (World.block_lt_of_cell? w _ hx131_3)).trans hx131_3; replace hx131_4 := (HB.out.cell (World.block_lt_of_cell? w _ hx131_4)).trans hx131_4; replace hx131_5 := (HB.out.cell (World.block_lt_of_cell? w _ hx131_5)).trans hx131_5; have HR131_4 := Aside0.mk hi131_4; have HC131_4 := Aside0.mk hl131_4; clear hi131_4 hl131_4; replace p131 := eq_true p131; replace q131 := eq_true q131; have p132 : 0 ≤ (x12_2 : Int) := of_decide_eq_true (by first | (with_reducible assumption) | assumption); have q132 : x12_2 < (((rd_T51 l0 t125).f3).length : Int) := of_decide_eq_true (by first | (with_reducible assumption) | assumption); obtain ⟨ad132, A132_4, c132_4, e132, hx132_0, hx132_1, hx132_2, hx132_3, hx132_4, hx132_5, hl132_4, hi132_4⟩ := at_T72 HR126_6.out x12_2 p132 q132; obtain rfl : ad127 = ad132 := (by injection e132); replace hx132_0 := (HB.out.cell (World.block_lt_of_cell? w _ hx132_0)).trans hx132_0; replace hx132_1 := (HB.out.cell (World.block_lt_of_cell? w _ hx132_1)).trans hx132_1; replace hx132_2 := (HB.out.cell (World.block_lt_of_cell? w _ hx132_2)).trans hx132_2; replace hx132_3 := (HB.out.cell (World.block_lt_of_cell? w _ hx132_3)).trans hx132_3; replace hx132_4 := (HB.out.cell (World.block_lt_of_cell? w _ hx132_4)).trans hx132_4; replace hx132_5 := (HB.out.cell (World.block_lt_of_cell? w _ hx132_5)).trans hx132_5; have HR132_4 := Aside0.mk hi132_4; have HC132_4 := Aside0.mk hl132_4; clear hi132_4 hl132_4; replace p132 := eq_true p132; replace q132 := eq_true q132; have ea_ := Option.some.inj (hx131_4.symm.trans hx132_4); injection ea_ with ea_ en_ ec_; subst ea_; subst ec_; clear en_))
                          have n0_ := Aside0.mk (blk_drew BK116.out)
                          have n1_ := Aside0.mk (below_drew1 HB.out)
                          clear BK116
                          clear HB
                          have BK116 := n0_
                          have HB := n1_
                          clear n0_ n1_
                          have p133 : 0 ≤ (x12_2 : Int) := of_decide_eq_true (by first | (with_reducible assumption) | assumption)
                          have q133 : x12_2 < (((rd_T51 l0 t125).f3).length : Int) := of_decide_eq_true (by first | (with_reducible assumption) | assumption)
                          obtain ⟨ad133, A133_4, c133_4, e133, hx133_0, hx133_1, hx133_2, hx133_3, hx133_4, hx133_5, hl133_4, hi133_4⟩ := at_T72 HR126_6.out x12_2 p133 q133
                          have hw133_5 := hx133_5
                          have hw133_4 := hx133_4
                          have hw133_3 := hx133_3
                          have hw133_2 := hx133_2
                          have hw133_1 := hx133_1
                          have hw133_0 := hx133_0
                          obtain rfl : ad127 = ad133 := (by injection e133)
                          replace hx133_0 := (HB.out.cell (World.block_lt_of_cell? w _ hx133_0)).trans hx133_0
                          replace hx133_1 := (HB.out.cell (World.block_lt_of_cell? w _ hx133_1)).trans hx133_1
                          replace hx133_2 := (HB.out.cell (World.block_lt_of_cell? w _ hx133_2)).trans hx133_2
                          replace hx133_3 := (HB.out.cell (World.block_lt_of_cell? w _ hx133_3)).trans hx133_3
                          replace hx133_4 := (HB.out.cell (World.block_lt_of_cell? w _ hx133_4)).trans hx133_4
                          replace hx133_5 := (HB.out.cell (World.block_lt_of_cell? w _ hx133_5)).trans hx133_5
                          have HR133_4 := Aside0.mk hi133_4
                          have HC133_4 := Aside0.mk hl133_4
                          clear hi133_4 hl133_4
                          replace p133 := eq_true p133
                          replace q133 := eq_true q133
                          have p134 : 0 ≤ (x12_2 : Int) := of_decide_eq_true (by first | (with_reducible assumption) | assumption)
                          have q134 : x12_2 < (((rd_T51 l0 t125).f3).length : Int) := of_decide_eq_true (by first | (with_reducible assumption) | assumption)
                          obtain ⟨ad134, A134_4, c134_4, e134, hx134_0, hx134_1, hx134_2, hx134_3, hx134_4, hx134_5, hl134_4, hi134_4⟩ := at_T72 HR126_6.out x12_2 p134 q134
                          have hw134_5 := hx134_5
                          have hw134_4 := hx134_4
                          have hw134_3 := hx134_3
                          have hw134_2 := hx134_2
                          have hw134_1 := hx134_1
                          have hw134_0 := hx134_0
                          obtain rfl : ad127 = ad134 := (by injection e134)
                          replace hx134_0 := (HB.out.cell (World.block_lt_of_cell? w _ hx134_0)).trans hx134_0
                          replace hx134_1 := (HB.out.cell (World.block_lt_of_cell? w _ hx134_1)).trans hx134_1
                          replace hx134_2 := (HB.out.cell (World.block_lt_of_cell? w _ hx134_2)).trans hx134_2
                          replace hx134_3 := (HB.out.cell (World.block_lt_of_cell? w _ hx134_3)).trans hx134_3
                          replace hx134_4 := (HB.out.cell (World.block_lt_of_cell? w _ hx134_4)).trans hx134_4
                          replace hx134_5 := (HB.out.cell (World.block_lt_of_cell? w _ hx134_5)).trans hx134_5
                          have HR134_4 := Aside0.mk hi134_4
                          have HC134_4 := Aside0.mk hl134_4
                          clear hi134_4 hl134_4
                          replace p134 := eq_true p134
                          replace q134 := eq_true q134
                          have ea_ := Option.some.inj (hx133_4.symm.trans hx134_4)
                          injection ea_ with ea_ en_ ec_
                          subst ea_
                          subst ec_
                          clear en_
                          have p135 : 0 ≤ (x12_2 : Int) := of_decide_eq_true (by first | (with_reducible assumption) | assumption)
                          have q135 : x12_2 < (((rd_T51 l0 t125).f3).length : Int) := of_decide_eq_true (by first | (with_reducible assumption) | assumption)
                          obtain ⟨ad135, A135_4, c135_4, e135, hx135_0, hx135_1, hx135_2, hx135_3, hx135_4, hx135_5, hl135_4, hi135_4⟩ := at_T72 HR126_6.out x12_2 p135 q135
                          have hw135_5 := hx135_5
                          have hw135_4 := hx135_4
                          have hw135_3 := hx135_3
                          have hw135_2 := hx135_2
                          have hw135_1 := hx135_1
                          have hw135_0 := hx135_0
                          obtain rfl : ad127 = ad135 := (by injection e135)
                          replace hx135_0 := (HB.out.cell (World.block_lt_of_cell? w _ hx135_0)).trans hx135_0
                          replace hx135_1 := (HB.out.cell (World.block_lt_of_cell? w _ hx135_1)).trans hx135_1
                          replace hx135_2 := (HB.out.cell (World.block_lt_of_cell? w _ hx135_2)).trans hx135_2
                          replace hx135_3 := (HB.out.cell (World.block_lt_of_cell? w _ hx135_3)).trans hx135_3
                          replace hx135_4 := (HB.out.cell (World.block_lt_of_cell? w _ hx135_4)).trans hx135_4
                          replace hx135_5 := (HB.out.cell (World.block_lt_of_cell? w _ hx135_5)).trans hx135_5
                          have HR135_4 := Aside0.mk hi135_4
                          have HC135_4 := Aside0.mk hl135_4
                          clear hi135_4 hl135_4
                          replace p135 := eq_true p135
                          replace q135 := eq_true q135
                          have ea_ := Option.some.inj (hx133_4.symm.trans hx135_4)
                          injection ea_ with ea_ en_ ec_
                          subst ea_
                          subst ec_
                          clear en_
                          refine start_ (n := 21) (S := fun w' => w'.cell? (ad127.add ((x12_2).toNat * 6)) = some (.string ((rd_T72 ((rd_T51 l0 t125).f3) x12_2).f0)) ∧ w'.cell? ⟨(ad127.add ((x12_2).toNat * 6)).block, (ad127.add ((x12_2).toNat * 6)).off + 1, none⟩ = some (.int .i64 ((rd_T72 ((rd_T51 l0 t125).f3) x12_2).f1.f0)) ∧ w'.cell? ⟨(ad127.add ((x12_2).toNat * 6)).block, (ad127.add ((x12_2).toNat * 6)).off + 2, none⟩ = some (.int .i64 ((rd_T72 ((rd_T51 l0 t125).f3) x12_2).f1.f1)) ∧ w'.cell? ⟨(ad127.add ((x12_2).toNat * 6)).block, (ad127.add ((x12_2).toNat * 6)).off + 3, none⟩ = some (.string ((rd_T72 ((rd_T51 l0 t125).f3) x12_2).f1.f2)) ∧ w'.cell? ⟨(ad127.add ((x12_2).toNat * 6)).block, (ad127.add ((x12_2).toNat * 6)).off + 4, none⟩ = some (.slice A133_4 ((rd_T72 ((rd_T51 l0 t125).f3) x12_2).f1.f3).length c133_4) ∧ w'.cell? ⟨(ad127.add ((x12_2).toNat * 6)).block, (ad127.add ((x12_2).toNat * 6)).off + 5, none⟩ = some (.int .i64 ((rd_T72 ((rd_T51 l0 t125).f3) x12_2).f2)) ∧ w'.cell? (ad127.add ((x12_2).toNat * 6)) = some (.string ((rd_T72 ((rd_T51 l0 t125).f3) x12_2).f0)) ∧ w'.cell? ⟨(ad127.add ((x12_2).toNat * 6)).block, (ad127.add ((x12_2).toNat * 6)).off + 1, none⟩ = some (.int .i64 ((rd_T72 ((rd_T51 l0 t125).f3) x12_2).f1.f0)) ∧ w'.cell? ⟨(ad127.add ((x12_2).toNat * 6)).block, (ad127.add ((x12_2).toNat * 6)).off + 2, none⟩ = some (.int .i64 ((rd_T72 ((rd_T51 l0 t125).f3) x12_2).f1.f1)) ∧ w'.cell? ⟨(ad127.add ((x12_2).toNat * 6)).block, (ad127.add ((x12_2).toNat * 6)).off + 3, none⟩ = some (.string ((rd_T72 ((rd_T51 l0 t125).f3) x12_2).f1.f2)) ∧ w'.cell? ⟨(ad127.add ((x12_2).toNat * 6)).block, (ad127.add ((x12_2).toNat * 6)).off + 4, none⟩ = some (.slice A133_4 ((rd_T72 ((rd_T51 l0 t125).f3) x12_2).f1.f3).length c133_4) ∧ w'.cell? ⟨(ad127.add ((x12_2).toNat * 6)).block, (ad127.add ((x12_2).toNat * 6)).off + 5, none⟩ = some (.int .i64 ((rd_T72 ((rd_T51 l0 t125).f3) x12_2).f2)) ∧ w'.cell? (ad127.add ((x12_2).toNat * 6)) = some (.string ((rd_T72 ((rd_T51 l0 t125).f3) x12_2).f0)) ∧ w'.cell? ⟨(ad127.add ((x12_2).toNat * 6)).block, (ad127.add ((x12_2).toNat * 6)).off + 1, none⟩ = some (.int .i64 ((rd_T72 ((rd_T51 l0 t125).f3) x12_2).f1.f0)) ∧ w'.cell? ⟨(ad127.add ((x12_2).toNat * 6)).block, (ad127.add ((x12_2).toNat * 6)).off + 2, none⟩ = some (.int .i64 ((rd_T72 ((rd_T51 l0 t125).f3) x12_2).f1.f1)) ∧ w'.cell? ⟨(ad127.add ((x12_2).toNat * 6)).block, (ad127.add ((x12_2).toNat * 6)).off + 3, none⟩ = some (.string ((rd_T72 ((rd_T51 l0 t125).f3) x12_2).f1.f2)) ∧ w'.cell? ⟨(ad127.add ((x12_2).toNat * 6)).block, (ad127.add ((x12_2).toNat * 6)).off + 4, none⟩ = some (.slice A133_4 ((rd_T72 ((rd_T51 l0 t125).f3) x12_2).f1.f3).length c133_4) ∧ w'.cell? ⟨(ad127.add ((x12_2).toNat * 6)).block, (ad127.add ((x12_2).toNat * 6)).off + 5, none⟩ = some (.int .i64 ((rd_T72 ((rd_T51 l0 t125).f3) x12_2).f2))) (ds := []) #[false, false, false, false, false, false, false, false, false, false, false, false, false, false, false, false, false, false, false, false, false] (by kernel_rfl) rfl rfl ⟨((HB.out.cell (World.block_lt_of_cell? w _ hw133_0)).trans hw133_0), ((HB.out.cell (World.block_lt_of_cell? w _ hw133_1)).trans hw133_1), ((HB.out.cell (World.block_lt_of_cell? w _ hw133_2)).trans hw133_2), ((HB.out.cell (World.block_lt_of_cell? w _ hw133_3)).trans hw133_3), ((HB.out.cell (World.block_lt_of_cell? w _ hw133_4)).trans hw133_4), ((HB.out.cell (World.block_lt_of_cell? w _ hw133_5)).trans hw133_5), ((HB.out.cell (World.block_lt_of_cell? w _ hw134_0)).trans hw134_0), ((HB.out.cell (World.block_lt_of_cell? w _ hw134_1)).trans hw134_1), ((HB.out.cell (World.block_lt_of_cell? w _ hw134_2)).trans hw134_2), ((HB.out.cell (World.block_lt_of_cell? w _ hw134_3)).trans hw134_3), ((HB.out.cell (World.block_lt_of_cell? w _ hw134_4)).trans hw134_4), ((HB.out.cell (World.block_lt_of_cell? w _ hw134_5)).trans hw134_5), ((HB.out.cell (World.block_lt_of_cell? w _ hw135_0)).trans hw135_0), ((HB.out.cell (World.block_lt_of_cell? w _ hw135_1)).trans hw135_1), ((HB.out.cell (World.block_lt_of_cell? w _ hw135_2)).trans hw135_2), ((HB.out.cell (World.block_lt_of_cell? w _ hw135_3)).trans hw135_3), ((HB.out.cell (World.block_lt_of_cell? w _ hw135_4)).trans hw135_4), ((HB.out.cell (World.block_lt_of_cell? w _ hw135_5)).trans hw135_5)⟩ (fun hHeld => ?_); refine with_tabW crosstreeref06_Inner.tab15 crosstreeref06_Inner.bits15 (fun HT_ HW_ => ?_)
                          generalize w37.drew = w38 at BK116 HB HR133_4 HR134_4 HR135_4 hx133_0 hx133_1 hx133_2 hx133_3 hx133_4 hx133_5 hx134_0 hx134_1 hx134_2 hx134_3 hx134_4 hx134_5 hx135_0 hx135_1 hx135_2 hx135_3 hx135_4 hx135_5 hHeld ⊢
                          refine pure_ (i := 0) (N := some 97) (v := ?_) (a' := ?_) #[true, false, false, false, false, false, false, false, false, false, false, false, false, false, false, false, false, false, false, false, false] rfl rfl (any_of HT_.out (by kernel_rfl)) (fun _ _ _ h => h) (Or.inl ⟨by rfl, ?_⟩) ?_ ?_
                          rotate_left
                          · intro w'
                            go_simp
                            with_reducible rfl
                          rotate_left
                          · simp only [Act.put, List.setIfInBounds_toArray, List.set_cons_zero, List.set_cons_succ, i64_w, i32_w]
                            rfl
                          refine pure_ (i := 1) (N := some 98) (v := ?_) (a' := ?_) #[true, true, false, false, false, false, false, false, false, false, false, false, false, false, false, false, false, false, false, false, false] rfl rfl (any_of HT_.out (by kernel_rfl)) (fun _ _ _ h => h) (Or.inl ⟨by rfl, ?_⟩) ?_ ?_
                          rotate_left
                          · intro w'
                            go_simp
                            with_reducible rfl
                          rotate_left
                          · simp only [Act.put, List.setIfInBounds_toArray, List.set_cons_zero, List.set_cons_succ, i64_w, i32_w]
                            rfl
                          refine pure_ (i := 2) (N := some 99) (v := ?_) (a' := ?_) #[true, true, true, false, false, false, false, false, false, false, false, false, false, false, false, false, false, false, false, false, false] rfl rfl (any_of HT_.out (by kernel_rfl)) (fun _ _ _ h => h) (Or.inl ⟨by rfl, ?_⟩) ?_ ?_
                          rotate_left
                          · intro w'
                            go_simp
                            with_reducible rfl
                          rotate_left
                          · simp only [Act.put, List.setIfInBounds_toArray, List.set_cons_zero, List.set_cons_succ, i64_w, i32_w]
                            rfl
                          refine pure_ (i := 3) (N := some 100) (v := ?_) (a' := ?_) #[true, true, true, true, false, false, false, false, false, false, false, false, false, false, false, false, false, false, false, false, false] rfl rfl (any_of HT_.out (by kernel_rfl)) (fun _ _ _ h => h) (Or.inl ⟨by rfl, ?_⟩) ?_ ?_
                          rotate_left
                          · intro w'
                            go_simp
                            with_reducible rfl
                          rotate_left
                          · simp only [Act.put, List.setIfInBounds_toArray, List.set_cons_zero, List.set_cons_succ, i64_w, i32_w]
                            rfl
                          refine pure_ (i := 5) (N := some 102) (v := ?_) (a' := ?_) #[true, true, true, true, false, true, false, false, false, false, false, false, false, false, false, false, false, false, false, false, false] rfl rfl (any_of HT_.out (by kernel_rfl)) (fun _ _ _ h => h) (Or.inl ⟨by rfl, ?_⟩) ?_ ?_
                          rotate_left
                          · intro w'
                            go_simp
                            with_reducible rfl
                          rotate_left
                          · simp only [Act.put, List.setIfInBounds_toArray, List.set_cons_zero, List.set_cons_succ, i64_w, i32_w]
                            rfl
                          refine pure_ (i := 6) (N := some 103) (v := ?_) (a' := ?_) #[true, true, true, true, false, true, true, false, false, false, false, false, false, false, false, false, false, false, false, false, false] rfl rfl (any_of HT_.out (by kernel_rfl)) (fun _ _ _ h => h) (Or.inl ⟨by rfl, ?_⟩) ?_ ?_
                          rotate_left
                          · intro w'
                            go_simp
                            with_reducible rfl
                          rotate_left
                          · simp only [Act.put, List.setIfInBounds_toArray, List.set_cons_zero, List.set_cons_succ, i64_w, i32_w]
                            rfl
                          refine pure_ (i := 7) (N := some 104) (v := ?_) (a' := ?_) #[true, true, true, true, false, true, true, true, false, false, false, false, false, false, false, false, false, false, false, false, false] rfl rfl (any_of HT_.out (by kernel_rfl)) (fun _ _ _ h => h) (Or.inl ⟨by rfl, ?_⟩) ?_ ?_
                          rotate_left
                          · intro w'
                            go_simp
                            with_reducible rfl
                          rotate_left
                          · simp only [Act.put, List.setIfInBounds_toArray, List.set_cons_zero, List.set_cons_succ, i64_w, i32_w]
                            rfl
                          refine pure_ (i := 8) (N := some 105) (v := ?_) (a' := ?_) #[true, true, true, true, false, true, true, true, true, false, false, false, false, false, false, false, false, false, false, false, false] rfl rfl (any_of HT_.out (by kernel_rfl)) (fun _ _ _ h => h) (Or.inl ⟨by rfl, ?_⟩) ?_ ?_
                          rotate_left
                          · intro w'
                            go_simp
                            with_reducible rfl
                          rotate_left
                          · simp only [Act.put, List.setIfInBounds_toArray, List.set_cons_zero, List.set_cons_succ, i64_w, i32_w]
                            rfl
                          refine pure_ (i := 9) (N := some 106) (v := ?_) (a' := ?_) #[true, true, true, true, false, true, true, true, true, true, false, false, false, false, false, false, false, false, false, false, false] rfl rfl (any_of HT_.out (by kernel_rfl)) (fun _ _ _ h => h) (Or.inl ⟨by rfl, ?_⟩) ?_ ?_
                          rotate_left
                          · intro w'
                            go_simp
                            with_reducible rfl
                          rotate_left
                          · simp only [Act.put, List.setIfInBounds_toArray, List.set_cons_zero, List.set_cons_succ, i64_w, i32_w]
                            rfl
                          refine pure_ (i := 11) (N := some 108) (v := ?_) (a' := ?_) #[true, true, true, true, false, true, true, true, true, true, false, true, false, false, false, false, false, false, false, false, false] rfl rfl (any_of HT_.out (by kernel_rfl)) (fun _ _ _ h => h) (Or.inl ⟨by rfl, ?_⟩) ?_ ?_
                          rotate_left
                          · intro w'
                            go_simp
                            with_reducible rfl
                          rotate_left
                          · simp only [Act.put, List.setIfInBounds_toArray, List.set_cons_zero, List.set_cons_succ, i64_w, i32_w]
                            rfl
                          refine pure_ (i := 12) (N := some 109) (v := ?_) (a' := ?_) #[true, true, true, true, false, true, true, true, true, true, false, true, true, false, false, false, false, false, false, false, false] rfl rfl (any_of HT_.out (by kernel_rfl)) (fun _ _ _ h => h) (Or.inl ⟨by rfl, ?_⟩) ?_ ?_
                          rotate_left
                          · intro w'
                            go_simp
                            with_reducible rfl
                          rotate_left
                          · simp only [Act.put, List.setIfInBounds_toArray, List.set_cons_zero, List.set_cons_succ, i64_w, i32_w]
                            rfl
                          refine pure_ (i := 13) (N := some 110) (v := ?_) (a' := ?_) #[true, true, true, true, false, true, true, true, true, true, false, true, true, true, false, false, false, false, false, false, false] rfl rfl (any_of HT_.out (by kernel_rfl)) (fun _ _ _ h => h) (Or.inl ⟨by rfl, ?_⟩) ?_ ?_
                          rotate_left
                          · intro w'
                            go_simp
                            with_reducible rfl
                          rotate_left
                          · simp only [Act.put, List.setIfInBounds_toArray, List.set_cons_zero, List.set_cons_succ, i64_w, i32_w]
                            rfl
                          refine pure_ (i := 14) (N := some 111) (v := ?_) (a' := ?_) #[true, true, true, true, false, true, true, true, true, true, false, true, true, true, true, false, false, false, false, false, false] rfl rfl (any_of HT_.out (by kernel_rfl)) (fun _ _ _ h => h) (Or.inl ⟨by rfl, ?_⟩) ?_ ?_
                          rotate_left
                          · intro w'
                            go_simp
                            with_reducible rfl
                          rotate_left
                          · simp only [Act.put, List.setIfInBounds_toArray, List.set_cons_zero, List.set_cons_succ, i64_w, i32_w]
                            rfl
                          refine pure_ (i := 15) (N := some 112) (v := ?_) (a' := ?_) #[true, true, true, true, false, true, true, true, true, true, false, true, true, true, true, true, false, false, false, false, false] rfl rfl (any_of HT_.out (by kernel_rfl)) (fun _ _ _ h => h) (Or.inl ⟨by rfl, ?_⟩) ?_ ?_
                          rotate_left
                          · intro w'
                            go_simp
                            with_reducible rfl
                          rotate_left
                          · simp only [Act.put, List.setIfInBounds_toArray, List.set_cons_zero, List.set_cons_succ, i64_w, i32_w]
                            rfl
                          refine take_ (i := 4) (N := some 101) (v := ?_) (a' := ?_) #[true, true, true, true, true, true, true, true, true, true, false, true, true, true, true, true, false, false, false, false, false] rfl rfl (take_ofW HT_.out HW_.out (by kernel_rfl)) (fun _ _ _ h => h) (Or.inl ⟨by rfl, ?_⟩) hHeld ?_ ?_
                          rotate_left
                          · rintro w' ⟨s0, s1, s2, s3, s4, s5, s6, s7, s8, s9, s10, s11, s12, s13, s14, s15, s16, s17⟩
                            go_simp
                            with_reducible rfl
                          rotate_left
                          · simp only [Act.put, List.setIfInBounds_toArray, List.set_cons_zero, List.set_cons_succ, i64_w, i32_w]
                            rfl
                          refine take_ (i := 10) (N := some 107) (v := ?_) (a' := ?_) #[true, true, true, true, true, true, true, true, true, true, true, true, true, true, true, true, false, false, false, false, false] rfl rfl (take_ofW HT_.out HW_.out (by kernel_rfl)) (fun _ _ _ h => h) (Or.inl ⟨by rfl, ?_⟩) hHeld ?_ ?_
                          rotate_left
                          · rintro w' ⟨s0, s1, s2, s3, s4, s5, s6, s7, s8, s9, s10, s11, s12, s13, s14, s15, s16, s17⟩
                            go_simp
                            with_reducible rfl
                          rotate_left
                          · simp only [Act.put, List.setIfInBounds_toArray, List.set_cons_zero, List.set_cons_succ, i64_w, i32_w]
                            rfl
                          refine take_ (i := 16) (N := some 113) (v := ?_) (a' := ?_) #[true, true, true, true, true, true, true, true, true, true, true, true, true, true, true, true, true, false, false, false, false] rfl rfl (take_ofW HT_.out HW_.out (by kernel_rfl)) (fun _ _ _ h => h) (Or.inl ⟨by rfl, ?_⟩) hHeld ?_ ?_
                          rotate_left
                          · rintro w' ⟨s0, s1, s2, s3, s4, s5, s6, s7, s8, s9, s10, s11, s12, s13, s14, s15, s16, s17⟩
                            go_simp
                            with_reducible rfl
                          rotate_left
                          · simp only [Act.put, List.setIfInBounds_toArray, List.set_cons_zero, List.set_cons_succ, i64_w, i32_w]
                            rfl
                          refine pure_ (i := 17) (N := some 114) (v := ?_) (a' := ?_) #[true, true, true, true, true, true, true, true, true, true, true, true, true, true, true, true, true, true, false, false, false] rfl rfl (any_of HT_.out (by kernel_rfl)) (fun _ _ _ h => h) (Or.inl ⟨by rfl, ?_⟩) ?_ ?_
                          rotate_left
                          · intro w'
                            go_simp
                            with_reducible rfl
                          rotate_left
                          · simp only [Act.put, List.setIfInBounds_toArray, List.set_cons_zero, List.set_cons_succ, i64_w, i32_w]
                            rfl
                          refine one_ (i := 18) (N := some 115) #[true, true, true, true, true, true, true, true, true, true, true, true, true, true, true, true, true, true, true, false, false] rfl rfl (one_of HT_.out (by kernel_rfl)) (by decide) (fun K hK => ?_)
                          refine goes_ Try.func24 (by kernel_rfl) rfl #[.slice (some ad126) l0.length c0, .agg #[.int .i64 ((rd_T72 ((rd_T51 l0 t125).f3) x12_2).f1.f0), .int .i64 ((rd_T72 ((rd_T51 l0 t125).f3) x12_2).f1.f1), .string ((rd_T72 ((rd_T51 l0 t125).f3) x12_2).f1.f2), .slice A133_4 ((rd_T72 ((rd_T51 l0 t125).f3) x12_2).f1.f3).length c133_4], .int .i64 (wrap64 (a2 - ((rd_T72 ((rd_T51 l0 t125).f3) x12_2).f2)))] (by rfl) rfl rfl (by (try simp only [List.map_toArray, List.map_cons, List.map_nil]); first | done | rfl | (simp only [List.length_drop, List.length_take]; rfl)) ?_
                          with_reducible refine (ih k2 (by have := HJ20.out; have := HK2.out; omega) _ _ l0 ((rd_T72 ((rd_T51 l0 t125).f3) x12_2).f1.f0) ((rd_T72 ((rd_T51 l0 t125).f3) x12_2).f1.f1) ((rd_T72 ((rd_T51 l0 t125).f3) x12_2).f1.f2) _ _ ((rd_T72 ((rd_T51 l0 t125).f3) x12_2).f1.f3) (wrap64 (a2 - ((rd_T72 ((rd_T51 l0 t125).f3) x12_2).f2))) t136 _ ?side1 ?side2 ?side3 ?side4 A36.out).mono ?_
                          (case side1 => repeat (first | exact (Kd.C_below HR0.out HB.out) | (with_reducible refine Kd.C_alloc ?_ _) | (with_reducible refine Kd.C_drewN ?_ _) | (with_reducible refine Kd.C_drew ?_)))
                          (case side2 => exact HC0.out)
                          (case side3 => repeat (first | exact (Kd.C_below HR134_4.out HB.out) | (with_reducible refine Kd.C_alloc ?_ _) | (with_reducible refine Kd.C_drewN ?_ _) | (with_reducible refine Kd.C_drew ?_)))
                          (case side4 => exact HC134_4.out)
                          rintro e w39 ⟨rfl, hb⟩
                          refine ⟨_, rfl, ?_⟩
                          have n0_ := Aside0.mk (blk_below (g := gb116) (o := .cells #[.int .i64 a1_0, .int .i64 a1_1, .string a1_2, .slice A1_3 l1_3.length c1_3] 24 (0, 0)) (by (with_reducible repeat (first | refine blk_drewN ?_ _ | refine blk_drew ?_ | refine blk_alloc ?_ _)); exact BK116.out) hb)
                          have n1_ := Aside0.mk (below_step (by repeat (first | (with_reducible first | exact HB.out | apply below_alloc | apply pw_below_drewN | apply below_drew1 | refine below_set ?_ GE116.out) | exact HB.out)) hb)
                          clear BK116
                          clear HB
                          have BK116 := n0_
                          have HB := n1_
                          clear n0_ n1_
                          (try clear hb)
                          (try clear hb2)
                          (try clear hk)
                          (try clear hi)
                          refine hK.out _ _ ⟨((HB.out.cell (World.block_lt_of_cell? w _ hw133_0)).trans hw133_0), ((HB.out.cell (World.block_lt_of_cell? w _ hw133_1)).trans hw133_1), ((HB.out.cell (World.block_lt_of_cell? w _ hw133_2)).trans hw133_2), ((HB.out.cell (World.block_lt_of_cell? w _ hw133_3)).trans hw133_3), ((HB.out.cell (World.block_lt_of_cell? w _ hw133_4)).trans hw133_4), ((HB.out.cell (World.block_lt_of_cell? w _ hw133_5)).trans hw133_5), ((HB.out.cell (World.block_lt_of_cell? w _ hw134_0)).trans hw134_0), ((HB.out.cell (World.block_lt_of_cell? w _ hw134_1)).trans hw134_1), ((HB.out.cell (World.block_lt_of_cell? w _ hw134_2)).trans hw134_2), ((HB.out.cell (World.block_lt_of_cell? w _ hw134_3)).trans hw134_3), ((HB.out.cell (World.block_lt_of_cell? w _ hw134_4)).trans hw134_4), ((HB.out.cell (World.block_lt_of_cell? w _ hw134_5)).trans hw134_5), ((HB.out.cell (World.block_lt_of_cell? w _ hw135_0)).trans hw135_0), ((HB.out.cell (World.block_lt_of_cell? w _ hw135_1)).trans hw135_1), ((HB.out.cell (World.block_lt_of_cell? w _ hw135_2)).trans hw135_2), ((HB.out.cell (World.block_lt_of_cell? w _ hw135_3)).trans hw135_3), ((HB.out.cell (World.block_lt_of_cell? w _ hw135_4)).trans hw135_4), ((HB.out.cell (World.block_lt_of_cell? w _ hw135_5)).trans hw135_5)⟩ (fun hHeld => ?_)
                          clear hK K
                          refine norm_ (a' := ?_) ?_ ?_
                          rotate_left
                          · show Act.put _ (some 115) _ = _
                            simp only [Act.put, List.setIfInBounds_toArray, List.set_cons_zero, List.set_cons_succ, i64_w, i32_w]
                            rfl
                          refine pure_ (i := 19) (N := some 116) (v := ?_) (a' := ?_) #[true, true, true, true, true, true, true, true, true, true, true, true, true, true, true, true, true, true, true, true, false] rfl rfl (any_of HT_.out (by kernel_rfl)) (fun _ _ _ h => h) (Or.inl ⟨by rfl, ?_⟩) ?_ ?_
                          rotate_left
                          · intro w'
                            go_simp
                            with_reducible rfl
                          rotate_left
                          · simp only [Act.put, List.setIfInBounds_toArray, List.set_cons_zero, List.set_cons_succ, i64_w, i32_w]
                            rfl
                          refine pure_ (i := 20) (N := some 6) (v := ?_) (a' := ?_) #[true, true, true, true, true, true, true, true, true, true, true, true, true, true, true, true, true, true, true, true, true] rfl rfl (any_of HT_.out (by kernel_rfl)) (fun _ _ _ h => h) (Or.inl ⟨by rfl, ?_⟩) ?_ ?_
                          rotate_left
                          · intro w'
                            go_simp
                            with_reducible rfl
                          rotate_left
                          · simp only [Act.put, List.setIfInBounds_toArray, List.set_cons_zero, List.set_cons_succ, i64_w, i32_w]
                            rfl
                          refine done_ (done_of HT_.out (by kernel_rfl)) ?_
                          try go_wp2
                          go_ret
                          exact ⟨by first | rfl | (simp [errW_none, errW_some] <;> rfl) | (simp [*, errW_none, errW_some] <;> rfl), by repeat (first | (with_reducible first | exact HB.out | apply below_alloc | apply pw_below_drewN | apply below_drew1 | refine below_set ?_ GE116.out) | exact HB.out)⟩
                        · rw [if_neg c35] at H
                          have c35b0 : decide (a2 < (wrap64 (((rd_T72 ((rd_T51 l0 t125).f3) x12_2).f2) + t128))) = false := decide_eq_false c35
                          clear c35
                          have H' := Aside0.mk H
                          clear H
                          have p127 : 0 ≤ (x12_2 : Int) := of_decide_eq_true (by first | (with_reducible assumption) | assumption)
                          have q127 : x12_2 < (((rd_T51 l0 t125).f3).length : Int) := of_decide_eq_true (by first | (with_reducible assumption) | assumption)
                          obtain ⟨ad127, A127_4, c127_4, e127, hx127_0, hx127_1, hx127_2, hx127_3, hx127_4, hx127_5, hl127_4, hi127_4⟩ := at_T72 HR126_6.out x12_2 p127 q127
                          cases e127
                          replace hx127_0 := (HB.out.cell (World.block_lt_of_cell? w _ hx127_0)).trans hx127_0
                          replace hx127_1 := (HB.out.cell (World.block_lt_of_cell? w _ hx127_1)).trans hx127_1
                          replace hx127_2 := (HB.out.cell (World.block_lt_of_cell? w _ hx127_2)).trans hx127_2
                          replace hx127_3 := (HB.out.cell (World.block_lt_of_cell? w _ hx127_3)).trans hx127_3
                          replace hx127_4 := (HB.out.cell (World.block_lt_of_cell? w _ hx127_4)).trans hx127_4
                          replace hx127_5 := (HB.out.cell (World.block_lt_of_cell? w _ hx127_5)).trans hx127_5
                          have HR127_4 := Aside0.mk hi127_4
                          have HC127_4 := Aside0.mk hl127_4
                          clear hi127_4 hl127_4
                          replace p127 := eq_true p127
                          replace q127 := eq_true q127
                          go_wp2_with (first | ((with_reducible refine gate_callee (f := 23) rfl ?_); refine goesL_ (some 75) rfl rfl Try.func23 (by kernel_rfl) rfl #[.slice (some ad126) l0.length c0, .agg #[.int .i64 ((rd_T72 ((rd_T51 l0 t125).f3) x12_2).f1.f0), .int .i64 ((rd_T72 ((rd_T51 l0 t125).f3) x12_2).f1.f1), .string ((rd_T72 ((rd_T51 l0 t125).f3) x12_2).f1.f2), .slice A127_4 ((rd_T72 ((rd_T51 l0 t125).f3) x12_2).f1.f3).length c127_4]] rfl (by (try simp only [List.map_toArray, List.map_cons, List.map_nil]); first | done | rfl | (simp only [List.length_drop, List.length_take]; rfl)) ?_; (with_reducible refine (crosstreeref05_Size.calls k2 _ _ l0 ((rd_T72 ((rd_T51 l0 t125).f3) x12_2).f1.f0) ((rd_T72 ((rd_T51 l0 t125).f3) x12_2).f1.f1) ((rd_T72 ((rd_T51 l0 t125).f3) x12_2).f1.f2) _ _ ((rd_T72 ((rd_T51 l0 t125).f3) x12_2).f1.f3) t128 t129 t130 _ ?side1 ?side2 ?side3 ?side4 A33.out).mono ?_); (case side1 => repeat (first | exact (Kd.C_below HR0.out HB.out) | (with_reducible refine Kd.C_alloc ?_ _) | (with_reducible refine Kd.C_drewN ?_ _) | (with_reducible refine Kd.C_drew ?_))); (case side2 => exact HC0.out); (case side3 => repeat (first | exact (Kd.C_below HR127_4.out HB.out) | (with_reducible refine Kd.C_alloc ?_ _) | (with_reducible refine Kd.C_drewN ?_ _) | (with_reducible refine Kd.C_drew ?_))); (case side4 => exact HC127_4.out); rintro e w40 ⟨rfl, hb⟩; refine ⟨_, rfl, ?_⟩; have n0_ := Aside0.mk (blk_below (g := gb116) (o := .cells #[.int .i64 a1_0, .int .i64 a1_1, .string a1_2, .slice A1_3 l1_3.length c1_3] 24 (0, 0)) (by (with_reducible repeat (first | refine blk_drewN ?_ _ | refine blk_drew ?_ | refine blk_alloc ?_ _)); exact BK116.out) hb); have n1_ := Aside0.mk (below_step (by repeat (first | (with_reducible first | exact HB.out | apply below_alloc | apply pw_below_drewN | apply below_drew1 | refine below_set ?_ GE116.out) | exact HB.out)) hb); clear BK116; clear HB; have BK116 := n0_; have HB := n1_; clear n0_ n1_; (try clear hb); (try clear hb2); (try clear hk); (try clear hi); have p131 : 0 ≤ (x12_2 : Int) := of_decide_eq_true (by first | (with_reducible assumption) | assumption); have q131 : x12_2 < (((rd_T51 l0 t125).f3).length : Int) := of_decide_eq_true (by first | (with_reducible assumption) | assumption); obtain ⟨ad131, A131_4, c131_4, e131, hx131_0, hx131_1, hx131_2, hx131_3, hx131_4, hx131_5, hl131_4, hi131_4⟩ := at_T72 HR126_6.out x12_2 p131 q131; obtain rfl : ad127 = ad131 := (by injection e131); replace hx131_0 := (HB.out.cell (World.block_lt_of_cell? w _ hx131_0)).trans hx131_0; replace hx131_1 := (HB.out.cell (World.block_lt_of_cell? w _ hx131_1)).trans hx131_1; replace hx131_2 := (HB.out.cell (World.block_lt_of_cell? w _ hx131_2)).trans hx131_2; replace hx131_3 := (HB.out.cell (World.block_lt_of_cell? w _ hx131_3)).trans hx131_3; replace hx131_4 := (HB.out.cell (World.block_lt_of_cell? w _ hx131_4)).trans hx131_4; replace hx131_5 := (HB.out.cell (World.block_lt_of_cell? w _ hx131_5)).trans hx131_5; have HR131_4 := Aside0.mk hi131_4; have HC131_4 := Aside0.mk hl131_4; clear hi131_4 hl131_4; replace p131 := eq_true p131; replace q131 := eq_true q131; have p132 : 0 ≤ (x12_2 : Int) := of_decide_eq_true (by first | (with_reducible assumption) | assumption); have q132 : x12_2 < (((rd_T51 l0 t125).f3).length : Int) := of_decide_eq_true (by first | (with_reducible assumption) | assumption); obtain ⟨ad132, A132_4, c132_4, e132, hx132_0, hx132_1, hx132_2, hx132_3, hx132_4, hx132_5, hl132_4, hi132_4⟩ := at_T72 HR126_6.out x12_2 p132 q132; obtain rfl : ad127 = ad132 := (by injection e132); replace hx132_0 := (HB.out.cell (World.block_lt_of_cell? w _ hx132_0)).trans hx132_0; replace hx132_1 := (HB.out.cell (World.block_lt_of_cell? w _ hx132_1)).trans hx132_1; replace hx132_2 := (HB.out.cell (World.block_lt_of_cell? w _ hx132_2)).trans hx132_2; replace hx132_3 := (HB.out.cell (World.block_lt_of_cell? w _ hx132_3)).trans hx132_3; replace hx132_4 := (HB.out.cell (World.block_lt_of_cell? w _ hx132_4)).trans hx132_4; replace hx132_5 := (HB.out.cell (World.block_lt_of_cell? w _ hx132_5)).trans hx132_5; have HR132_4 := Aside0.mk hi132_4; have HC132_4 := Aside0.mk hl132_4; clear hi132_4 hl132_4; replace p132 := eq_true p132; replace q132 := eq_true q132; have ea_ := Option.some.inj (hx131_4.symm.trans hx132_4); injection ea_ with ea_ en_ ec_; subst ea_; subst ec_; clear en_))
                          go_roundg k2
                          case measure => have := HJ20.out; have := HK2.out; omega
                          case rel => exact ⟨(wrap64 (x12_2 + 1)), (by first | rfl | (simp; done) | (simp [*]; done)), H', ⟨by have := HJ20.out; have := HK2.out; omega⟩, ⟨by (with_reducible repeat (first | refine blk_drewN ?_ _ | refine blk_drew ?_ | refine blk_alloc ?_ _)); exact BK116.out⟩, ⟨by repeat (first | (with_reducible first | exact HB.out | apply below_alloc | apply pw_below_drewN | apply below_drew1 | refine below_set ?_ GE116.out) | exact HB.out)⟩⟩
                      · rw [if_neg c34] at H
                        have c34b0 : decide (((rd_T72 ((rd_T51 l0 t125).f3) x12_2).f2) ≤ a2) = false := decide_eq_false c34
                        clear c34
                        have H' := Aside0.mk H
                        clear H
                        have p127 : 0 ≤ (x12_2 : Int) := of_decide_eq_true (by first | (with_reducible assumption) | assumption)
                        have q127 : x12_2 < (((rd_T51 l0 t125).f3).length : Int) := of_decide_eq_true (by first | (with_reducible assumption) | assumption)
                        obtain ⟨ad127, A127_4, c127_4, e127, hx127_0, hx127_1, hx127_2, hx127_3, hx127_4, hx127_5, hl127_4, hi127_4⟩ := at_T72 HR126_6.out x12_2 p127 q127
                        cases e127
                        replace hx127_0 := (HB.out.cell (World.block_lt_of_cell? w _ hx127_0)).trans hx127_0
                        replace hx127_1 := (HB.out.cell (World.block_lt_of_cell? w _ hx127_1)).trans hx127_1
                        replace hx127_2 := (HB.out.cell (World.block_lt_of_cell? w _ hx127_2)).trans hx127_2
                        replace hx127_3 := (HB.out.cell (World.block_lt_of_cell? w _ hx127_3)).trans hx127_3
                        replace hx127_4 := (HB.out.cell (World.block_lt_of_cell? w _ hx127_4)).trans hx127_4
                        replace hx127_5 := (HB.out.cell (World.block_lt_of_cell? w _ hx127_5)).trans hx127_5
                        have HR127_4 := Aside0.mk hi127_4
                        have HC127_4 := Aside0.mk hl127_4
                        clear hi127_4 hl127_4
                        replace p127 := eq_true p127
                        replace q127 := eq_true q127
                        go_wp2_with (first | ((with_reducible refine gate_callee (f := 23) rfl ?_); refine goesL_ (some 75) rfl rfl Try.func23 (by kernel_rfl) rfl #[.slice (some ad126) l0.length c0, .agg #[.int .i64 ((rd_T72 ((rd_T51 l0 t125).f3) x12_2).f1.f0), .int .i64 ((rd_T72 ((rd_T51 l0 t125).f3) x12_2).f1.f1), .string ((rd_T72 ((rd_T51 l0 t125).f3) x12_2).f1.f2), .slice A127_4 ((rd_T72 ((rd_T51 l0 t125).f3) x12_2).f1.f3).length c127_4]] rfl (by (try simp only [List.map_toArray, List.map_cons, List.map_nil]); first | done | rfl | (simp only [List.length_drop, List.length_take]; rfl)) ?_; (with_reducible refine (crosstreeref05_Size.calls k2 _ _ l0 ((rd_T72 ((rd_T51 l0 t125).f3) x12_2).f1.f0) ((rd_T72 ((rd_T51 l0 t125).f3) x12_2).f1.f1) ((rd_T72 ((rd_T51 l0 t125).f3) x12_2).f1.f2) _ _ ((rd_T72 ((rd_T51 l0 t125).f3) x12_2).f1.f3) t128 t129 t130 _ ?side1 ?side2 ?side3 ?side4 A33.out).mono ?_); (case side1 => repeat (first | exact (Kd.C_below HR0.out HB.out) | (with_reducible refine Kd.C_alloc ?_ _) | (with_reducible refine Kd.C_drewN ?_ _) | (with_reducible refine Kd.C_drew ?_))); (case side2 => exact HC0.out); (case side3 => repeat (first | exact (Kd.C_below HR127_4.out HB.out) | (with_reducible refine Kd.C_alloc ?_ _) | (with_reducible refine Kd.C_drewN ?_ _) | (with_reducible refine Kd.C_drew ?_))); (case side4 => exact HC127_4.out); rintro e w41 ⟨rfl, hb⟩; refine ⟨_, rfl, ?_⟩; have n0_ := Aside0.mk (blk_below (g := gb116) (o := .cells #[.int .i64 a1_0, .int .i64 a1_1, .string a1_2, .slice A1_3 l1_3.length c1_3] 24 (0, 0)) (by (with_reducible repeat (first | refine blk_drewN ?_ _ | refine blk_drew ?_ | refine blk_alloc ?_ _)); exact BK116.out) hb); have n1_ := Aside0.mk (below_step (by repeat (first | (with_reducible first | exact HB.out | apply below_alloc | apply pw_below_drewN | apply below_drew1 | refine below_set ?_ GE116.out) | exact HB.out)) hb); clear BK116; clear HB; have BK116 := n0_; have HB := n1_; clear n0_ n1_; (try clear hb); (try clear hb2); (try clear hk); (try clear hi); have p131 : 0 ≤ (x12_2 : Int) := of_decide_eq_true (by first | (with_reducible assumption) | assumption); have q131 : x12_2 < (((rd_T51 l0 t125).f3).length : Int) := of_decide_eq_true (by first | (with_reducible assumption) | assumption); obtain ⟨ad131, A131_4, c131_4, e131, hx131_0, hx131_1, hx131_2, hx131_3, hx131_4, hx131_5, hl131_4, hi131_4⟩ := at_T72 HR126_6.out x12_2 p131 q131; obtain rfl : ad127 = ad131 := (by injection e131); replace hx131_0 := (HB.out.cell (World.block_lt_of_cell? w _ hx131_0)).trans hx131_0; replace hx131_1 := (HB.out.cell (World.block_lt_of_cell? w _ hx131_1)).trans hx131_1; replace hx131_2 := (HB.out.cell (World.block_lt_of_cell? w _ hx131_2)).trans hx131_2; replace hx131_3 := (HB.out.cell (World.block_lt_of_cell? w _ hx131_3)).trans hx131_3; replace hx131_4 := (HB.out.cell (World.block_lt_of_cell? w _ hx131_4)).trans hx131_4; replace hx131_5 := (HB.out.cell (World.block_lt_of_cell? w _ hx131_5)).trans hx131_5; have HR131_4 := Aside0.mk hi131_4; have HC131_4 := Aside0.mk hl131_4; clear hi131_4 hl131_4; replace p131 := eq_true p131; replace q131 := eq_true q131))
                        go_roundg k2
                        case measure => have := HJ20.out; have := HK2.out; omega
                        case rel => exact ⟨(wrap64 (x12_2 + 1)), (by first | rfl | (simp; done) | (simp [*]; done)), H', ⟨by have := HJ20.out; have := HK2.out; omega⟩, ⟨by (with_reducible repeat (first | refine blk_drewN ?_ _ | refine blk_drew ?_ | refine blk_alloc ?_ _)); exact BK116.out⟩, ⟨by repeat (first | (with_reducible first | exact HB.out | apply below_alloc | apply pw_below_drewN | apply below_drew1 | refine below_set ?_ GE116.out) | exact HB.out)⟩⟩
                    · rw [if_neg c32] at H
                      exact absurd H (by simp)
                  · rw [if_neg c31] at H
                    have c31b0 : decide (x12_2 < (((rd_T51 l0 t125).f3).length : Int)) = false := decide_eq_false c31
                    clear c31
                    obtain rfl := Option.some.inj H
                    go_wp2
                    go_ret
                    exact ⟨by first | rfl | (simp [errW_none, errW_some] <;> rfl) | (simp [*, errW_none, errW_some] <;> rfl), by repeat (first | (with_reducible first | exact HB.out | apply below_alloc | apply pw_below_drewN | apply below_drew1 | refine below_set ?_ GE116.out) | exact HB.out)⟩
            · rw [if_neg c30] at H
              exact absurd H (by simp)
          · rw [if_neg c29] at H
            exact absurd H (by simp)

end Go.Proofs.Ytndcnhbcconbcaa.G
