-- A print of Ytjbgealnnlmchaa: functions, their calls (by the kit's print.py, from a copy in scratch).
import Derived.Test.YtjbgealnnlmchaaGx0
import Derived.Test.YtjbgealnnlmchaaGx8
namespace Go.Proofs.Ytjbgealnnlmchaa.G
open Go.RowKit Go.Proofs.YtjbgealnnlmchaaW.PrintWords Go.Proofs.YtjbgealnnlmchaaW.PrintLast Go.Proofs.YtjbgealnnlmchaaW.PrintMore
attribute [local go_sem] max2_int min2_int max_two min_two max_three min_three max_four min_four   -- for this text's walks alone
set_option linter.unusedVariables false
set_option linter.unusedSimpArgs false

/-! ### crosstreeref19_To: function 13 -/
def crosstreeref19_To.l0 : Nat → Int → Int → List Int → Int → List (List Int) → List (List Int) → List (S41) → Int → Option (List Int)
  | 0, _, _, _, _, _, _, _, _ => none
  | k + 1, x1, x2, x7, x8, x308000, x308001, x308002, x308003 => if x8 < (x308002.length : Int) then (if 0 ≤ x8 then (if ((rd_T41 x308002 x8).f0) = x1 then (if ((rd_T41 x308002 x8).f1) = x2 then ((crosstreeref12_WithInt.f k x7 ((rd_T41 x308002 x8).f2)).bind fun t311 => (crosstreeref19_To.l0 k x1 x2 t311 (wrap64 (x8 + 1)) x308000 x308001 x308002 x308003)) else (crosstreeref19_To.l0 k x1 x2 x7 (wrap64 (x8 + 1)) x308000 x308001 x308002 x308003)) else (crosstreeref19_To.l0 k x1 x2 x7 (wrap64 (x8 + 1)) x308000 x308001 x308002 x308003)) else (none)) else (some x7)
def crosstreeref19_To.f (k : Nat) (l0_0 : List (List Int)) (l0_1 : List (List Int)) (l0_2 : List (S41)) (a0_3 : Int) (a1 : Int) (a2 : Int) : Option (List Int) := crosstreeref19_To.l0 k a1 a2 ([] : List Int) 0 l0_0 l0_1 l0_2 a0_3
theorem crosstreeref19_To.mono_l : ∀ k, (∀ y0 y1 y2 y3 y4 y5 y6 y7, LeO (crosstreeref19_To.l0 k y0 y1 y2 y3 y4 y5 y6 y7) (crosstreeref19_To.l0 (k + 1) y0 y1 y2 y3 y4 y5 y6 y7))
  | 0 => fun _ _ _ _ _ _ _ _ r h => by simp [crosstreeref19_To.l0] at h
  | k + 1 => by
    have ih0 := crosstreeref19_To.mono_l k
    · intro y0 y1 y2 y3 y4 y5 y6 y7
      unfold crosstreeref19_To.l0
      repeat' first
      | (with_reducible exact ih0 _ _ _ _ _ _ _ _)
      | (with_reducible exact crosstreeref12_WithInt.mono _ _ _)
      | (with_reducible exact LeO.refl _)
      | (with_reducible exact LeO.none _)
      | (with_reducible refine LeO.ite ?_ ?_)
      | (with_reducible refine LeO.bind ?_ (fun _ => ?_))
      | exact ih0 _ _ _ _ _ _ _ _
      | exact crosstreeref12_WithInt.mono _ _ _
      | exact LeO.none _
      | refine LeO.ite ?_ ?_
      | refine LeO.bind ?_ (fun _ => ?_)
theorem crosstreeref19_To.mono : ∀ a0 a1 a2 a3 a4 a5 k, LeO (crosstreeref19_To.f k a0 a1 a2 a3 a4 a5) (crosstreeref19_To.f (k + 1) a0 a1 a2 a3 a4 a5) := by
  intro a0 a1 a2 a3 a4 a5 k
  have ih0 := crosstreeref19_To.mono_l k
  unfold crosstreeref19_To.f
  repeat' first
      | (with_reducible exact ih0 _ _ _ _ _ _ _ _)
      | (with_reducible exact crosstreeref12_WithInt.mono _ _ _)
      | (with_reducible exact LeO.refl _)
      | (with_reducible exact LeO.none _)
      | (with_reducible refine LeO.ite ?_ ?_)
      | (with_reducible refine LeO.bind ?_ (fun _ => ?_))
      | exact ih0 _ _ _ _ _ _ _ _
      | exact crosstreeref12_WithInt.mono _ _ _
      | exact LeO.none _
      | refine LeO.ite ?_ ?_
      | refine LeO.bind ?_ (fun _ => ?_)
set_option maxHeartbeats 8000000 in
set_option maxRecDepth 100000 in
theorem crosstreeref19_To.calls (k : Nat) (A0_0 : Option Addr) (c0_0 : Nat) (l0_0 : List (List Int)) (A0_1 : Option Addr) (c0_1 : Nat) (l0_1 : List (List Int)) (A0_2 : Option Addr) (c0_2 : Nat) (l0_2 : List (S41)) (a0_3 : Int) (a1 : Int) (a2 : Int) (r : List Int) (w : World) (hr0_0 : Kd.C (Kd.slice 3 (Kd.int .i64)) w A0_0 l0_0.length l0_0) (hc0_0 : l0_0.length ≤ c0_0) (hr0_1 : Kd.C (Kd.slice 3 (Kd.int .i64)) w A0_1 l0_1.length l0_1) (hc0_1 : l0_1.length ≤ c0_1) (hr0_2 : Kd.C k41 w A0_2 l0_2.length l0_2) (hc0_2 : l0_2.length ≤ c0_2) (h : crosstreeref19_To.f k l0_0 l0_1 l0_2 a0_3 a1 a2 = some r) :
    Calls Try.prog 13 #[.agg #[.slice A0_0 l0_0.length c0_0, .slice A0_1 l0_1.length c0_1, .slice A0_2 l0_2.length c0_2, .int .i64 a0_3], .int .i64 a1, .int .i64 a2] w fun e w' => ∃ v0_ : Value, e = .returned (v0_) ∧ Kd.R (Kd.int .i64) 3 w' w.heap.size (fun _ => True) v0_ r ∧ Below w.heap.size w w' := by
  have hu28 := Try.underlying28
  have HR0_0 := Aside0.mk hr0_0
  have HC0_0 := Aside0.mk hc0_0
  clear hr0_0 hc0_0
  have HR0_1 := Aside0.mk hr0_1
  have HC0_1 := Aside0.mk hc0_1
  clear hr0_1 hc0_1
  have HR0_2 := Aside0.mk hr0_2
  have HC0_2 := Aside0.mk hc0_2
  clear hr0_2 hc0_2
  have HB := Aside0.mk (Below.refl w.heap.size w)
  have H : (crosstreeref19_To.l0 k a1 a2 ([] : List Int) 0 l0_0 l0_1 l0_2 a0_3) = some r := h
  clear h
  have H' := Aside0.mk H
  clear H
  go_enter Try.func13, Try.ntmps13
  go_wp2_with (first | ((with_reducible refine gate_dst (N := 3) rfl ?_); refine box_event ?hg (N := 3) ?hd (cs := #[.slice A0_0 l0_0.length c0_0, .slice A0_1 l0_1.length c0_1, .slice A0_2 l0_2.length c0_2, .int .i64 a0_3]) (t := 28) ?hr ?_; (case hd => rfl); (case hg => rfl); (case hr => first | (go_simp; done) | (go_simp; rfl)); intro gb307 hg w4 hbox hb; have n0_ := Aside0.mk (below_step (by repeat (first | (with_reducible first | exact HB.out | apply below_alloc | apply pw_below_drewN | apply below_drew1) | exact HB.out)) hb); have n1_ := Aside0.mk (hbox); have n2_ := Aside0.mk ((by rw [hg]; exact (below_size (by repeat (first | (with_reducible first | exact HB.out | apply below_alloc | apply pw_below_drewN | apply below_drew1) | exact HB.out))) : w.heap.size ≤ gb307)); have n3_ := Aside0.mk ((by rw [hg]; exact (below_size (by repeat (first | (with_reducible first | exact HB.out | apply below_alloc | apply pw_below_drewN | apply below_drew1) | exact HB.out))) : w.heap.size ≤ gb307)); clear HB; have HB := n0_; have BK307 := n1_; have GW307 := n2_; have GE307 := n3_; clear n0_ n1_ n2_ n3_; clear hb hbox hg))
  go_loopg [7, 8] k (fun kq v7 v8 w' => ∃ (x7_1 : List Int) (x8_1 : Int), v8 = .int .i64 x8_1 ∧ Aside0 (crosstreeref19_To.l0 kq a1 a2 x7_1 x8_1 l0_0 l0_1 l0_2 a0_3 = some r) ∧ Aside0 (kq ≤ k) ∧ Aside0 (Kd.R (Kd.int .i64) 3 w' w.heap.size (fun _ => True) v7 x7_1) ∧ Aside0 (w'.heap[gb307]? = some (.cells #[(.slice A0_0 l0_0.length c0_0), (.slice A0_1 l0_1.length c0_1), (.slice A0_2 l0_2.length c0_2), .int .i64 a0_3] 28 (0, 0))) ∧ Aside0 (Below w.heap.size w w'))
  case atStart => exact ⟨(([] : List Int)), (0), (by first | rfl | (simp; done) | (simp [*]; done)), H', ⟨Nat.le_refl _⟩, ⟨by first | exact Kd.R_nil _ _ _ _ _ | exact Kd.N_nil _ _ _ _ _ | exact Kd.V_nil _ _ _ _ _ | exact Kd.Q_nil _ _ _ _ _ | exact Kd.S_nil _ _ _ _ _⟩, ⟨by (with_reducible repeat (first | refine blk_drewN ?_ _ | refine blk_drew ?_ | refine blk_alloc ?_ _)); exact BK307.out⟩, ⟨by repeat (first | (with_reducible first | exact HB.out | apply below_alloc | apply pw_below_drewN | apply below_drew1 | refine below_set ?_ GE307.out) | exact HB.out)⟩⟩
  case round =>
    clear H'
    try clear c1
    try clear p2
    obtain ⟨x7_1, x8_1, rfl, HA, HK1, HO_7, BK307, HB⟩ := hrel
    cases gk with
    | zero => exact absurd HA.out (by simp [crosstreeref19_To.l0])
    | succ k1 =>
      have H := HA.out
      clear HA
      simp only [crosstreeref19_To.l0] at H
      by_cases c5 : x8_1 < (l0_2.length : Int)
      · rw [if_pos c5] at H
        have c5b0 : decide (x8_1 < (l0_2.length : Int)) = true := decide_eq_true c5
        clear c5
        by_cases c6 : 0 ≤ x8_1
        · rw [if_pos c6] at H
          have c6b0 : decide (0 ≤ x8_1) = true := decide_eq_true c6
          clear c6
          by_cases c7 : ((rd_T41 l0_2 x8_1).f0) = a1
          · rw [if_pos c7] at H
            have c7b0 : (((rd_T41 l0_2 x8_1).f0) == a1) = true := beq_iff_eq.mpr c7
            have c7b1 : (((rd_T41 l0_2 x8_1).f0) != a1) = false := bne_eq_false_iff_eq.mpr c7
            clear c7
            by_cases c8 : ((rd_T41 l0_2 x8_1).f1) = a2
            · rw [if_pos c8] at H
              have c8b0 : (((rd_T41 l0_2 x8_1).f1) == a2) = true := beq_iff_eq.mpr c8
              have c8b1 : (((rd_T41 l0_2 x8_1).f1) != a2) = false := bne_eq_false_iff_eq.mpr c8
              clear c8
              replace H := Option.bind_eq_some_iff.mp H
              obtain ⟨t311, A90, H⟩ := H
              replace H : (crosstreeref19_To.l0 k1 a1 a2 t311 (wrap64 (x8_1 + 1)) l0_0 l0_1 l0_2 a0_3) = some r := H
              have A9 := Aside0.mk A90
              clear A90
              have H' := Aside0.mk H
              clear H
              have hcz10_0 : wr.cell? ⟨gb307, 0, none⟩ = some (.slice A0_0 l0_0.length c0_0) := (blk_cell BK307.out 0).trans rfl
              have hcz10_1 : wr.cell? ⟨gb307, 1, none⟩ = some (.slice A0_1 l0_1.length c0_1) := (blk_cell BK307.out 1).trans rfl
              have hcz10_2 : wr.cell? ⟨gb307, 2, none⟩ = some (.slice A0_2 l0_2.length c0_2) := (blk_cell BK307.out 2).trans rfl
              have hcz10_3 : wr.cell? ⟨gb307, 3, none⟩ = some (.int .i64 a0_3) := (blk_cell BK307.out 3).trans rfl
              have hfz10_0 := blk_frozen BK307.out 0
              have hfz10_1 := blk_frozen BK307.out 1
              have hfz10_2 := blk_frozen BK307.out 2
              have hfz10_3 := blk_frozen BK307.out 3
              have p308 : 0 ≤ (x8_1 : Int) := of_decide_eq_true (by first | (with_reducible assumption) | assumption)
              have q308 : x8_1 < (l0_2.length : Int) := of_decide_eq_true (by first | (with_reducible assumption) | assumption)
              obtain ⟨ad308, e308, hx308_0, hx308_1, hx308_2⟩ := at_T41 HR0_2.out x8_1 p308 q308
              cases e308
              replace hx308_0 := (HB.out.cell (World.block_lt_of_cell? w _ hx308_0)).trans hx308_0
              replace hx308_1 := (HB.out.cell (World.block_lt_of_cell? w _ hx308_1)).trans hx308_1
              replace hx308_2 := (HB.out.cell (World.block_lt_of_cell? w _ hx308_2)).trans hx308_2
              replace p308 := eq_true p308
              replace q308 := eq_true q308
              have p309 : 0 ≤ (x8_1 : Int) := of_decide_eq_true (by first | (with_reducible assumption) | assumption)
              have q309 : x8_1 < (l0_2.length : Int) := of_decide_eq_true (by first | (with_reducible assumption) | assumption)
              obtain ⟨ad309, e309, hx309_0, hx309_1, hx309_2⟩ := at_T41 HR0_2.out x8_1 p309 q309
              obtain rfl : ad308 = ad309 := (by injection e309)
              replace hx309_0 := (HB.out.cell (World.block_lt_of_cell? w _ hx309_0)).trans hx309_0
              replace hx309_1 := (HB.out.cell (World.block_lt_of_cell? w _ hx309_1)).trans hx309_1
              replace hx309_2 := (HB.out.cell (World.block_lt_of_cell? w _ hx309_2)).trans hx309_2
              replace p309 := eq_true p309
              replace q309 := eq_true q309
              have p310 : 0 ≤ (x8_1 : Int) := of_decide_eq_true (by first | (with_reducible assumption) | assumption)
              have q310 : x8_1 < (l0_2.length : Int) := of_decide_eq_true (by first | (with_reducible assumption) | assumption)
              obtain ⟨ad310, e310, hx310_0, hx310_1, hx310_2⟩ := at_T41 HR0_2.out x8_1 p310 q310
              obtain rfl : ad308 = ad310 := (by injection e310)
              replace hx310_0 := (HB.out.cell (World.block_lt_of_cell? w _ hx310_0)).trans hx310_0
              replace hx310_1 := (HB.out.cell (World.block_lt_of_cell? w _ hx310_1)).trans hx310_1
              replace hx310_2 := (HB.out.cell (World.block_lt_of_cell? w _ hx310_2)).trans hx310_2
              replace p310 := eq_true p310
              replace q310 := eq_true q310
              obtain ⟨Ao11, co11, eo11⟩ := Kd.R_slice HO_7.out
              subst eo11
              go_wp2_with (first | ((with_reducible refine gate_callee (f := 21) rfl ?_); refine goesL_ (some 41) rfl rfl Try.func21 (by kernel_rfl) rfl #[.slice Ao11 x7_1.length co11, .int .i64 ((rd_T41 l0_2 x8_1).f2)] rfl (by (try simp only [List.map_toArray, List.map_cons, List.map_nil]); first | done | rfl | (simp only [List.length_drop, List.length_take]; rfl)) ?_; (with_reducible refine (crosstreeref12_WithInt.calls k1 (fun k_ => some k_ = (.slice Ao11 x7_1.length co11 : Value).ownBlock) (.slice Ao11 x7_1.length co11) x7_1 ((rd_T41 l0_2 x8_1).f2) t311 w _ ?side1 ?side2 A9.out).mono ?_); (case side1 => repeat (first | (with_reducible first | exact HB.out | apply below_alloc | apply pw_below_drewN | apply below_drew1 | refine below_set ?_ GE307.out) | exact HB.out)); (case side2 => exact Kd.R_tight rfl HO_7.out); rintro e w12 ⟨v312, rfl, ho0, hb, hkp⟩; refine ⟨_, rfl, ?_⟩; have n0_ := Aside0.mk (blk_kept (by (with_reducible repeat (first | refine blk_drewN ?_ _ | refine blk_drew ?_ | refine blk_alloc ?_ _)); exact BK307.out) hkp (fun hs_ => (fun e_ => (Kd.R_ne HO_7.out BK307.out (by decide)) e_) hs_)); have n1_ := Aside0.mk (Kd.R_mono (ok' := fun k_ => True) ho0 (fun k_ hk_ => trivial)); have n2_ := Aside0.mk (hb); clear BK307; clear HB; clear HO_7; have BK307 := n0_; have HO313 := n1_; have HB := n2_; clear n0_ n1_ n2_; (try clear hb); (try clear hkp); (try clear ho0)))
              go_roundg k1
              case measure => have := HK1.out; omega
              case rel => exact ⟨(t311), (wrap64 (x8_1 + 1)), (by first | rfl | (simp; done) | (simp [*]; done)), H', ⟨by have := HK1.out; omega⟩, ⟨by (with_reducible repeat (first | apply Kd.R_alloc | apply Kd.R_drewN | apply Kd.R_drew)); exact HO313.out⟩, ⟨by (with_reducible repeat (first | refine blk_drewN ?_ _ | refine blk_drew ?_ | refine blk_alloc ?_ _)); exact BK307.out⟩, ⟨by repeat (first | (with_reducible first | exact HB.out | apply below_alloc | apply pw_below_drewN | apply below_drew1 | refine below_set ?_ GE307.out) | exact HB.out)⟩⟩
            · rw [if_neg c8] at H
              have c8b0 : (((rd_T41 l0_2 x8_1).f1) == a2) = false := beq_eq_false_iff_ne.mpr c8
              have c8b1 : (((rd_T41 l0_2 x8_1).f1) != a2) = true := bne_iff_ne.mpr c8
              have H' := Aside0.mk H
              clear H
              have hcz13_0 : wr.cell? ⟨gb307, 0, none⟩ = some (.slice A0_0 l0_0.length c0_0) := (blk_cell BK307.out 0).trans rfl
              have hcz13_1 : wr.cell? ⟨gb307, 1, none⟩ = some (.slice A0_1 l0_1.length c0_1) := (blk_cell BK307.out 1).trans rfl
              have hcz13_2 : wr.cell? ⟨gb307, 2, none⟩ = some (.slice A0_2 l0_2.length c0_2) := (blk_cell BK307.out 2).trans rfl
              have hcz13_3 : wr.cell? ⟨gb307, 3, none⟩ = some (.int .i64 a0_3) := (blk_cell BK307.out 3).trans rfl
              have hfz13_0 := blk_frozen BK307.out 0
              have hfz13_1 := blk_frozen BK307.out 1
              have hfz13_2 := blk_frozen BK307.out 2
              have hfz13_3 := blk_frozen BK307.out 3
              have p308 : 0 ≤ (x8_1 : Int) := of_decide_eq_true (by first | (with_reducible assumption) | assumption)
              have q308 : x8_1 < (l0_2.length : Int) := of_decide_eq_true (by first | (with_reducible assumption) | assumption)
              obtain ⟨ad308, e308, hx308_0, hx308_1, hx308_2⟩ := at_T41 HR0_2.out x8_1 p308 q308
              cases e308
              replace hx308_0 := (HB.out.cell (World.block_lt_of_cell? w _ hx308_0)).trans hx308_0
              replace hx308_1 := (HB.out.cell (World.block_lt_of_cell? w _ hx308_1)).trans hx308_1
              replace hx308_2 := (HB.out.cell (World.block_lt_of_cell? w _ hx308_2)).trans hx308_2
              replace p308 := eq_true p308
              replace q308 := eq_true q308
              have p309 : 0 ≤ (x8_1 : Int) := of_decide_eq_true (by first | (with_reducible assumption) | assumption)
              have q309 : x8_1 < (l0_2.length : Int) := of_decide_eq_true (by first | (with_reducible assumption) | assumption)
              obtain ⟨ad309, e309, hx309_0, hx309_1, hx309_2⟩ := at_T41 HR0_2.out x8_1 p309 q309
              obtain rfl : ad308 = ad309 := (by injection e309)
              replace hx309_0 := (HB.out.cell (World.block_lt_of_cell? w _ hx309_0)).trans hx309_0
              replace hx309_1 := (HB.out.cell (World.block_lt_of_cell? w _ hx309_1)).trans hx309_1
              replace hx309_2 := (HB.out.cell (World.block_lt_of_cell? w _ hx309_2)).trans hx309_2
              replace p309 := eq_true p309
              replace q309 := eq_true q309
              go_wp2
              go_roundg k1
              case measure => have := HK1.out; omega
              case rel => exact ⟨(x7_1), (wrap64 (x8_1 + 1)), (by first | rfl | (simp; done) | (simp [*]; done)), H', ⟨by have := HK1.out; omega⟩, ⟨by (with_reducible repeat (first | apply Kd.R_alloc | apply Kd.R_drewN | apply Kd.R_drew)); exact HO_7.out⟩, ⟨by (with_reducible repeat (first | refine blk_drewN ?_ _ | refine blk_drew ?_ | refine blk_alloc ?_ _)); exact BK307.out⟩, ⟨by repeat (first | (with_reducible first | exact HB.out | apply below_alloc | apply pw_below_drewN | apply below_drew1 | refine below_set ?_ GE307.out) | exact HB.out)⟩⟩
          · rw [if_neg c7] at H
            have c7b0 : (((rd_T41 l0_2 x8_1).f0) == a1) = false := beq_eq_false_iff_ne.mpr c7
            have c7b1 : (((rd_T41 l0_2 x8_1).f0) != a1) = true := bne_iff_ne.mpr c7
            have H' := Aside0.mk H
            clear H
            have hcz14_0 : wr.cell? ⟨gb307, 0, none⟩ = some (.slice A0_0 l0_0.length c0_0) := (blk_cell BK307.out 0).trans rfl
            have hcz14_1 : wr.cell? ⟨gb307, 1, none⟩ = some (.slice A0_1 l0_1.length c0_1) := (blk_cell BK307.out 1).trans rfl
            have hcz14_2 : wr.cell? ⟨gb307, 2, none⟩ = some (.slice A0_2 l0_2.length c0_2) := (blk_cell BK307.out 2).trans rfl
            have hcz14_3 : wr.cell? ⟨gb307, 3, none⟩ = some (.int .i64 a0_3) := (blk_cell BK307.out 3).trans rfl
            have hfz14_0 := blk_frozen BK307.out 0
            have hfz14_1 := blk_frozen BK307.out 1
            have hfz14_2 := blk_frozen BK307.out 2
            have hfz14_3 := blk_frozen BK307.out 3
            have p308 : 0 ≤ (x8_1 : Int) := of_decide_eq_true (by first | (with_reducible assumption) | assumption)
            have q308 : x8_1 < (l0_2.length : Int) := of_decide_eq_true (by first | (with_reducible assumption) | assumption)
            obtain ⟨ad308, e308, hx308_0, hx308_1, hx308_2⟩ := at_T41 HR0_2.out x8_1 p308 q308
            cases e308
            replace hx308_0 := (HB.out.cell (World.block_lt_of_cell? w _ hx308_0)).trans hx308_0
            replace hx308_1 := (HB.out.cell (World.block_lt_of_cell? w _ hx308_1)).trans hx308_1
            replace hx308_2 := (HB.out.cell (World.block_lt_of_cell? w _ hx308_2)).trans hx308_2
            replace p308 := eq_true p308
            replace q308 := eq_true q308
            go_wp2
            go_roundg k1
            case measure => have := HK1.out; omega
            case rel => exact ⟨(x7_1), (wrap64 (x8_1 + 1)), (by first | rfl | (simp; done) | (simp [*]; done)), H', ⟨by have := HK1.out; omega⟩, ⟨by (with_reducible repeat (first | apply Kd.R_alloc | apply Kd.R_drewN | apply Kd.R_drew)); exact HO_7.out⟩, ⟨by (with_reducible repeat (first | refine blk_drewN ?_ _ | refine blk_drew ?_ | refine blk_alloc ?_ _)); exact BK307.out⟩, ⟨by repeat (first | (with_reducible first | exact HB.out | apply below_alloc | apply pw_below_drewN | apply below_drew1 | refine below_set ?_ GE307.out) | exact HB.out)⟩⟩
        · rw [if_neg c6] at H
          exact absurd H (by simp)
      · rw [if_neg c5] at H
        have c5b0 : decide (x8_1 < (l0_2.length : Int)) = false := decide_eq_false c5
        clear c5
        obtain rfl := Option.some.inj H
        have hcz15_0 : wr.cell? ⟨gb307, 0, none⟩ = some (.slice A0_0 l0_0.length c0_0) := (blk_cell BK307.out 0).trans rfl
        have hcz15_1 : wr.cell? ⟨gb307, 1, none⟩ = some (.slice A0_1 l0_1.length c0_1) := (blk_cell BK307.out 1).trans rfl
        have hcz15_2 : wr.cell? ⟨gb307, 2, none⟩ = some (.slice A0_2 l0_2.length c0_2) := (blk_cell BK307.out 2).trans rfl
        have hcz15_3 : wr.cell? ⟨gb307, 3, none⟩ = some (.int .i64 a0_3) := (blk_cell BK307.out 3).trans rfl
        have hfz15_0 := blk_frozen BK307.out 0
        have hfz15_1 := blk_frozen BK307.out 1
        have hfz15_2 := blk_frozen BK307.out 2
        have hfz15_3 := blk_frozen BK307.out 3
        go_wp2
        go_ret
        exact ⟨_, by first | rfl | (simp [errW_none, errW_some] <;> rfl) | (simp [*, errW_none, errW_some] <;> rfl), by (with_reducible repeat (first | apply Kd.R_alloc | apply Kd.R_drewN | apply Kd.R_drew)); exact HO_7.out, by repeat (first | (with_reducible first | exact HB.out | apply below_alloc | apply pw_below_drewN | apply below_drew1 | refine below_set ?_ GE307.out) | exact HB.out)⟩

/-! ### crosstreeref15_size: function 31 -/
def crosstreeref15_size.f (a0 : Int) : Option (Int) := if a0 < 0 then (some 0) else (if a0 > 20000 then (some 20000) else (some a0))
set_option maxHeartbeats 8000000 in
set_option maxRecDepth 100000 in
theorem crosstreeref15_size.calls (a0 : Int) (r : Int) (w : World) (h : crosstreeref15_size.f a0 = some r) :
    Calls Try.prog 31 #[.int .i64 a0] w fun e w' => e = .returned (.int .i64 r) ∧ Drawn0 w w' := by
  have H : (if a0 < 0 then (some 0) else (if a0 > 20000 then (some 20000) else (some a0))) = some r := h
  clear h
  by_cases c2 : a0 < 0
  · rw [if_pos c2] at H
    have c2b0 : decide (a0 < 0) = true := decide_eq_true c2
    clear c2
    obtain rfl := Option.some.inj H
    go_enter Try.func31, Try.ntmps31
    go_wp2
    go_ret
    exact ⟨by first | rfl | (simp; done) | (simp [*]; done), by repeat (first | exact Drawn0.refl _ | apply Drawn0.step)⟩
  · rw [if_neg c2] at H
    have c2b0 : decide (a0 < 0) = false := decide_eq_false c2
    clear c2
    by_cases c3 : a0 > 20000
    · rw [if_pos c3] at H
      have c3b0 : decide (20000 < a0) = true := decide_eq_true c3
      clear c3
      obtain rfl := Option.some.inj H
      go_enter Try.func31, Try.ntmps31
      go_wp2
      go_ret
      exact ⟨by first | rfl | (simp; done) | (simp [*]; done), by repeat (first | exact Drawn0.refl _ | apply Drawn0.step)⟩
    · rw [if_neg c3] at H
      have c3b0 : decide (20000 < a0) = false := decide_eq_false c3
      clear c3
      obtain rfl := Option.some.inj H
      go_enter Try.func31, Try.ntmps31
      go_wp2
      go_ret
      exact ⟨by first | rfl | (simp; done) | (simp [*]; done), by repeat (first | exact Drawn0.refl _ | apply Drawn0.step)⟩

/-! ### crosstreeref15_spread: function 32 -/
mutual
def crosstreeref15_spread.l0 : Nat → Int → List (S41) → List Bool → Bool → Option (List Bool)
  | 0, _, _, _, _ => none
  | k + 1, x0, x1, x2, x7 => if x7 = true then (crosstreeref15_spread.l1 k x0 x1 x2 false 0) else (some x2)
def crosstreeref15_spread.l1 : Nat → Int → List (S41) → List Bool → Bool → Int → Option (List Bool)
  | 0, _, _, _, _, _ => none
  | k + 1, x0, x1, x2, x7, x8 => if x8 < (x1.length : Int) then (if 0 ≤ x8 then (if ((rd_T41 x1 x8).f0) ≥ 0 then (if ((rd_T41 x1 x8).f0) < x0 then (if ((rd_T41 x1 x8).f2) ≥ 0 then (if ((rd_T41 x1 x8).f2) < x0 then (if 0 ≤ ((rd_T41 x1 x8).f0) then (if ((rd_T41 x1 x8).f0) < (x2.length : Int) then (if rdOf false x2 ((rd_T41 x1 x8).f0) = true then (if 0 ≤ ((rd_T41 x1 x8).f2) then (if ((rd_T41 x1 x8).f2) < (x2.length : Int) then (if (rdOf false x2 ((rd_T41 x1 x8).f2) = true) then (crosstreeref15_spread.l1 k x0 x1 x2 x7 (wrap64 (x8 + 1))) else (crosstreeref15_spread.l1 k x0 x1 (x2.set (((rd_T41 x1 x8).f2) : Int).toNat true) true (wrap64 (x8 + 1)))) else (none)) else (none)) else (crosstreeref15_spread.l1 k x0 x1 x2 x7 (wrap64 (x8 + 1)))) else (none)) else (none)) else (crosstreeref15_spread.l1 k x0 x1 x2 x7 (wrap64 (x8 + 1)))) else (crosstreeref15_spread.l1 k x0 x1 x2 x7 (wrap64 (x8 + 1)))) else (crosstreeref15_spread.l1 k x0 x1 x2 x7 (wrap64 (x8 + 1)))) else (crosstreeref15_spread.l1 k x0 x1 x2 x7 (wrap64 (x8 + 1)))) else (none)) else (crosstreeref15_spread.l0 k x0 x1 x2 x7)
end
def crosstreeref15_spread.f (k : Nat) (a0 : Int) (l1 : List (S41)) (l2 : List Bool) : Option (List Bool) := crosstreeref15_spread.l0 k a0 l1 l2 true
theorem crosstreeref15_spread.mono_l : ∀ k, (∀ y0 y1 y2 y3, LeO (crosstreeref15_spread.l0 k y0 y1 y2 y3) (crosstreeref15_spread.l0 (k + 1) y0 y1 y2 y3)) ∧ (∀ y0 y1 y2 y3 y4, LeO (crosstreeref15_spread.l1 k y0 y1 y2 y3 y4) (crosstreeref15_spread.l1 (k + 1) y0 y1 y2 y3 y4))
  | 0 => ⟨fun _ _ _ _ r h => by simp [crosstreeref15_spread.l0] at h, fun _ _ _ _ _ r h => by simp [crosstreeref15_spread.l1] at h⟩
  | k + 1 => by
    obtain ⟨ih0, ih1⟩ := crosstreeref15_spread.mono_l k
    refine ⟨?_, ?_⟩
    · intro y0 y1 y2 y3
      unfold crosstreeref15_spread.l0
      repeat' first
      | (with_reducible exact ih0 _ _ _ _)
      | (with_reducible exact ih1 _ _ _ _ _)
      | (with_reducible exact LeO.refl _)
      | (with_reducible exact LeO.none _)
      | (with_reducible refine LeO.ite ?_ ?_)
      | (with_reducible refine LeO.bind ?_ (fun _ => ?_))
      | exact ih0 _ _ _ _
      | exact ih1 _ _ _ _ _
      | exact LeO.none _
      | refine LeO.ite ?_ ?_
      | refine LeO.bind ?_ (fun _ => ?_)
    · intro y0 y1 y2 y3 y4
      unfold crosstreeref15_spread.l1
      repeat' first
      | (with_reducible exact ih0 _ _ _ _)
      | (with_reducible exact ih1 _ _ _ _ _)
      | (with_reducible exact LeO.refl _)
      | (with_reducible exact LeO.none _)
      | (with_reducible refine LeO.ite ?_ ?_)
      | (with_reducible refine LeO.bind ?_ (fun _ => ?_))
      | exact ih0 _ _ _ _
      | exact ih1 _ _ _ _ _
      | exact LeO.none _
      | refine LeO.ite ?_ ?_
      | refine LeO.bind ?_ (fun _ => ?_)
theorem crosstreeref15_spread.mono : ∀ a0 a1 a2 k, LeO (crosstreeref15_spread.f k a0 a1 a2) (crosstreeref15_spread.f (k + 1) a0 a1 a2) := by
  intro a0 a1 a2 k
  obtain ⟨ih0, ih1⟩ := crosstreeref15_spread.mono_l k
  unfold crosstreeref15_spread.f
  repeat' first
      | (with_reducible exact ih0 _ _ _ _)
      | (with_reducible exact ih1 _ _ _ _ _)
      | (with_reducible exact LeO.refl _)
      | (with_reducible exact LeO.none _)
      | (with_reducible refine LeO.ite ?_ ?_)
      | (with_reducible refine LeO.bind ?_ (fun _ => ?_))
      | exact ih0 _ _ _ _
      | exact ih1 _ _ _ _ _
      | exact LeO.none _
      | refine LeO.ite ?_ ?_
      | refine LeO.bind ?_ (fun _ => ?_)
set_option maxHeartbeats 8000000 in
set_option maxRecDepth 100000 in
theorem crosstreeref15_spread.calls (k : Nat) (a0 : Int) (A1 : Option Addr) (c1 : Nat) (l1 : List (S41)) (P2_ : Nat → Prop) (u9000_ : Value) (l2 : List Bool) (r : List Bool) (w0 w : World) (hB : Below w0.heap.size w0 w) (hr1 : ∀ W_, Kept w W_ (fun k_ => P2_ k_) → Kd.C k41 W_ A1 l1.length l1) (hc1 : l1.length ≤ c1) (ho2 : Kd.R Kd.bool 4 w w0.heap.size P2_ u9000_ l2) (h : crosstreeref15_spread.f k a0 l1 l2 = some r) :
    Calls Try.prog 32 #[.int .i64 a0, .slice A1 l1.length c1, u9000_] w fun e w' => ∃ v0_ : Value, e = .returned (v0_) ∧ Kd.R Kd.bool 4 w' w0.heap.size (fun k_ => (P2_ k_ ∨ w.heap.size ≤ k_)) v0_ r ∧ Below w0.heap.size w0 w' ∧ Kept w w' (fun k_ => P2_ k_) := by
  have HR1 := Aside0.mk hr1
  have HC1 := Aside0.mk hc1
  clear hr1 hc1
  have HO2 := Aside0.mk (show Kd.R Kd.bool 4 w w0.heap.size (fun k_ => (P2_ k_ ∨ w.heap.size ≤ k_)) u9000_ l2 from Kd.R_mono ho2 (fun k_ hk => (.inl hk)))
  have HK := Aside0.mk (Kept.refl w (fun k_ => P2_ k_))
  have HW0 := Aside0.mk hB.size
  have HB := Aside0.mk hB
  clear hB
  have H : (crosstreeref15_spread.l0 k a0 l1 l2 true) = some r := h
  clear h
  have H' := Aside0.mk H
  clear H
  go_enter Try.func32, Try.ntmps32
  go_wp2
  go_loopg [7] k (fun kq v7 w' => ∃ (x2_1 : List Bool) (x7_1 : Bool), v7 = .bool x7_1 ∧ Aside0 (crosstreeref15_spread.l0 kq a0 l1 x2_1 x7_1 = some r) ∧ Aside0 (kq ≤ k) ∧ Aside0 (Kd.R Kd.bool 4 w' w0.heap.size (fun k_ => (P2_ k_ ∨ w.heap.size ≤ k_)) u9000_ x2_1) ∧ Aside0 (Kept w w' (fun k_ => P2_ k_)) ∧ Aside0 (Below w0.heap.size w0 w'))
  case atStart => exact ⟨(l2), (true), (by first | rfl | (simp; done) | (simp [*]; done)), H', ⟨Nat.le_refl _⟩, ⟨by (with_reducible repeat (first | apply Kd.R_alloc | apply Kd.R_drewN | apply Kd.R_drew)); exact HO2.out⟩, ⟨by repeat (first | (with_reducible first | exact HK.out | apply Kept.alloc | apply Kept.drewN | apply Kept.drew) | exact HK.out)⟩, ⟨by repeat (first | (with_reducible first | exact HB.out | apply below_alloc | apply pw_below_drewN | apply below_drew1) | exact HB.out)⟩⟩
  case round =>
    clear H'
    try clear c1
    try clear p2
    try clear c3
    obtain ⟨x2_1, x7_1, rfl, HA, HK1, HO_2, HK, HB⟩ := hrel
    cases gk with
    | zero => exact absurd HA.out (by simp [crosstreeref15_spread.l0])
    | succ k1 =>
      have H := HA.out
      clear HA
      simp only [crosstreeref15_spread.l0] at H
      by_cases c4 : x7_1 = true
      · subst c4
        have H1 : (crosstreeref15_spread.l1 k1 a0 l1 x2_1 false 0) = some r := by rw [if_pos rfl] at H; exact H
        clear H
        have H := H1
        clear H1
        have H' := Aside0.mk H
        clear H
        go_wp2
        go_loopg [7, 8] k1 (fun kq v7 v8 w' => ∃ (x2_2 : List Bool) (x7_2 : Bool) (x8_2 : Int), v7 = .bool x7_2 ∧ v8 = .int .i64 x8_2 ∧ Aside0 (crosstreeref15_spread.l1 kq a0 l1 x2_2 x7_2 x8_2 = some r) ∧ Aside0 (kq ≤ k1) ∧ Aside0 (Kd.R Kd.bool 4 w' w0.heap.size (fun k_ => (P2_ k_ ∨ w.heap.size ≤ k_)) u9000_ x2_2) ∧ Aside0 (Kept w w' (fun k_ => P2_ k_)) ∧ Aside0 (Below w0.heap.size w0 w'))
        case atStart => exact ⟨(x2_1), (false), (0), (by first | rfl | (simp; done) | (simp [*]; done)), (by first | rfl | (simp; done) | (simp [*]; done)), H', ⟨Nat.le_refl _⟩, ⟨by (with_reducible repeat (first | apply Kd.R_alloc | apply Kd.R_drewN | apply Kd.R_drew)); exact HO_2.out⟩, ⟨by repeat (first | (with_reducible first | exact HK.out | apply Kept.alloc | apply Kept.drewN | apply Kept.drew) | exact HK.out)⟩, ⟨by repeat (first | (with_reducible first | exact HB.out | apply below_alloc | apply pw_below_drewN | apply below_drew1) | exact HB.out)⟩⟩
        case round =>
          clear H'
          try clear c1
          try clear p2
          try clear c3
          try clear c4
          try clear p2
          obtain ⟨x2_2, x7_2, x8_2, rfl, rfl, HA, HK2, HO_2, HK, HB⟩ := hrel
          cases gk with
          | zero => exact absurd HA.out (by simp [crosstreeref15_spread.l1])
          | succ k2 =>
            have H := HA.out
            clear HA
            simp only [crosstreeref15_spread.l1] at H
            by_cases c5 : x8_2 < (l1.length : Int)
            · rw [if_pos c5] at H
              have c5b0 : decide (x8_2 < (l1.length : Int)) = true := decide_eq_true c5
              clear c5
              by_cases c6 : 0 ≤ x8_2
              · rw [if_pos c6] at H
                have c6b0 : decide (0 ≤ x8_2) = true := decide_eq_true c6
                clear c6
                by_cases c7 : ((rd_T41 l1 x8_2).f0) ≥ 0
                · rw [if_pos c7] at H
                  have c7b0 : decide (0 ≤ ((rd_T41 l1 x8_2).f0)) = true := decide_eq_true c7
                  clear c7
                  by_cases c8 : ((rd_T41 l1 x8_2).f0) < a0
                  · rw [if_pos c8] at H
                    have c8b0 : decide (((rd_T41 l1 x8_2).f0) < a0) = true := decide_eq_true c8
                    clear c8
                    by_cases c9 : ((rd_T41 l1 x8_2).f2) ≥ 0
                    · rw [if_pos c9] at H
                      have c9b0 : decide (0 ≤ ((rd_T41 l1 x8_2).f2)) = true := decide_eq_true c9
                      clear c9
                      by_cases c10 : ((rd_T41 l1 x8_2).f2) < a0
                      · rw [if_pos c10] at H
                        have c10b0 : decide (((rd_T41 l1 x8_2).f2) < a0) = true := decide_eq_true c10
                        clear c10
                        by_cases c11 : 0 ≤ ((rd_T41 l1 x8_2).f0)
                        · rw [if_pos c11] at H
                          have c11b0 : decide (0 ≤ ((rd_T41 l1 x8_2).f0)) = true := decide_eq_true c11
                          clear c11
                          by_cases c12 : ((rd_T41 l1 x8_2).f0) < (x2_2.length : Int)
                          · rw [if_pos c12] at H
                            have c12b0 : decide (((rd_T41 l1 x8_2).f0) < (x2_2.length : Int)) = true := decide_eq_true c12
                            clear c12
                            obtain ⟨bq13, hbq13⟩ : ∃ b_ : Bool, b_ = (rdOf false x2_2 ((rd_T41 l1 x8_2).f0)) := ⟨_, rfl⟩
                            replace H : (if bq13 = true then (if 0 ≤ ((rd_T41 l1 x8_2).f2) then (if ((rd_T41 l1 x8_2).f2) < (x2_2.length : Int) then (if (rdOf false x2_2 ((rd_T41 l1 x8_2).f2) = true) then (crosstreeref15_spread.l1 k2 a0 l1 x2_2 x7_2 (wrap64 (x8_2 + 1))) else (crosstreeref15_spread.l1 k2 a0 l1 (x2_2.set (((rd_T41 l1 x8_2).f2) : Int).toNat true) true (wrap64 (x8_2 + 1)))) else (none)) else (none)) else (crosstreeref15_spread.l1 k2 a0 l1 x2_2 x7_2 (wrap64 (x8_2 + 1)))) = some r := by rw [← hbq13] at H; exact H
                            have Nbq13 := Aside0.mk hbq13
                            clear hbq13
                            by_cases c14 : bq13 = true
                            · subst c14
                              have H1 : (if 0 ≤ ((rd_T41 l1 x8_2).f2) then (if ((rd_T41 l1 x8_2).f2) < (x2_2.length : Int) then (if (rdOf false x2_2 ((rd_T41 l1 x8_2).f2) = true) then (crosstreeref15_spread.l1 k2 a0 l1 x2_2 x7_2 (wrap64 (x8_2 + 1))) else (crosstreeref15_spread.l1 k2 a0 l1 (x2_2.set (((rd_T41 l1 x8_2).f2) : Int).toNat true) true (wrap64 (x8_2 + 1)))) else (none)) else (none)) = some r := by rw [if_pos rfl] at H; exact H
                              clear H
                              have H := H1
                              clear H1
                              by_cases c15 : 0 ≤ ((rd_T41 l1 x8_2).f2)
                              · rw [if_pos c15] at H
                                have c15b0 : decide (0 ≤ ((rd_T41 l1 x8_2).f2)) = true := decide_eq_true c15
                                clear c15
                                by_cases c16 : ((rd_T41 l1 x8_2).f2) < (x2_2.length : Int)
                                · rw [if_pos c16] at H
                                  have c16b0 : decide (((rd_T41 l1 x8_2).f2) < (x2_2.length : Int)) = true := decide_eq_true c16
                                  clear c16
                                  obtain ⟨bq17, hbq17⟩ : ∃ b_ : Bool, b_ = (rdOf false x2_2 ((rd_T41 l1 x8_2).f2)) := ⟨_, rfl⟩
                                  replace H : (if (bq17 = true) then (crosstreeref15_spread.l1 k2 a0 l1 x2_2 x7_2 (wrap64 (x8_2 + 1))) else (crosstreeref15_spread.l1 k2 a0 l1 (x2_2.set (((rd_T41 l1 x8_2).f2) : Int).toNat true) true (wrap64 (x8_2 + 1)))) = some r := by rw [← hbq17] at H; exact H
                                  have Nbq17 := Aside0.mk hbq17
                                  clear hbq17
                                  by_cases c18 : (bq17 = true)
                                  · subst c18
                                    have H1 : (crosstreeref15_spread.l1 k2 a0 l1 x2_2 x7_2 (wrap64 (x8_2 + 1))) = some r := by rw [if_pos rfl] at H; exact H
                                    clear H
                                    have H := H1
                                    clear H1
                                    have H' := Aside0.mk H
                                    clear H
                                    have p314 : 0 ≤ (x8_2 : Int) := of_decide_eq_true (by first | (with_reducible assumption) | assumption)
                                    have q314 : x8_2 < (l1.length : Int) := of_decide_eq_true (by first | (with_reducible assumption) | assumption)
                                    obtain ⟨ad314, e314, hx314_0, hx314_1, hx314_2⟩ := at_T41 (Kd.C_kept_now HR1.out HK.out) x8_2 p314 q314
                                    cases e314
                                    replace p314 := eq_true p314
                                    replace q314 := eq_true q314
                                    have p315 : 0 ≤ (x8_2 : Int) := of_decide_eq_true (by first | (with_reducible assumption) | assumption)
                                    have q315 : x8_2 < (l1.length : Int) := of_decide_eq_true (by first | (with_reducible assumption) | assumption)
                                    obtain ⟨ad315, e315, hx315_0, hx315_1, hx315_2⟩ := at_T41 (Kd.C_kept_now HR1.out HK.out) x8_2 p315 q315
                                    obtain rfl : ad314 = ad315 := (by injection e315)
                                    replace p315 := eq_true p315
                                    replace q315 := eq_true q315
                                    obtain ⟨Ao19, co19, eo19⟩ := Kd.R_slice HO_2.out
                                    subst eo19
                                    have p316 : 0 ≤ (((rd_T41 l1 x8_2).f0) : Int) := of_decide_eq_true (by first | (with_reducible assumption) | assumption)
                                    have q316 : ((rd_T41 l1 x8_2).f0) < (x2_2.length : Int) := of_decide_eq_true (by first | (with_reducible assumption) | assumption)
                                    obtain ⟨ad316, e316, hx316_0⟩ := Kd.at_bool (Kd.R_reads' HO_2.out).2.2 ((rd_T41 l1 x8_2).f0) p316 q316
                                    (try rw [← Nbq13.out] at hx316_0)
                                    (try rw [← Nbq17.out] at hx316_0)
                                    cases e316
                                    replace p316 := eq_true p316
                                    replace q316 := eq_true q316
                                    have p317 : 0 ≤ (((rd_T41 l1 x8_2).f2) : Int) := of_decide_eq_true (by first | (with_reducible assumption) | assumption)
                                    have q317 : ((rd_T41 l1 x8_2).f2) < (x2_2.length : Int) := of_decide_eq_true (by first | (with_reducible assumption) | assumption)
                                    obtain ⟨ad317, e317, hx317_0⟩ := Kd.at_bool (Kd.R_reads' HO_2.out).2.2 ((rd_T41 l1 x8_2).f2) p317 q317
                                    (try rw [← Nbq13.out] at hx317_0)
                                    (try rw [← Nbq17.out] at hx317_0)
                                    obtain rfl : ad316 = ad317 := (by injection e317)
                                    replace p317 := eq_true p317
                                    replace q317 := eq_true q317
                                    go_wp2
                                    go_roundg k2
                                    case measure => have := HK1.out; have := HK2.out; omega
                                    case rel => exact ⟨(x2_2), (x7_2), (wrap64 (x8_2 + 1)), (by first | rfl | (simp; done) | (simp [*]; done)), (by first | rfl | (simp; done) | (simp [*]; done)), H', ⟨by have := HK1.out; have := HK2.out; omega⟩, ⟨by (with_reducible repeat (first | apply Kd.R_alloc | apply Kd.R_drewN | apply Kd.R_drew)); exact HO_2.out⟩, ⟨by repeat (first | (with_reducible first | exact HK.out | apply Kept.alloc | apply Kept.drewN | apply Kept.drew) | exact HK.out)⟩, ⟨by repeat (first | (with_reducible first | exact HB.out | apply below_alloc | apply pw_below_drewN | apply below_drew1) | exact HB.out)⟩⟩
                                  · replace c18 := Bool.eq_false_iff.mpr c18
                                    subst c18
                                    have H1 : (crosstreeref15_spread.l1 k2 a0 l1 (x2_2.set (((rd_T41 l1 x8_2).f2) : Int).toNat true) true (wrap64 (x8_2 + 1))) = some r := by rw [if_neg (show ¬ (false = true) by decide)] at H; exact H
                                    clear H
                                    have H := H1
                                    clear H1
                                    obtain ⟨y318, hy318⟩ : ∃ y_ : List Bool, y_ = (x2_2.set (((rd_T41 l1 x8_2).f2) : Int).toNat true) := ⟨_, rfl⟩
                                    replace H : (crosstreeref15_spread.l1 k2 a0 l1 y318 true (wrap64 (x8_2 + 1))) = some r := by first | (rw [hy318]; with_reducible exact H) | (have H2_ := (Option.bind_some _ _).symm.trans H; rw [hy318]; with_reducible exact H2_) | (have H2_ := (Option.bind_some _ _).symm.trans H; with_reducible exact H2_) | with_reducible exact H | (rw [hy318]; exact H) | exact H
                                    have Ny318 := Aside0.mk hy318
                                    clear hy318
                                    have H' := Aside0.mk H
                                    clear H
                                    have p314 : 0 ≤ (x8_2 : Int) := of_decide_eq_true (by first | (with_reducible assumption) | assumption)
                                    have q314 : x8_2 < (l1.length : Int) := of_decide_eq_true (by first | (with_reducible assumption) | assumption)
                                    obtain ⟨ad314, e314, hx314_0, hx314_1, hx314_2⟩ := at_T41 (Kd.C_kept_now HR1.out HK.out) x8_2 p314 q314
                                    cases e314
                                    replace p314 := eq_true p314
                                    replace q314 := eq_true q314
                                    have p315 : 0 ≤ (x8_2 : Int) := of_decide_eq_true (by first | (with_reducible assumption) | assumption)
                                    have q315 : x8_2 < (l1.length : Int) := of_decide_eq_true (by first | (with_reducible assumption) | assumption)
                                    obtain ⟨ad315, e315, hx315_0, hx315_1, hx315_2⟩ := at_T41 (Kd.C_kept_now HR1.out HK.out) x8_2 p315 q315
                                    obtain rfl : ad314 = ad315 := (by injection e315)
                                    replace p315 := eq_true p315
                                    replace q315 := eq_true q315
                                    obtain ⟨Ao21, co21, eo21⟩ := Kd.R_slice HO_2.out
                                    subst eo21
                                    have p316 : 0 ≤ (((rd_T41 l1 x8_2).f0) : Int) := of_decide_eq_true (by first | (with_reducible assumption) | assumption)
                                    have q316 : ((rd_T41 l1 x8_2).f0) < (x2_2.length : Int) := of_decide_eq_true (by first | (with_reducible assumption) | assumption)
                                    obtain ⟨ad316, e316, hx316_0⟩ := Kd.at_bool (Kd.R_reads' HO_2.out).2.2 ((rd_T41 l1 x8_2).f0) p316 q316
                                    (try rw [← Nbq13.out] at hx316_0)
                                    (try rw [← Nbq17.out] at hx316_0)
                                    cases e316
                                    replace p316 := eq_true p316
                                    replace q316 := eq_true q316
                                    have p317 : 0 ≤ (((rd_T41 l1 x8_2).f2) : Int) := of_decide_eq_true (by first | (with_reducible assumption) | assumption)
                                    have q317 : ((rd_T41 l1 x8_2).f2) < (x2_2.length : Int) := of_decide_eq_true (by first | (with_reducible assumption) | assumption)
                                    obtain ⟨ad317, e317, hx317_0⟩ := Kd.at_bool (Kd.R_reads' HO_2.out).2.2 ((rd_T41 l1 x8_2).f2) p317 q317
                                    (try rw [← Nbq13.out] at hx317_0)
                                    (try rw [← Nbq17.out] at hx317_0)
                                    obtain rfl : ad316 = ad317 := (by injection e317)
                                    replace p317 := eq_true p317
                                    replace q317 := eq_true q317
                                    have p20 : 0 ≤ (((rd_T41 l1 x8_2).f2) : Int) := of_decide_eq_true (by first | (with_reducible assumption) | assumption)
                                    have q20 : (((rd_T41 l1 x8_2).f2) : Int) < ((x2_2.length : Int) : Int) := of_decide_eq_true (by first | (with_reducible assumption) | assumption)
                                    obtain ⟨go20, co20, eo20, gb20, gl20, cl20, HG20⟩ := Kd.R_form HO_2.out (by omega)
                                    (first | cases eo20 | (injection eo20 with ea_ en_ ec_; (first | subst ea_ | (injection ea_ with ea_; subst ea_)); subst ec_; clear en_))
                                    have GB20 := Aside0.mk gb20
                                    have GG20 := Aside0.mk HG20
                                    clear gb20 gl20 HG20
                                    have HMgo20 := Aside0.mk (show (P2_ go20 ∨ w.heap.size ≤ go20) from (HO_2.out.1 _ rfl))
                                    (first | simp only [add_plain] at hx316_0 | skip)
                                    (first | simp only [add_plain] at hx317_0 | skip)
                                    obtain ⟨hx20_0, hf20_0⟩ := Kd.R_celln false HO_2.out (((rd_T41 l1 x8_2).f2) : Int) p20 q20
                                    replace p20 := eq_true p20
                                    replace q20 := eq_true q20
                                    have HP22 := Kd.R_putg HO_2.out (((rd_T41 l1 x8_2).f2) : Int) true
                                    go_wp2_with (first | ((with_reducible refine gate_store (t := 4) (p := 59) rfl ?_); refine store_event (t := 4) (p := 59) (v := ?vo_w23) (w1 := (wr.setCell ⟨go20, (((rd_T41 l1 x8_2).f2) : Int).toNat, none⟩ (.bool true))) ?hg ?ho ?hn ?hr ?_; (case ho => rfl); (case hg => rfl); (case hn => rfl); (case hr => first | (go_simp; done) | (go_simp; rfl)); intro w23 hw; have hg : wr.grownBy w23 (some go20) := (by rw [hw]; exact HP22.2); have hp_ : Kd.R Kd.bool 4 w23 w0.heap.size (fun k_ => (P2_ k_ ∨ w.heap.size ≤ k_)) (.slice (some ⟨go20, 0, none⟩) x2_2.length co21) y318 := (by rw [hw, Ny318.out]; exact HP22.1); clear HP22; have n0_ := Aside0.mk (hp_); have n1_ := Aside0.mk ((by rw [hw]; exact below_set (HB.out) GB20.out : Below w0.heap.size w0 w23)); have n2_ := Aside0.mk (Kept.of_grown (S := (fun k_ => P2_ k_)) hg (by repeat (first | (with_reducible first | exact HK.out | apply Kept.alloc | apply Kept.drewN | apply Kept.drew) | exact HK.out)) (fun k_ e_ => (HO_2.out.1 k_ e_))); clear HO_2; clear HB; clear HK; have HO_2 := n0_; have HB := n1_; have HK := n2_; clear n0_ n1_ n2_; clear hg hw hp_))
                                    go_roundg k2
                                    case measure => have := HK1.out; have := HK2.out; omega
                                    case rel => exact ⟨(y318), (true), (wrap64 (x8_2 + 1)), (by first | rfl | (simp; done) | (simp [*]; done)), (by first | rfl | (simp; done) | (simp [*]; done)), H', ⟨by have := HK1.out; have := HK2.out; omega⟩, ⟨by (with_reducible repeat (first | apply Kd.R_alloc | apply Kd.R_drewN | apply Kd.R_drew)); exact HO_2.out⟩, ⟨by repeat (first | (with_reducible first | exact HK.out | apply Kept.alloc | apply Kept.drewN | apply Kept.drew) | exact HK.out)⟩, ⟨by repeat (first | (with_reducible first | exact HB.out | apply below_alloc | apply pw_below_drewN | apply below_drew1) | exact HB.out)⟩⟩
                                · rw [if_neg c16] at H
                                  exact absurd H (by simp)
                              · rw [if_neg c15] at H
                                exact absurd H (by simp)
                            · replace c14 := Bool.eq_false_iff.mpr c14
                              subst c14
                              have H1 : (crosstreeref15_spread.l1 k2 a0 l1 x2_2 x7_2 (wrap64 (x8_2 + 1))) = some r := by rw [if_neg (show ¬ (false = true) by decide)] at H; exact H
                              clear H
                              have H := H1
                              clear H1
                              have H' := Aside0.mk H
                              clear H
                              have p314 : 0 ≤ (x8_2 : Int) := of_decide_eq_true (by first | (with_reducible assumption) | assumption)
                              have q314 : x8_2 < (l1.length : Int) := of_decide_eq_true (by first | (with_reducible assumption) | assumption)
                              obtain ⟨ad314, e314, hx314_0, hx314_1, hx314_2⟩ := at_T41 (Kd.C_kept_now HR1.out HK.out) x8_2 p314 q314
                              cases e314
                              replace p314 := eq_true p314
                              replace q314 := eq_true q314
                              have p315 : 0 ≤ (x8_2 : Int) := of_decide_eq_true (by first | (with_reducible assumption) | assumption)
                              have q315 : x8_2 < (l1.length : Int) := of_decide_eq_true (by first | (with_reducible assumption) | assumption)
                              obtain ⟨ad315, e315, hx315_0, hx315_1, hx315_2⟩ := at_T41 (Kd.C_kept_now HR1.out HK.out) x8_2 p315 q315
                              obtain rfl : ad314 = ad315 := (by injection e315)
                              replace p315 := eq_true p315
                              replace q315 := eq_true q315
                              obtain ⟨Ao24, co24, eo24⟩ := Kd.R_slice HO_2.out
                              subst eo24
                              have p316 : 0 ≤ (((rd_T41 l1 x8_2).f0) : Int) := of_decide_eq_true (by first | (with_reducible assumption) | assumption)
                              have q316 : ((rd_T41 l1 x8_2).f0) < (x2_2.length : Int) := of_decide_eq_true (by first | (with_reducible assumption) | assumption)
                              obtain ⟨ad316, e316, hx316_0⟩ := Kd.at_bool (Kd.R_reads' HO_2.out).2.2 ((rd_T41 l1 x8_2).f0) p316 q316
                              (try rw [← Nbq13.out] at hx316_0)
                              cases e316
                              replace p316 := eq_true p316
                              replace q316 := eq_true q316
                              go_wp2
                              go_roundg k2
                              case measure => have := HK1.out; have := HK2.out; omega
                              case rel => exact ⟨(x2_2), (x7_2), (wrap64 (x8_2 + 1)), (by first | rfl | (simp; done) | (simp [*]; done)), (by first | rfl | (simp; done) | (simp [*]; done)), H', ⟨by have := HK1.out; have := HK2.out; omega⟩, ⟨by (with_reducible repeat (first | apply Kd.R_alloc | apply Kd.R_drewN | apply Kd.R_drew)); exact HO_2.out⟩, ⟨by repeat (first | (with_reducible first | exact HK.out | apply Kept.alloc | apply Kept.drewN | apply Kept.drew) | exact HK.out)⟩, ⟨by repeat (first | (with_reducible first | exact HB.out | apply below_alloc | apply pw_below_drewN | apply below_drew1) | exact HB.out)⟩⟩
                          · rw [if_neg c12] at H
                            exact absurd H (by simp)
                        · rw [if_neg c11] at H
                          exact absurd H (by simp)
                      · rw [if_neg c10] at H
                        have c10b0 : decide (((rd_T41 l1 x8_2).f2) < a0) = false := decide_eq_false c10
                        clear c10
                        have H' := Aside0.mk H
                        clear H
                        have p314 : 0 ≤ (x8_2 : Int) := of_decide_eq_true (by first | (with_reducible assumption) | assumption)
                        have q314 : x8_2 < (l1.length : Int) := of_decide_eq_true (by first | (with_reducible assumption) | assumption)
                        obtain ⟨ad314, e314, hx314_0, hx314_1, hx314_2⟩ := at_T41 (Kd.C_kept_now HR1.out HK.out) x8_2 p314 q314
                        cases e314
                        replace p314 := eq_true p314
                        replace q314 := eq_true q314
                        have p315 : 0 ≤ (x8_2 : Int) := of_decide_eq_true (by first | (with_reducible assumption) | assumption)
                        have q315 : x8_2 < (l1.length : Int) := of_decide_eq_true (by first | (with_reducible assumption) | assumption)
                        obtain ⟨ad315, e315, hx315_0, hx315_1, hx315_2⟩ := at_T41 (Kd.C_kept_now HR1.out HK.out) x8_2 p315 q315
                        obtain rfl : ad314 = ad315 := (by injection e315)
                        replace p315 := eq_true p315
                        replace q315 := eq_true q315
                        go_wp2
                        go_roundg k2
                        case measure => have := HK1.out; have := HK2.out; omega
                        case rel => exact ⟨(x2_2), (x7_2), (wrap64 (x8_2 + 1)), (by first | rfl | (simp; done) | (simp [*]; done)), (by first | rfl | (simp; done) | (simp [*]; done)), H', ⟨by have := HK1.out; have := HK2.out; omega⟩, ⟨by (with_reducible repeat (first | apply Kd.R_alloc | apply Kd.R_drewN | apply Kd.R_drew)); exact HO_2.out⟩, ⟨by repeat (first | (with_reducible first | exact HK.out | apply Kept.alloc | apply Kept.drewN | apply Kept.drew) | exact HK.out)⟩, ⟨by repeat (first | (with_reducible first | exact HB.out | apply below_alloc | apply pw_below_drewN | apply below_drew1) | exact HB.out)⟩⟩
                    · rw [if_neg c9] at H
                      have c9b0 : decide (0 ≤ ((rd_T41 l1 x8_2).f2)) = false := decide_eq_false c9
                      clear c9
                      have H' := Aside0.mk H
                      clear H
                      have p314 : 0 ≤ (x8_2 : Int) := of_decide_eq_true (by first | (with_reducible assumption) | assumption)
                      have q314 : x8_2 < (l1.length : Int) := of_decide_eq_true (by first | (with_reducible assumption) | assumption)
                      obtain ⟨ad314, e314, hx314_0, hx314_1, hx314_2⟩ := at_T41 (Kd.C_kept_now HR1.out HK.out) x8_2 p314 q314
                      cases e314
                      replace p314 := eq_true p314
                      replace q314 := eq_true q314
                      have p315 : 0 ≤ (x8_2 : Int) := of_decide_eq_true (by first | (with_reducible assumption) | assumption)
                      have q315 : x8_2 < (l1.length : Int) := of_decide_eq_true (by first | (with_reducible assumption) | assumption)
                      obtain ⟨ad315, e315, hx315_0, hx315_1, hx315_2⟩ := at_T41 (Kd.C_kept_now HR1.out HK.out) x8_2 p315 q315
                      obtain rfl : ad314 = ad315 := (by injection e315)
                      replace p315 := eq_true p315
                      replace q315 := eq_true q315
                      go_wp2
                      go_roundg k2
                      case measure => have := HK1.out; have := HK2.out; omega
                      case rel => exact ⟨(x2_2), (x7_2), (wrap64 (x8_2 + 1)), (by first | rfl | (simp; done) | (simp [*]; done)), (by first | rfl | (simp; done) | (simp [*]; done)), H', ⟨by have := HK1.out; have := HK2.out; omega⟩, ⟨by (with_reducible repeat (first | apply Kd.R_alloc | apply Kd.R_drewN | apply Kd.R_drew)); exact HO_2.out⟩, ⟨by repeat (first | (with_reducible first | exact HK.out | apply Kept.alloc | apply Kept.drewN | apply Kept.drew) | exact HK.out)⟩, ⟨by repeat (first | (with_reducible first | exact HB.out | apply below_alloc | apply pw_below_drewN | apply below_drew1) | exact HB.out)⟩⟩
                  · rw [if_neg c8] at H
                    have c8b0 : decide (((rd_T41 l1 x8_2).f0) < a0) = false := decide_eq_false c8
                    clear c8
                    have H' := Aside0.mk H
                    clear H
                    have p314 : 0 ≤ (x8_2 : Int) := of_decide_eq_true (by first | (with_reducible assumption) | assumption)
                    have q314 : x8_2 < (l1.length : Int) := of_decide_eq_true (by first | (with_reducible assumption) | assumption)
                    obtain ⟨ad314, e314, hx314_0, hx314_1, hx314_2⟩ := at_T41 (Kd.C_kept_now HR1.out HK.out) x8_2 p314 q314
                    cases e314
                    replace p314 := eq_true p314
                    replace q314 := eq_true q314
                    have p315 : 0 ≤ (x8_2 : Int) := of_decide_eq_true (by first | (with_reducible assumption) | assumption)
                    have q315 : x8_2 < (l1.length : Int) := of_decide_eq_true (by first | (with_reducible assumption) | assumption)
                    obtain ⟨ad315, e315, hx315_0, hx315_1, hx315_2⟩ := at_T41 (Kd.C_kept_now HR1.out HK.out) x8_2 p315 q315
                    obtain rfl : ad314 = ad315 := (by injection e315)
                    replace p315 := eq_true p315
                    replace q315 := eq_true q315
                    go_wp2
                    go_roundg k2
                    case measure => have := HK1.out; have := HK2.out; omega
                    case rel => exact ⟨(x2_2), (x7_2), (wrap64 (x8_2 + 1)), (by first | rfl | (simp; done) | (simp [*]; done)), (by first | rfl | (simp; done) | (simp [*]; done)), H', ⟨by have := HK1.out; have := HK2.out; omega⟩, ⟨by (with_reducible repeat (first | apply Kd.R_alloc | apply Kd.R_drewN | apply Kd.R_drew)); exact HO_2.out⟩, ⟨by repeat (first | (with_reducible first | exact HK.out | apply Kept.alloc | apply Kept.drewN | apply Kept.drew) | exact HK.out)⟩, ⟨by repeat (first | (with_reducible first | exact HB.out | apply below_alloc | apply pw_below_drewN | apply below_drew1) | exact HB.out)⟩⟩
                · rw [if_neg c7] at H
                  have c7b0 : decide (0 ≤ ((rd_T41 l1 x8_2).f0)) = false := decide_eq_false c7
                  clear c7
                  have H' := Aside0.mk H
                  clear H
                  have p314 : 0 ≤ (x8_2 : Int) := of_decide_eq_true (by first | (with_reducible assumption) | assumption)
                  have q314 : x8_2 < (l1.length : Int) := of_decide_eq_true (by first | (with_reducible assumption) | assumption)
                  obtain ⟨ad314, e314, hx314_0, hx314_1, hx314_2⟩ := at_T41 (Kd.C_kept_now HR1.out HK.out) x8_2 p314 q314
                  cases e314
                  replace p314 := eq_true p314
                  replace q314 := eq_true q314
                  have p315 : 0 ≤ (x8_2 : Int) := of_decide_eq_true (by first | (with_reducible assumption) | assumption)
                  have q315 : x8_2 < (l1.length : Int) := of_decide_eq_true (by first | (with_reducible assumption) | assumption)
                  obtain ⟨ad315, e315, hx315_0, hx315_1, hx315_2⟩ := at_T41 (Kd.C_kept_now HR1.out HK.out) x8_2 p315 q315
                  obtain rfl : ad314 = ad315 := (by injection e315)
                  replace p315 := eq_true p315
                  replace q315 := eq_true q315
                  go_wp2
                  go_roundg k2
                  case measure => have := HK1.out; have := HK2.out; omega
                  case rel => exact ⟨(x2_2), (x7_2), (wrap64 (x8_2 + 1)), (by first | rfl | (simp; done) | (simp [*]; done)), (by first | rfl | (simp; done) | (simp [*]; done)), H', ⟨by have := HK1.out; have := HK2.out; omega⟩, ⟨by (with_reducible repeat (first | apply Kd.R_alloc | apply Kd.R_drewN | apply Kd.R_drew)); exact HO_2.out⟩, ⟨by repeat (first | (with_reducible first | exact HK.out | apply Kept.alloc | apply Kept.drewN | apply Kept.drew) | exact HK.out)⟩, ⟨by repeat (first | (with_reducible first | exact HB.out | apply below_alloc | apply pw_below_drewN | apply below_drew1) | exact HB.out)⟩⟩
              · rw [if_neg c6] at H
                exact absurd H (by simp)
            · rw [if_neg c5] at H
              have c5b0 : decide (x8_2 < (l1.length : Int)) = false := decide_eq_false c5
              clear c5
              have H' := Aside0.mk H
              clear H
              go_wp2
              go_roundg k2
              case measure => have := HK1.out; have := HK2.out; omega
              case rel => exact ⟨(x2_2), (x7_2), (by first | rfl | (simp; done) | (simp [*]; done)), H', ⟨by have := HK1.out; have := HK2.out; omega⟩, ⟨by (with_reducible repeat (first | apply Kd.R_alloc | apply Kd.R_drewN | apply Kd.R_drew)); exact HO_2.out⟩, ⟨by repeat (first | (with_reducible first | exact HK.out | apply Kept.alloc | apply Kept.drewN | apply Kept.drew) | exact HK.out)⟩, ⟨by repeat (first | (with_reducible first | exact HB.out | apply below_alloc | apply pw_below_drewN | apply below_drew1) | exact HB.out)⟩⟩
      · replace c4 := Bool.eq_false_iff.mpr c4
        subst c4
        have H1 : (some x2_1) = some r := by rw [if_neg (show ¬ (false = true) by decide)] at H; exact H
        clear H
        have H := H1
        clear H1
        obtain rfl := Option.some.inj H
        go_wp2
        go_ret
        exact ⟨_, by first | rfl | (simp [errW_none, errW_some] <;> rfl) | (simp [*, errW_none, errW_some] <;> rfl), by (with_reducible repeat (first | apply Kd.R_alloc | apply Kd.R_drewN | apply Kd.R_drew)); exact HO_2.out, by repeat (first | (with_reducible first | exact HB.out | apply below_alloc | apply pw_below_drewN | apply below_drew1) | exact HB.out), by repeat (first | (with_reducible first | exact HK.out | apply Kept.alloc | apply Kept.drewN | apply Kept.drew) | exact HK.out)⟩

end Go.Proofs.Ytjbgealnnlmchaa.G
