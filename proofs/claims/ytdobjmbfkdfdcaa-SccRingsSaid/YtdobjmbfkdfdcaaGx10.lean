-- A print of Ytdobjmbfkdfdcaa: functions, their calls (by the kit's print.py, from a copy in scratch).
import Derived.Test.YtdobjmbfkdfdcaaGx0
import Derived.Test.YtdobjmbfkdfdcaaGx9
namespace Go.Proofs.Ytdobjmbfkdfdcaa.G
open Go.RowKit Go.Proofs.YtdobjmbfkdfdcaaW.PrintWords Go.Proofs.YtdobjmbfkdfdcaaW.PrintLast Go.Proofs.YtdobjmbfkdfdcaaW.PrintMore
attribute [local go_sem] max2_int min2_int max_two min_two max_three min_three max_four min_four   -- for this text's walks alone
set_option linter.unusedVariables false
set_option linter.unusedSimpArgs false

/-! ### crosstreeref15_Order: function 15 -/
mutual
def crosstreeref15_Order.l0 : Nat → Int → List (S33) → List Int → List Bool → List Int → Option (List Int)
  | 0, _, _, _, _, _ => none
  | k + 1, x0, x1, x5, x6, x7 => crosstreeref15_Order.l1 k x0 x1 x5 x6 x7 (-1) 0
def crosstreeref15_Order.l1 : Nat → Int → List (S33) → List Int → List Bool → List Int → Int → Int → Option (List Int)
  | 0, _, _, _, _, _, _, _ => none
  | k + 1, x0, x1, x5, x6, x7, x8, x9 => if x9 < x0 then (crosstreeref15_Order.j2 k x0 x1 x5 x6 x7 x8 x9 (decide (x8 < 0))) else (crosstreeref15_Order.j2 k x0 x1 x5 x6 x7 x8 x9 false)
def crosstreeref15_Order.j2 : Nat → Int → List (S33) → List Int → List Bool → List Int → Int → Int → Bool → Option (List Int)
  | 0, _, _, _, _, _, _, _, _ => none
  | k + 1, x0, x1, x5, x6, x7, x8, x9, x27 => if x27 = true then (if 0 ≤ x9 then (if x9 < (x5.length : Int) then (if (rd x5 x9) = x9 then (if x9 < (x6.length : Int) then (crosstreeref15_Order.j3 k x0 x1 x5 x6 x7 x8 x9 (rdOf false x6 x9)) else (none)) else (crosstreeref15_Order.j3 k x0 x1 x5 x6 x7 x8 x9 true)) else (none)) else (none)) else (if x8 < 0 then (some x7) else (if 0 ≤ x8 then (if x8 < (x6.length : Int) then (if x7.length < 17592186044416 then (crosstreeref15_Order.l0 k x0 x1 x5 (x6.set (x8 : Int).toNat true) (x7 ++ [x8])) else (none)) else (none)) else (none)))
def crosstreeref15_Order.j3 : Nat → Int → List (S33) → List Int → List Bool → List Int → Int → Int → Bool → Option (List Int)
  | 0, _, _, _, _, _, _, _, _ => none
  | k + 1, x0, x1, x5, x6, x7, x8, x9, x41 => if x41 = true then (crosstreeref15_Order.l1 k x0 x1 x5 x6 x7 x8 (wrap64 (x9 + 1))) else (crosstreeref15_Order.l2 k x0 x1 x5 x6 x7 x8 x9 true 0)
def crosstreeref15_Order.l2 : Nat → Int → List (S33) → List Int → List Bool → List Int → Int → Int → Bool → Int → Option (List Int)
  | 0, _, _, _, _, _, _, _, _, _ => none
  | k + 1, x0, x1, x5, x6, x7, x8, x9, x10, x11 => if x11 < (x1.length : Int) then (if 0 ≤ x11 then (if ((rd_T33 x1 x11).f0) ≥ 0 then (if ((rd_T33 x1 x11).f0) < x0 then (if ((rd_T33 x1 x11).f2) ≥ 0 then (if ((rd_T33 x1 x11).f2) < x0 then (if 0 ≤ ((rd_T33 x1 x11).f2) then (if ((rd_T33 x1 x11).f2) < (x5.length : Int) then (if (rd x5 ((rd_T33 x1 x11).f2)) = x9 then (if 0 ≤ ((rd_T33 x1 x11).f0) then (if ((rd_T33 x1 x11).f0) < (x5.length : Int) then (if (rd x5 ((rd_T33 x1 x11).f0)) = x9 then (crosstreeref15_Order.l2 k x0 x1 x5 x6 x7 x8 x9 x10 (wrap64 (x11 + 1))) else (if 0 ≤ (rd x5 ((rd_T33 x1 x11).f0)) then (if (rd x5 ((rd_T33 x1 x11).f0)) < (x6.length : Int) then (if (rdOf false x6 (rd x5 ((rd_T33 x1 x11).f0)) = true) then (crosstreeref15_Order.l2 k x0 x1 x5 x6 x7 x8 x9 x10 (wrap64 (x11 + 1))) else (crosstreeref15_Order.l2 k x0 x1 x5 x6 x7 x8 x9 false (wrap64 (x11 + 1)))) else (none)) else (none))) else (none)) else (none)) else (crosstreeref15_Order.l2 k x0 x1 x5 x6 x7 x8 x9 x10 (wrap64 (x11 + 1)))) else (none)) else (none)) else (crosstreeref15_Order.l2 k x0 x1 x5 x6 x7 x8 x9 x10 (wrap64 (x11 + 1)))) else (crosstreeref15_Order.l2 k x0 x1 x5 x6 x7 x8 x9 x10 (wrap64 (x11 + 1)))) else (crosstreeref15_Order.l2 k x0 x1 x5 x6 x7 x8 x9 x10 (wrap64 (x11 + 1)))) else (crosstreeref15_Order.l2 k x0 x1 x5 x6 x7 x8 x9 x10 (wrap64 (x11 + 1)))) else (none)) else (if x10 = true then (crosstreeref15_Order.l1 k x0 x1 x5 x6 x7 x9 (wrap64 (x9 + 1))) else (crosstreeref15_Order.l1 k x0 x1 x5 x6 x7 x8 (wrap64 (x9 + 1))))
end
def crosstreeref15_Order.f (k : Nat) (a0 : Int) (l1 : List (S33)) : Option (List Int) := (crosstreeref15_Groups.f k a0 l1).bind fun t277 => (if 0 ≤ (t277.length : Int) then (if ((t277.length : Int) : Int).toNat ≤ 281474976710656 then (crosstreeref15_Order.l0 k (t277.length : Int) l1 t277 (List.replicate ((t277.length : Int) : Int).toNat false) ([] : List Int)) else (none)) else (none))
theorem crosstreeref15_Order.mono_l : ∀ k, (∀ y0 y1 y2 y3 y4, LeO (crosstreeref15_Order.l0 k y0 y1 y2 y3 y4) (crosstreeref15_Order.l0 (k + 1) y0 y1 y2 y3 y4)) ∧ (∀ y0 y1 y2 y3 y4 y5 y6, LeO (crosstreeref15_Order.l1 k y0 y1 y2 y3 y4 y5 y6) (crosstreeref15_Order.l1 (k + 1) y0 y1 y2 y3 y4 y5 y6)) ∧ (∀ y0 y1 y2 y3 y4 y5 y6 y7, LeO (crosstreeref15_Order.j2 k y0 y1 y2 y3 y4 y5 y6 y7) (crosstreeref15_Order.j2 (k + 1) y0 y1 y2 y3 y4 y5 y6 y7)) ∧ (∀ y0 y1 y2 y3 y4 y5 y6 y7, LeO (crosstreeref15_Order.j3 k y0 y1 y2 y3 y4 y5 y6 y7) (crosstreeref15_Order.j3 (k + 1) y0 y1 y2 y3 y4 y5 y6 y7)) ∧ (∀ y0 y1 y2 y3 y4 y5 y6 y7 y8, LeO (crosstreeref15_Order.l2 k y0 y1 y2 y3 y4 y5 y6 y7 y8) (crosstreeref15_Order.l2 (k + 1) y0 y1 y2 y3 y4 y5 y6 y7 y8))
  | 0 => ⟨fun _ _ _ _ _ r h => by simp [crosstreeref15_Order.l0] at h, fun _ _ _ _ _ _ _ r h => by simp [crosstreeref15_Order.l1] at h, fun _ _ _ _ _ _ _ _ r h => by simp [crosstreeref15_Order.j2] at h, fun _ _ _ _ _ _ _ _ r h => by simp [crosstreeref15_Order.j3] at h, fun _ _ _ _ _ _ _ _ _ r h => by simp [crosstreeref15_Order.l2] at h⟩
  | k + 1 => by
    obtain ⟨ih0, ih1, ih2, ih3, ih4⟩ := crosstreeref15_Order.mono_l k
    refine ⟨?_, ?_, ?_, ?_, ?_⟩
    · intro y0 y1 y2 y3 y4
      unfold crosstreeref15_Order.l0
      repeat' first
      | (with_reducible exact ih0 _ _ _ _ _)
      | (with_reducible exact ih1 _ _ _ _ _ _ _)
      | (with_reducible exact ih2 _ _ _ _ _ _ _ _)
      | (with_reducible exact ih3 _ _ _ _ _ _ _ _)
      | (with_reducible exact ih4 _ _ _ _ _ _ _ _ _)
      | (with_reducible exact crosstreeref15_Groups.mono _ _ _)
      | (with_reducible exact LeO.refl _)
      | (with_reducible exact LeO.none _)
      | (with_reducible refine LeO.ite ?_ ?_)
      | (with_reducible refine LeO.bind ?_ (fun _ => ?_))
      | exact ih0 _ _ _ _ _
      | exact ih1 _ _ _ _ _ _ _
      | exact ih2 _ _ _ _ _ _ _ _
      | exact ih3 _ _ _ _ _ _ _ _
      | exact ih4 _ _ _ _ _ _ _ _ _
      | exact crosstreeref15_Groups.mono _ _ _
      | exact LeO.none _
      | refine LeO.ite ?_ ?_
      | refine LeO.bind ?_ (fun _ => ?_)
    · intro y0 y1 y2 y3 y4 y5 y6
      unfold crosstreeref15_Order.l1
      repeat' first
      | (with_reducible exact ih0 _ _ _ _ _)
      | (with_reducible exact ih1 _ _ _ _ _ _ _)
      | (with_reducible exact ih2 _ _ _ _ _ _ _ _)
      | (with_reducible exact ih3 _ _ _ _ _ _ _ _)
      | (with_reducible exact ih4 _ _ _ _ _ _ _ _ _)
      | (with_reducible exact crosstreeref15_Groups.mono _ _ _)
      | (with_reducible exact LeO.refl _)
      | (with_reducible exact LeO.none _)
      | (with_reducible refine LeO.ite ?_ ?_)
      | (with_reducible refine LeO.bind ?_ (fun _ => ?_))
      | exact ih0 _ _ _ _ _
      | exact ih1 _ _ _ _ _ _ _
      | exact ih2 _ _ _ _ _ _ _ _
      | exact ih3 _ _ _ _ _ _ _ _
      | exact ih4 _ _ _ _ _ _ _ _ _
      | exact crosstreeref15_Groups.mono _ _ _
      | exact LeO.none _
      | refine LeO.ite ?_ ?_
      | refine LeO.bind ?_ (fun _ => ?_)
    · intro y0 y1 y2 y3 y4 y5 y6 y7
      unfold crosstreeref15_Order.j2
      repeat' first
      | (with_reducible exact ih0 _ _ _ _ _)
      | (with_reducible exact ih1 _ _ _ _ _ _ _)
      | (with_reducible exact ih2 _ _ _ _ _ _ _ _)
      | (with_reducible exact ih3 _ _ _ _ _ _ _ _)
      | (with_reducible exact ih4 _ _ _ _ _ _ _ _ _)
      | (with_reducible exact crosstreeref15_Groups.mono _ _ _)
      | (with_reducible exact LeO.refl _)
      | (with_reducible exact LeO.none _)
      | (with_reducible refine LeO.ite ?_ ?_)
      | (with_reducible refine LeO.bind ?_ (fun _ => ?_))
      | exact ih0 _ _ _ _ _
      | exact ih1 _ _ _ _ _ _ _
      | exact ih2 _ _ _ _ _ _ _ _
      | exact ih3 _ _ _ _ _ _ _ _
      | exact ih4 _ _ _ _ _ _ _ _ _
      | exact crosstreeref15_Groups.mono _ _ _
      | exact LeO.none _
      | refine LeO.ite ?_ ?_
      | refine LeO.bind ?_ (fun _ => ?_)
    · intro y0 y1 y2 y3 y4 y5 y6 y7
      unfold crosstreeref15_Order.j3
      repeat' first
      | (with_reducible exact ih0 _ _ _ _ _)
      | (with_reducible exact ih1 _ _ _ _ _ _ _)
      | (with_reducible exact ih2 _ _ _ _ _ _ _ _)
      | (with_reducible exact ih3 _ _ _ _ _ _ _ _)
      | (with_reducible exact ih4 _ _ _ _ _ _ _ _ _)
      | (with_reducible exact crosstreeref15_Groups.mono _ _ _)
      | (with_reducible exact LeO.refl _)
      | (with_reducible exact LeO.none _)
      | (with_reducible refine LeO.ite ?_ ?_)
      | (with_reducible refine LeO.bind ?_ (fun _ => ?_))
      | exact ih0 _ _ _ _ _
      | exact ih1 _ _ _ _ _ _ _
      | exact ih2 _ _ _ _ _ _ _ _
      | exact ih3 _ _ _ _ _ _ _ _
      | exact ih4 _ _ _ _ _ _ _ _ _
      | exact crosstreeref15_Groups.mono _ _ _
      | exact LeO.none _
      | refine LeO.ite ?_ ?_
      | refine LeO.bind ?_ (fun _ => ?_)
    · intro y0 y1 y2 y3 y4 y5 y6 y7 y8
      unfold crosstreeref15_Order.l2
      repeat' first
      | (with_reducible exact ih0 _ _ _ _ _)
      | (with_reducible exact ih1 _ _ _ _ _ _ _)
      | (with_reducible exact ih2 _ _ _ _ _ _ _ _)
      | (with_reducible exact ih3 _ _ _ _ _ _ _ _)
      | (with_reducible exact ih4 _ _ _ _ _ _ _ _ _)
      | (with_reducible exact crosstreeref15_Groups.mono _ _ _)
      | (with_reducible exact LeO.refl _)
      | (with_reducible exact LeO.none _)
      | (with_reducible refine LeO.ite ?_ ?_)
      | (with_reducible refine LeO.bind ?_ (fun _ => ?_))
      | exact ih0 _ _ _ _ _
      | exact ih1 _ _ _ _ _ _ _
      | exact ih2 _ _ _ _ _ _ _ _
      | exact ih3 _ _ _ _ _ _ _ _
      | exact ih4 _ _ _ _ _ _ _ _ _
      | exact crosstreeref15_Groups.mono _ _ _
      | exact LeO.none _
      | refine LeO.ite ?_ ?_
      | refine LeO.bind ?_ (fun _ => ?_)
theorem crosstreeref15_Order.mono : ∀ a0 a1 k, LeO (crosstreeref15_Order.f k a0 a1) (crosstreeref15_Order.f (k + 1) a0 a1) := by
  intro a0 a1 k
  obtain ⟨ih0, ih1, ih2, ih3, ih4⟩ := crosstreeref15_Order.mono_l k
  unfold crosstreeref15_Order.f
  repeat' first
      | (with_reducible exact ih0 _ _ _ _ _)
      | (with_reducible exact ih1 _ _ _ _ _ _ _)
      | (with_reducible exact ih2 _ _ _ _ _ _ _ _)
      | (with_reducible exact ih3 _ _ _ _ _ _ _ _)
      | (with_reducible exact ih4 _ _ _ _ _ _ _ _ _)
      | (with_reducible exact crosstreeref15_Groups.mono _ _ _)
      | (with_reducible exact LeO.refl _)
      | (with_reducible exact LeO.none _)
      | (with_reducible refine LeO.ite ?_ ?_)
      | (with_reducible refine LeO.bind ?_ (fun _ => ?_))
      | exact ih0 _ _ _ _ _
      | exact ih1 _ _ _ _ _ _ _
      | exact ih2 _ _ _ _ _ _ _ _
      | exact ih3 _ _ _ _ _ _ _ _
      | exact ih4 _ _ _ _ _ _ _ _ _
      | exact crosstreeref15_Groups.mono _ _ _
      | exact LeO.none _
      | refine LeO.ite ?_ ?_
      | refine LeO.bind ?_ (fun _ => ?_)
set_option maxHeartbeats 8000000 in
set_option maxRecDepth 100000 in
theorem crosstreeref15_Order.calls (k : Nat) (a0 : Int) (A1 : Option Addr) (c1 : Nat) (l1 : List (S33)) (r : List Int) (w : World) (hr1 : Kd.C k33 w A1 l1.length l1) (hc1 : l1.length ≤ c1) (h : crosstreeref15_Order.f k a0 l1 = some r) :
    Calls Try.prog 15 #[.int .i64 a0, .slice A1 l1.length c1] w fun e w' => ∃ v0_ : Value, e = .returned (v0_) ∧ Kd.R (Kd.int .i64) 3 w' w.heap.size (fun _ => True) v0_ r ∧ Below w.heap.size w w' := by
  have HR1 := Aside0.mk hr1
  have HC1 := Aside0.mk hc1
  clear hr1 hc1
  have HB := Aside0.mk (Below.refl w.heap.size w)
  have H : ((crosstreeref15_Groups.f k a0 l1).bind fun t277 => (if 0 ≤ (t277.length : Int) then (if ((t277.length : Int) : Int).toNat ≤ 281474976710656 then (crosstreeref15_Order.l0 k (t277.length : Int) l1 t277 (List.replicate ((t277.length : Int) : Int).toNat false) ([] : List Int)) else (none)) else (none))) = some r := h
  clear h
  replace H := Option.bind_eq_some_iff.mp H
  obtain ⟨t277, A30, H⟩ := H
  replace H : (if 0 ≤ (t277.length : Int) then (if ((t277.length : Int) : Int).toNat ≤ 281474976710656 then (crosstreeref15_Order.l0 k (t277.length : Int) l1 t277 (List.replicate ((t277.length : Int) : Int).toNat false) ([] : List Int)) else (none)) else (none)) = some r := H
  have A3 := Aside0.mk A30
  clear A30
  by_cases c4 : 0 ≤ (t277.length : Int)
  · rw [if_pos c4] at H
    have c4b0 := eq_true c4
    have c4b1 : decide (0 ≤ (t277.length : Int)) = true := decide_eq_true c4
    clear c4
    by_cases c5 : ((t277.length : Int) : Int).toNat ≤ 281474976710656
    · rw [if_pos c5] at H
      have c5b0 := eq_true c5
      have c5b1 : decide (((t277.length : Int) : Int).toNat ≤ 281474976710656) = true := decide_eq_true c5
      clear c5
      obtain ⟨y280, hy280⟩ : ∃ y_ : List Bool, y_ = (List.replicate ((t277.length : Int) : Int).toNat false) := ⟨_, rfl⟩
      replace H : (crosstreeref15_Order.l0 k (t277.length : Int) l1 t277 y280 ([] : List Int)) = some r := by first | (rw [hy280]; with_reducible exact H) | (have H2_ := (Option.bind_some _ _).symm.trans H; rw [hy280]; with_reducible exact H2_) | (have H2_ := (Option.bind_some _ _).symm.trans H; with_reducible exact H2_) | with_reducible exact H | (rw [hy280]; exact H) | exact H
      have Ny280 := Aside0.mk hy280
      clear hy280
      have H' := Aside0.mk H
      clear H
      go_enter Try.func15, Try.ntmps15
      go_wp2_with (first | ((with_reducible refine gate_callee (f := 13) rfl ?_); refine goesL_ (some 16) rfl rfl Try.func13 (by kernel_rfl) rfl #[.int .i64 a0, .slice A1 l1.length c1] rfl (by (try simp only [List.map_toArray, List.map_cons, List.map_nil]); first | done | rfl | (simp only [List.length_drop, List.length_take]; rfl)) ?_; (with_reducible refine (crosstreeref15_Groups.calls k a0 _ _ l1 t277 _ ?side1 ?side2 A3.out).mono ?_); (case side1 => repeat (first | exact HR1.out | (with_reducible refine Kd.C_alloc ?_ _) | (with_reducible refine Kd.C_drewN ?_ _) | (with_reducible refine Kd.C_drew ?_))); (case side2 => exact HC1.out); rintro e w6 ⟨v278, rfl, ho0, hb⟩; refine ⟨_, rfl, ?_⟩; have n0_ := Aside0.mk (Kd.R_lower ho0 (below_size (by repeat (first | (with_reducible first | exact HB.out | apply below_alloc | apply pw_below_drewN | apply below_drew1) | exact HB.out)))); have n1_ := Aside0.mk (below_step (by repeat (first | (with_reducible first | exact HB.out | apply below_alloc | apply pw_below_drewN | apply below_drew1) | exact HB.out)) hb); clear HB; have HO279 := n0_; have HB := n1_; clear n0_ n1_; (try clear hb); (try clear hb2); (try clear hk); (try clear hi); (try clear ho0); obtain ⟨Ao7, co7, eo7⟩ := Kd.R_slice HO279.out; subst eo7) | ((with_reducible refine gate_dst (N := 20) rfl ?_); refine Kd.R_make Kd.bool _ 4 rfl (N := 20) rfl 39 _ _ rfl (t277.length : Int) rfl rfl Try.underlying39 (.bool false) 1 info4 rfl (by decide) (by omega) false (ok := fun _ => True) (okp := fun _ => True) rfl (fun _ hk => hk) trivial (of_decide_eq_true (by first | (with_reducible assumption) | assumption)) (Nat.le_trans (Nat.mul_le_mul_right _ (of_decide_eq_true (by first | (with_reducible assumption) | assumption) : (t277.length : Int).toNat ≤ 281474976710656)) (by omega)) (Below.refl _ _) (Nat.le_refl _) ?_; intro v281 w8 ho9 hb hg_ hnew_; clear hg_ hnew_; (first | rw [← Ny280.out] at ho9 | (simp only [Int.reduceToNat] at ho9; rw [← Ny280.out] at ho9)); have n0_ := Aside0.mk (Kd.R_below (by (with_reducible repeat (first | apply Kd.R_alloc | apply Kd.R_drewN | apply Kd.R_drew)); exact HO279.out) hb); have n1_ := Aside0.mk (Kd.R_lower ho9 (below_size (by repeat (first | (with_reducible first | exact HB.out | apply below_alloc | apply pw_below_drewN | apply below_drew1) | exact HB.out)))); have n2_ := Aside0.mk (below_step (by repeat (first | (with_reducible first | exact HB.out | apply below_alloc | apply pw_below_drewN | apply below_drew1) | exact HB.out)) hb); clear HO279; clear HB; have HO279 := n0_; have HO282 := n1_; have HB := n2_; clear n0_ n1_ n2_; clear hb ho9))
      go_loopg [7] k (fun kq v7 w' => ∃ (x6_1 : List Bool) (x7_1 : List Int), Aside0 (crosstreeref15_Order.l0 kq (t277.length : Int) l1 t277 x6_1 x7_1 = some r) ∧ Aside0 (kq ≤ k) ∧ Aside0 (Kd.R (Kd.int .i64) 3 w' w.heap.size (fun k_ => some k_ ≠ (v7 : Value).ownBlock) (.slice Ao7 t277.length co7) t277) ∧ Aside0 (Kd.R Kd.bool 4 w' w.heap.size (fun _ => True) v281 x6_1) ∧ Aside0 (Kd.R (Kd.int .i64) 3 w' w.heap.size (fun k_ => some k_ ≠ ((.slice Ao7 t277.length co7) : Value).ownBlock) v7 x7_1) ∧ Aside0 (Below w.heap.size w w'))
      case atStart => exact ⟨(y280), (([] : List Int)), H', ⟨Nat.le_refl _⟩, ⟨by (with_reducible repeat (first | apply Kd.R_alloc | apply Kd.R_drewN | apply Kd.R_drew)); exact Kd.R_mono HO279.out (fun _ hk => (by simp [Value.ownBlock]))⟩, ⟨by (with_reducible repeat (first | apply Kd.R_alloc | apply Kd.R_drewN | apply Kd.R_drew)); exact HO282.out⟩, ⟨by first | exact Kd.R_nil _ _ _ _ _ | exact Kd.N_nil _ _ _ _ _ | exact Kd.V_nil _ _ _ _ _ | exact Kd.Q_nil _ _ _ _ _ | exact Kd.S_nil _ _ _ _ _⟩, ⟨by repeat (first | (with_reducible first | exact HB.out | apply below_alloc | apply pw_below_drewN | apply below_drew1) | exact HB.out)⟩⟩
      case round =>
        clear H'
        try clear c1
        try clear p2
        try clear c4
        try clear c4b0
        try clear c4b1
        try clear c5
        try clear c5b0
        try clear c5b1
        obtain ⟨x6_1, x7_1, HA, HK1, HO_5, HO_6, HO_7, HB⟩ := hrel
        cases gk with
        | zero => exact absurd HA.out (by simp [crosstreeref15_Order.l0])
        | succ k1 =>
          have H := HA.out
          clear HA
          simp only [crosstreeref15_Order.l0] at H
          have H' := Aside0.mk H
          clear H
          go_wp2
          go_loopg [8, 9] k1 (fun kq v8 v9 w' => ∃ (x8_2 : Int) (x9_2 : Int), v8 = .int .i64 x8_2 ∧ v9 = .int .i64 x9_2 ∧ Aside0 (crosstreeref15_Order.l1 kq (t277.length : Int) l1 t277 x6_1 x7_1 x8_2 x9_2 = some r) ∧ Aside0 (kq ≤ k1) ∧ Aside0 (Kd.R (Kd.int .i64) 3 w' w.heap.size (fun k_ => some k_ ≠ (u7 : Value).ownBlock) (.slice Ao7 t277.length co7) t277) ∧ Aside0 (Kd.R Kd.bool 4 w' w.heap.size (fun _ => True) v281 x6_1) ∧ Aside0 (Kd.R (Kd.int .i64) 3 w' w.heap.size (fun k_ => some k_ ≠ ((.slice Ao7 t277.length co7) : Value).ownBlock) u7 x7_1) ∧ Aside0 (Below w.heap.size w w'))
          case atStart => exact ⟨((-1)), (0), (by first | rfl | (simp; done) | (simp [*]; done)), (by first | rfl | (simp; done) | (simp [*]; done)), H', ⟨Nat.le_refl _⟩, ⟨by (with_reducible repeat (first | apply Kd.R_alloc | apply Kd.R_drewN | apply Kd.R_drew)); exact HO_5.out⟩, ⟨by (with_reducible repeat (first | apply Kd.R_alloc | apply Kd.R_drewN | apply Kd.R_drew)); exact HO_6.out⟩, ⟨by (with_reducible repeat (first | apply Kd.R_alloc | apply Kd.R_drewN | apply Kd.R_drew)); exact HO_7.out⟩, ⟨by repeat (first | (with_reducible first | exact HB.out | apply below_alloc | apply pw_below_drewN | apply below_drew1) | exact HB.out)⟩⟩
          case round =>
            clear H'
            try clear c1
            try clear p2
            try clear c4
            try clear c4b0
            try clear c4b1
            try clear c5
            try clear c5b0
            try clear c5b1
            try clear p2
            obtain ⟨x8_2, x9_2, rfl, rfl, HA, HK2, HO_5, HO_6, HO_7, HB⟩ := hrel
            cases gk with
            | zero => exact absurd HA.out (by simp [crosstreeref15_Order.l1])
            | succ k2 =>
              have H := HA.out
              clear HA
              simp only [crosstreeref15_Order.l1] at H
              have HC10 := Aside0.mk H
              clear H
              go_upto_region 7 with (fail)
              go_cut [27] (fun v27 wc => ∃ (kq : Nat) (x27_9 : Bool), v27 = .bool x27_9 ∧ Aside0 (crosstreeref15_Order.j2 kq (t277.length : Int) l1 t277 x6_1 x7_1 x8_2 x9_2 x27_9 = some r) ∧ Aside0 (kq ≤ k2) ∧ Aside0 (Kd.R (Kd.int .i64) 3 wc w.heap.size (fun k_ => some k_ ≠ (u7 : Value).ownBlock) (.slice Ao7 t277.length co7) t277) ∧ Aside0 (Kd.R Kd.bool 4 wc w.heap.size (fun _ => True) v281 x6_1) ∧ Aside0 (Kd.R (Kd.int .i64) 3 wc w.heap.size (fun k_ => some k_ ≠ ((.slice Ao7 t277.length co7) : Value).ownBlock) u7 x7_1) ∧ Aside0 (Below w.heap.size w wc))
              case first =>
                have H := HC10.out
                clear HC10
                by_cases c11 : x9_2 < (t277.length : Int)
                · rw [if_pos c11] at H
                  have c11b0 : decide (x9_2 < (t277.length : Int)) = true := decide_eq_true c11
                  clear c11
                  (first | rw [c11b0] | (simp only [i64_w, i32_w]; rw [c11b0]) | skip)
                  have H' := Aside0.mk H
                  clear H
                  go_wp2
                  go_meet
                  case rel => exact ⟨_, (decide (x8_2 < 0)), (by first | rfl | (simp; done) | (simp [*]; done)), H', ⟨by have := HK1.out; have := HK2.out; first | omega | exact Nat.le_refl _⟩, ⟨by (with_reducible repeat (first | apply Kd.R_alloc | apply Kd.R_drewN | apply Kd.R_drew)); exact HO_5.out⟩, ⟨by (with_reducible repeat (first | apply Kd.R_alloc | apply Kd.R_drewN | apply Kd.R_drew)); exact HO_6.out⟩, ⟨by (with_reducible repeat (first | apply Kd.R_alloc | apply Kd.R_drewN | apply Kd.R_drew)); exact HO_7.out⟩, ⟨by repeat (first | (with_reducible first | exact HB.out | apply below_alloc | apply pw_below_drewN | apply below_drew1) | exact HB.out)⟩⟩
                · rw [if_neg c11] at H
                  have c11b0 : decide (x9_2 < (t277.length : Int)) = false := decide_eq_false c11
                  clear c11
                  (first | rw [c11b0] | (simp only [i64_w, i32_w]; rw [c11b0]) | skip)
                  have H' := Aside0.mk H
                  clear H
                  go_wp2
                  go_meet
                  case rel => exact ⟨_, (false), (by first | rfl | (simp; done) | (simp [*]; done)), H', ⟨by have := HK1.out; have := HK2.out; first | omega | exact Nat.le_refl _⟩, ⟨by (with_reducible repeat (first | apply Kd.R_alloc | apply Kd.R_drewN | apply Kd.R_drew)); exact HO_5.out⟩, ⟨by (with_reducible repeat (first | apply Kd.R_alloc | apply Kd.R_drewN | apply Kd.R_drew)); exact HO_6.out⟩, ⟨by (with_reducible repeat (first | apply Kd.R_alloc | apply Kd.R_drewN | apply Kd.R_drew)); exact HO_7.out⟩, ⟨by repeat (first | (with_reducible first | exact HB.out | apply below_alloc | apply pw_below_drewN | apply below_drew1) | exact HB.out)⟩⟩
              case rest =>
                clear HC10
                try clear c1
                try clear p2
                try clear c4
                try clear c4b0
                try clear c4b1
                try clear c5
                try clear c5b0
                try clear c5b1
                try clear c11
                try clear c11b0
                try clear p2
                obtain ⟨kq, x27_9, rfl, HA, HJ9, HO_5, HO_6, HO_7, HB⟩ := hcut
                cases kq with
                | zero => exact absurd HA.out (by simp [crosstreeref15_Order.j2])
                | succ kj9 =>
                  have H := HA.out
                  clear HA
                  simp only [crosstreeref15_Order.j2] at H
                  by_cases c12 : x27_9 = true
                  · subst c12
                    have H1 : (if 0 ≤ x9_2 then (if x9_2 < (t277.length : Int) then (if (rd t277 x9_2) = x9_2 then (if x9_2 < (x6_1.length : Int) then (crosstreeref15_Order.j3 kj9 (t277.length : Int) l1 t277 x6_1 x7_1 x8_2 x9_2 (rdOf false x6_1 x9_2)) else (none)) else (crosstreeref15_Order.j3 kj9 (t277.length : Int) l1 t277 x6_1 x7_1 x8_2 x9_2 true)) else (none)) else (none)) = some r := by rw [if_pos rfl] at H; exact H
                    clear H
                    have H := H1
                    clear H1
                    have HC13 := Aside0.mk H
                    clear H
                    go_upto_region 9 with (fail)
                    go_cut [41] (fun v41 wc => ∃ (kq : Nat) (x41_12 : Bool), v41 = .bool x41_12 ∧ Aside0 (crosstreeref15_Order.j3 kq (t277.length : Int) l1 t277 x6_1 x7_1 x8_2 x9_2 x41_12 = some r) ∧ Aside0 (kq ≤ kj9) ∧ Aside0 (Kd.R (Kd.int .i64) 3 wc w.heap.size (fun k_ => some k_ ≠ (u7 : Value).ownBlock) (.slice Ao7 t277.length co7) t277) ∧ Aside0 (Kd.R Kd.bool 4 wc w.heap.size (fun _ => True) v281 x6_1) ∧ Aside0 (Kd.R (Kd.int .i64) 3 wc w.heap.size (fun k_ => some k_ ≠ ((.slice Ao7 t277.length co7) : Value).ownBlock) u7 x7_1) ∧ Aside0 (Below w.heap.size w wc))
                    case first =>
                      have H := HC13.out
                      clear HC13
                      by_cases c14 : 0 ≤ x9_2
                      · rw [if_pos c14] at H
                        have c14b0 : decide (0 ≤ x9_2) = true := decide_eq_true c14
                        clear c14
                        (first | rw [c14b0] | (simp only [i64_w, i32_w]; rw [c14b0]) | skip)
                        by_cases c15 : x9_2 < (t277.length : Int)
                        · rw [if_pos c15] at H
                          have c15b0 : decide (x9_2 < (t277.length : Int)) = true := decide_eq_true c15
                          clear c15
                          by_cases c16 : (rd t277 x9_2) = x9_2
                          · rw [if_pos c16] at H
                            have c16b0 : ((rd t277 x9_2) == x9_2) = true := beq_iff_eq.mpr c16
                            have c16b1 : ((rd t277 x9_2) != x9_2) = false := bne_eq_false_iff_eq.mpr c16
                            clear c16
                            by_cases c17 : x9_2 < (x6_1.length : Int)
                            · rw [if_pos c17] at H
                              have c17b0 : decide (x9_2 < (x6_1.length : Int)) = true := decide_eq_true c17
                              clear c17
                              have H' := Aside0.mk H
                              clear H
                              have p287 : 0 ≤ (x9_2 : Int) := of_decide_eq_true (by first | (with_reducible assumption) | assumption)
                              have q287 : x9_2 < (t277.length : Int) := of_decide_eq_true (by first | (with_reducible assumption) | assumption)
                              obtain ⟨ad287, e287, hx287_0⟩ := Kd.at_int (Kd.R_reads' HO_5.out).2.2 x9_2 p287 q287
                              cases e287
                              replace p287 := eq_true p287
                              replace q287 := eq_true q287
                              obtain ⟨Ao18, co18, eo18⟩ := Kd.R_slice HO_6.out
                              subst eo18
                              have p288 : 0 ≤ (x9_2 : Int) := of_decide_eq_true (by first | (with_reducible assumption) | assumption)
                              have q288 : x9_2 < (x6_1.length : Int) := of_decide_eq_true (by first | (with_reducible assumption) | assumption)
                              obtain ⟨ad288, e288, hx288_0⟩ := Kd.at_bool (Kd.R_reads' HO_6.out).2.2 x9_2 p288 q288
                              cases e288
                              replace p288 := eq_true p288
                              replace q288 := eq_true q288
                              go_wp2
                              go_meet
                              case rel => exact ⟨_, (rdOf false x6_1 x9_2), (by first | rfl | (simp; done) | (simp [*]; done)), H', ⟨by have := HK1.out; have := HK2.out; have := HJ9.out; first | omega | exact Nat.le_refl _⟩, ⟨by (with_reducible repeat (first | apply Kd.R_alloc | apply Kd.R_drewN | apply Kd.R_drew)); exact HO_5.out⟩, ⟨by (with_reducible repeat (first | apply Kd.R_alloc | apply Kd.R_drewN | apply Kd.R_drew)); exact HO_6.out⟩, ⟨by (with_reducible repeat (first | apply Kd.R_alloc | apply Kd.R_drewN | apply Kd.R_drew)); exact HO_7.out⟩, ⟨by repeat (first | (with_reducible first | exact HB.out | apply below_alloc | apply pw_below_drewN | apply below_drew1) | exact HB.out)⟩⟩
                            · rw [if_neg c17] at H
                              exact absurd H (by simp)
                          · rw [if_neg c16] at H
                            have c16b0 : ((rd t277 x9_2) == x9_2) = false := beq_eq_false_iff_ne.mpr c16
                            have c16b1 : ((rd t277 x9_2) != x9_2) = true := bne_iff_ne.mpr c16
                            have H' := Aside0.mk H
                            clear H
                            have p287 : 0 ≤ (x9_2 : Int) := of_decide_eq_true (by first | (with_reducible assumption) | assumption)
                            have q287 : x9_2 < (t277.length : Int) := of_decide_eq_true (by first | (with_reducible assumption) | assumption)
                            obtain ⟨ad287, e287, hx287_0⟩ := Kd.at_int (Kd.R_reads' HO_5.out).2.2 x9_2 p287 q287
                            cases e287
                            replace p287 := eq_true p287
                            replace q287 := eq_true q287
                            go_wp2
                            go_meet
                            case rel => exact ⟨_, (true), (by first | rfl | (simp; done) | (simp [*]; done)), H', ⟨by have := HK1.out; have := HK2.out; have := HJ9.out; first | omega | exact Nat.le_refl _⟩, ⟨by (with_reducible repeat (first | apply Kd.R_alloc | apply Kd.R_drewN | apply Kd.R_drew)); exact HO_5.out⟩, ⟨by (with_reducible repeat (first | apply Kd.R_alloc | apply Kd.R_drewN | apply Kd.R_drew)); exact HO_6.out⟩, ⟨by (with_reducible repeat (first | apply Kd.R_alloc | apply Kd.R_drewN | apply Kd.R_drew)); exact HO_7.out⟩, ⟨by repeat (first | (with_reducible first | exact HB.out | apply below_alloc | apply pw_below_drewN | apply below_drew1) | exact HB.out)⟩⟩
                        · rw [if_neg c15] at H
                          exact absurd H (by simp)
                      · rw [if_neg c14] at H
                        exact absurd H (by simp)
                    case rest =>
                      clear HC13
                      try clear c1
                      try clear p2
                      try clear q2
                      try clear hx2
                      try clear c4
                      try clear c4b0
                      try clear c4b1
                      try clear c5
                      try clear c5b0
                      try clear c5b1
                      try clear c11
                      try clear c11b0
                      try clear c12
                      try clear c13
                      try clear c14
                      try clear c14b0
                      try clear c15
                      try clear c15b0
                      try clear c16
                      try clear c16b0
                      try clear c16b1
                      try clear c17
                      try clear c17b0
                      try clear hx287_0
                      try clear hx288_0
                      try clear p2
                      try clear p287
                      try clear p288
                      try clear q287
                      try clear q288
                      obtain ⟨kq, x41_12, rfl, HA, HJ12, HO_5, HO_6, HO_7, HB⟩ := hcut
                      cases kq with
                      | zero => exact absurd HA.out (by simp [crosstreeref15_Order.j3])
                      | succ kj12 =>
                        have H := HA.out
                        clear HA
                        simp only [crosstreeref15_Order.j3] at H
                        by_cases c19 : x41_12 = true
                        · subst c19
                          have H1 : (crosstreeref15_Order.l1 kj12 (t277.length : Int) l1 t277 x6_1 x7_1 x8_2 (wrap64 (x9_2 + 1))) = some r := by rw [if_pos rfl] at H; exact H
                          clear H
                          have H := H1
                          clear H1
                          have H' := Aside0.mk H
                          clear H
                          go_wp2
                          go_roundg kj12
                          case measure => have := HK1.out; have := HK2.out; have := HJ9.out; have := HJ12.out; omega
                          case rel => exact ⟨(x8_2), (wrap64 (x9_2 + 1)), (by first | rfl | (simp; done) | (simp [*]; done)), (by first | rfl | (simp; done) | (simp [*]; done)), H', ⟨by have := HK1.out; have := HK2.out; have := HJ9.out; have := HJ12.out; omega⟩, ⟨by (with_reducible repeat (first | apply Kd.R_alloc | apply Kd.R_drewN | apply Kd.R_drew)); exact HO_5.out⟩, ⟨by (with_reducible repeat (first | apply Kd.R_alloc | apply Kd.R_drewN | apply Kd.R_drew)); exact HO_6.out⟩, ⟨by (with_reducible repeat (first | apply Kd.R_alloc | apply Kd.R_drewN | apply Kd.R_drew)); exact HO_7.out⟩, ⟨by repeat (first | (with_reducible first | exact HB.out | apply below_alloc | apply pw_below_drewN | apply below_drew1) | exact HB.out)⟩⟩
                        · replace c19 := Bool.eq_false_iff.mpr c19
                          subst c19
                          have H1 : (crosstreeref15_Order.l2 kj12 (t277.length : Int) l1 t277 x6_1 x7_1 x8_2 x9_2 true 0) = some r := by rw [if_neg (show ¬ (false = true) by decide)] at H; exact H
                          clear H
                          have H := H1
                          clear H1
                          have H' := Aside0.mk H
                          clear H
                          go_wp2
                          go_loopg [10, 11] kj12 (fun kq v10 v11 w' => ∃ (x10_5 : Bool) (x11_5 : Int), v10 = .bool x10_5 ∧ v11 = .int .i64 x11_5 ∧ Aside0 (crosstreeref15_Order.l2 kq (t277.length : Int) l1 t277 x6_1 x7_1 x8_2 x9_2 x10_5 x11_5 = some r) ∧ Aside0 (kq ≤ kj12) ∧ Aside0 (Kd.R (Kd.int .i64) 3 w' w.heap.size (fun k_ => some k_ ≠ (u7 : Value).ownBlock) (.slice Ao7 t277.length co7) t277) ∧ Aside0 (Kd.R Kd.bool 4 w' w.heap.size (fun _ => True) v281 x6_1) ∧ Aside0 (Kd.R (Kd.int .i64) 3 w' w.heap.size (fun k_ => some k_ ≠ ((.slice Ao7 t277.length co7) : Value).ownBlock) u7 x7_1) ∧ Aside0 (Below w.heap.size w w'))
                          case atStart => exact ⟨(true), (0), (by first | rfl | (simp; done) | (simp [*]; done)), (by first | rfl | (simp; done) | (simp [*]; done)), H', ⟨Nat.le_refl _⟩, ⟨by (with_reducible repeat (first | apply Kd.R_alloc | apply Kd.R_drewN | apply Kd.R_drew)); exact HO_5.out⟩, ⟨by (with_reducible repeat (first | apply Kd.R_alloc | apply Kd.R_drewN | apply Kd.R_drew)); exact HO_6.out⟩, ⟨by (with_reducible repeat (first | apply Kd.R_alloc | apply Kd.R_drewN | apply Kd.R_drew)); exact HO_7.out⟩, ⟨by repeat (first | (with_reducible first | exact HB.out | apply below_alloc | apply pw_below_drewN | apply below_drew1) | exact HB.out)⟩⟩
                          case round =>
                            clear H'
                            try clear c1
                            try clear p2
                            try clear q2
                            try clear hx2
                            try clear c4
                            try clear c4b0
                            try clear c4b1
                            try clear c5
                            try clear c5b0
                            try clear c5b1
                            try clear p6
                            try clear c11
                            try clear c11b0
                            try clear c12
                            try clear c13
                            try clear c14
                            try clear c14b0
                            try clear c15
                            try clear c15b0
                            try clear c16
                            try clear c16b0
                            try clear c16b1
                            try clear c17
                            try clear c17b0
                            try clear c19
                            try clear hx287_0
                            try clear hx288_0
                            try clear p2
                            try clear p287
                            try clear p288
                            try clear q2
                            try clear q287
                            try clear q288
                            obtain ⟨x10_5, x11_5, rfl, rfl, HA, HK5, HO_5, HO_6, HO_7, HB⟩ := hrel
                            cases gk with
                            | zero => exact absurd HA.out (by simp [crosstreeref15_Order.l2])
                            | succ k5 =>
                              have H := HA.out
                              clear HA
                              simp only [crosstreeref15_Order.l2] at H
                              by_cases c20 : x11_5 < (l1.length : Int)
                              · rw [if_pos c20] at H
                                have c20b0 : decide (x11_5 < (l1.length : Int)) = true := decide_eq_true c20
                                clear c20
                                by_cases c21 : 0 ≤ x11_5
                                · rw [if_pos c21] at H
                                  have c21b0 : decide (0 ≤ x11_5) = true := decide_eq_true c21
                                  clear c21
                                  by_cases c22 : ((rd_T33 l1 x11_5).f0) ≥ 0
                                  · rw [if_pos c22] at H
                                    have c22b0 : decide (0 ≤ ((rd_T33 l1 x11_5).f0)) = true := decide_eq_true c22
                                    clear c22
                                    by_cases c23 : ((rd_T33 l1 x11_5).f0) < (t277.length : Int)
                                    · rw [if_pos c23] at H
                                      have c23b0 : decide (((rd_T33 l1 x11_5).f0) < (t277.length : Int)) = true := decide_eq_true c23
                                      clear c23
                                      by_cases c24 : ((rd_T33 l1 x11_5).f2) ≥ 0
                                      · rw [if_pos c24] at H
                                        have c24b0 : decide (0 ≤ ((rd_T33 l1 x11_5).f2)) = true := decide_eq_true c24
                                        clear c24
                                        by_cases c25 : ((rd_T33 l1 x11_5).f2) < (t277.length : Int)
                                        · rw [if_pos c25] at H
                                          have c25b0 : decide (((rd_T33 l1 x11_5).f2) < (t277.length : Int)) = true := decide_eq_true c25
                                          clear c25
                                          by_cases c26 : 0 ≤ ((rd_T33 l1 x11_5).f2)
                                          · rw [if_pos c26] at H
                                            have c26b0 : decide (0 ≤ ((rd_T33 l1 x11_5).f2)) = true := decide_eq_true c26
                                            clear c26
                                            by_cases c27 : ((rd_T33 l1 x11_5).f2) < (t277.length : Int)
                                            · rw [if_pos c27] at H
                                              have c27b0 : decide (((rd_T33 l1 x11_5).f2) < (t277.length : Int)) = true := decide_eq_true c27
                                              clear c27
                                              by_cases c28 : (rd t277 ((rd_T33 l1 x11_5).f2)) = x9_2
                                              · rw [if_pos c28] at H
                                                have c28b0 : ((rd t277 ((rd_T33 l1 x11_5).f2)) == x9_2) = true := beq_iff_eq.mpr c28
                                                have c28b1 : ((rd t277 ((rd_T33 l1 x11_5).f2)) != x9_2) = false := bne_eq_false_iff_eq.mpr c28
                                                clear c28
                                                by_cases c29 : 0 ≤ ((rd_T33 l1 x11_5).f0)
                                                · rw [if_pos c29] at H
                                                  have c29b0 : decide (0 ≤ ((rd_T33 l1 x11_5).f0)) = true := decide_eq_true c29
                                                  clear c29
                                                  by_cases c30 : ((rd_T33 l1 x11_5).f0) < (t277.length : Int)
                                                  · rw [if_pos c30] at H
                                                    have c30b0 : decide (((rd_T33 l1 x11_5).f0) < (t277.length : Int)) = true := decide_eq_true c30
                                                    clear c30
                                                    by_cases c31 : (rd t277 ((rd_T33 l1 x11_5).f0)) = x9_2
                                                    · rw [if_pos c31] at H
                                                      have c31b0 : ((rd t277 ((rd_T33 l1 x11_5).f0)) == x9_2) = true := beq_iff_eq.mpr c31
                                                      have c31b1 : ((rd t277 ((rd_T33 l1 x11_5).f0)) != x9_2) = false := bne_eq_false_iff_eq.mpr c31
                                                      clear c31
                                                      have H' := Aside0.mk H
                                                      clear H
                                                      have p289 : 0 ≤ (x11_5 : Int) := of_decide_eq_true (by first | (with_reducible assumption) | assumption)
                                                      have q289 : x11_5 < (l1.length : Int) := of_decide_eq_true (by first | (with_reducible assumption) | assumption)
                                                      obtain ⟨ad289, e289, hx289_0, hx289_1, hx289_2⟩ := at_T33 HR1.out x11_5 p289 q289
                                                      cases e289
                                                      replace hx289_0 := (HB.out.cell (World.block_lt_of_cell? w _ hx289_0)).trans hx289_0
                                                      replace hx289_1 := (HB.out.cell (World.block_lt_of_cell? w _ hx289_1)).trans hx289_1
                                                      replace hx289_2 := (HB.out.cell (World.block_lt_of_cell? w _ hx289_2)).trans hx289_2
                                                      replace p289 := eq_true p289
                                                      replace q289 := eq_true q289
                                                      have p290 : 0 ≤ (x11_5 : Int) := of_decide_eq_true (by first | (with_reducible assumption) | assumption)
                                                      have q290 : x11_5 < (l1.length : Int) := of_decide_eq_true (by first | (with_reducible assumption) | assumption)
                                                      obtain ⟨ad290, e290, hx290_0, hx290_1, hx290_2⟩ := at_T33 HR1.out x11_5 p290 q290
                                                      obtain rfl : ad289 = ad290 := (by injection e290)
                                                      replace hx290_0 := (HB.out.cell (World.block_lt_of_cell? w _ hx290_0)).trans hx290_0
                                                      replace hx290_1 := (HB.out.cell (World.block_lt_of_cell? w _ hx290_1)).trans hx290_1
                                                      replace hx290_2 := (HB.out.cell (World.block_lt_of_cell? w _ hx290_2)).trans hx290_2
                                                      replace p290 := eq_true p290
                                                      replace q290 := eq_true q290
                                                      have p291 : 0 ≤ (((rd_T33 l1 x11_5).f2) : Int) := of_decide_eq_true (by first | (with_reducible assumption) | assumption)
                                                      have q291 : ((rd_T33 l1 x11_5).f2) < (t277.length : Int) := of_decide_eq_true (by first | (with_reducible assumption) | assumption)
                                                      obtain ⟨ad291, e291, hx291_0⟩ := Kd.at_int (Kd.R_reads' HO_5.out).2.2 ((rd_T33 l1 x11_5).f2) p291 q291
                                                      cases e291
                                                      replace p291 := eq_true p291
                                                      replace q291 := eq_true q291
                                                      have p292 : 0 ≤ (((rd_T33 l1 x11_5).f0) : Int) := of_decide_eq_true (by first | (with_reducible assumption) | assumption)
                                                      have q292 : ((rd_T33 l1 x11_5).f0) < (t277.length : Int) := of_decide_eq_true (by first | (with_reducible assumption) | assumption)
                                                      obtain ⟨ad292, e292, hx292_0⟩ := Kd.at_int (Kd.R_reads' HO_5.out).2.2 ((rd_T33 l1 x11_5).f0) p292 q292
                                                      obtain rfl : ad291 = ad292 := (by injection e292)
                                                      replace p292 := eq_true p292
                                                      replace q292 := eq_true q292
                                                      go_wp2
                                                      go_roundg k5
                                                      case measure => have := HK1.out; have := HK2.out; have := HJ9.out; have := HJ12.out; have := HK5.out; omega
                                                      case rel => exact ⟨(x10_5), (wrap64 (x11_5 + 1)), (by first | rfl | (simp; done) | (simp [*]; done)), (by first | rfl | (simp; done) | (simp [*]; done)), H', ⟨by have := HK1.out; have := HK2.out; have := HJ9.out; have := HJ12.out; have := HK5.out; omega⟩, ⟨by (with_reducible repeat (first | apply Kd.R_alloc | apply Kd.R_drewN | apply Kd.R_drew)); exact HO_5.out⟩, ⟨by (with_reducible repeat (first | apply Kd.R_alloc | apply Kd.R_drewN | apply Kd.R_drew)); exact HO_6.out⟩, ⟨by (with_reducible repeat (first | apply Kd.R_alloc | apply Kd.R_drewN | apply Kd.R_drew)); exact HO_7.out⟩, ⟨by repeat (first | (with_reducible first | exact HB.out | apply below_alloc | apply pw_below_drewN | apply below_drew1) | exact HB.out)⟩⟩
                                                    · rw [if_neg c31] at H
                                                      have c31b0 : ((rd t277 ((rd_T33 l1 x11_5).f0)) == x9_2) = false := beq_eq_false_iff_ne.mpr c31
                                                      have c31b1 : ((rd t277 ((rd_T33 l1 x11_5).f0)) != x9_2) = true := bne_iff_ne.mpr c31
                                                      by_cases c32 : 0 ≤ (rd t277 ((rd_T33 l1 x11_5).f0))
                                                      · rw [if_pos c32] at H
                                                        have c32b0 : decide (0 ≤ (rd t277 ((rd_T33 l1 x11_5).f0))) = true := decide_eq_true c32
                                                        clear c32
                                                        by_cases c33 : (rd t277 ((rd_T33 l1 x11_5).f0)) < (x6_1.length : Int)
                                                        · rw [if_pos c33] at H
                                                          have c33b0 : decide ((rd t277 ((rd_T33 l1 x11_5).f0)) < (x6_1.length : Int)) = true := decide_eq_true c33
                                                          clear c33
                                                          obtain ⟨bq34, hbq34⟩ : ∃ b_ : Bool, b_ = (rdOf false x6_1 (rd t277 ((rd_T33 l1 x11_5).f0))) := ⟨_, rfl⟩
                                                          replace H : (if (bq34 = true) then (crosstreeref15_Order.l2 k5 (t277.length : Int) l1 t277 x6_1 x7_1 x8_2 x9_2 x10_5 (wrap64 (x11_5 + 1))) else (crosstreeref15_Order.l2 k5 (t277.length : Int) l1 t277 x6_1 x7_1 x8_2 x9_2 false (wrap64 (x11_5 + 1)))) = some r := by rw [← hbq34] at H; exact H
                                                          have Nbq34 := Aside0.mk hbq34
                                                          clear hbq34
                                                          by_cases c35 : (bq34 = true)
                                                          · subst c35
                                                            have H1 : (crosstreeref15_Order.l2 k5 (t277.length : Int) l1 t277 x6_1 x7_1 x8_2 x9_2 x10_5 (wrap64 (x11_5 + 1))) = some r := by rw [if_pos rfl] at H; exact H
                                                            clear H
                                                            have H := H1
                                                            clear H1
                                                            have H' := Aside0.mk H
                                                            clear H
                                                            have p289 : 0 ≤ (x11_5 : Int) := of_decide_eq_true (by first | (with_reducible assumption) | assumption)
                                                            have q289 : x11_5 < (l1.length : Int) := of_decide_eq_true (by first | (with_reducible assumption) | assumption)
                                                            obtain ⟨ad289, e289, hx289_0, hx289_1, hx289_2⟩ := at_T33 HR1.out x11_5 p289 q289
                                                            cases e289
                                                            replace hx289_0 := (HB.out.cell (World.block_lt_of_cell? w _ hx289_0)).trans hx289_0
                                                            replace hx289_1 := (HB.out.cell (World.block_lt_of_cell? w _ hx289_1)).trans hx289_1
                                                            replace hx289_2 := (HB.out.cell (World.block_lt_of_cell? w _ hx289_2)).trans hx289_2
                                                            replace p289 := eq_true p289
                                                            replace q289 := eq_true q289
                                                            have p290 : 0 ≤ (x11_5 : Int) := of_decide_eq_true (by first | (with_reducible assumption) | assumption)
                                                            have q290 : x11_5 < (l1.length : Int) := of_decide_eq_true (by first | (with_reducible assumption) | assumption)
                                                            obtain ⟨ad290, e290, hx290_0, hx290_1, hx290_2⟩ := at_T33 HR1.out x11_5 p290 q290
                                                            obtain rfl : ad289 = ad290 := (by injection e290)
                                                            replace hx290_0 := (HB.out.cell (World.block_lt_of_cell? w _ hx290_0)).trans hx290_0
                                                            replace hx290_1 := (HB.out.cell (World.block_lt_of_cell? w _ hx290_1)).trans hx290_1
                                                            replace hx290_2 := (HB.out.cell (World.block_lt_of_cell? w _ hx290_2)).trans hx290_2
                                                            replace p290 := eq_true p290
                                                            replace q290 := eq_true q290
                                                            have p291 : 0 ≤ (((rd_T33 l1 x11_5).f2) : Int) := of_decide_eq_true (by first | (with_reducible assumption) | assumption)
                                                            have q291 : ((rd_T33 l1 x11_5).f2) < (t277.length : Int) := of_decide_eq_true (by first | (with_reducible assumption) | assumption)
                                                            obtain ⟨ad291, e291, hx291_0⟩ := Kd.at_int (Kd.R_reads' HO_5.out).2.2 ((rd_T33 l1 x11_5).f2) p291 q291
                                                            cases e291
                                                            replace p291 := eq_true p291
                                                            replace q291 := eq_true q291
                                                            have p292 : 0 ≤ (((rd_T33 l1 x11_5).f0) : Int) := of_decide_eq_true (by first | (with_reducible assumption) | assumption)
                                                            have q292 : ((rd_T33 l1 x11_5).f0) < (t277.length : Int) := of_decide_eq_true (by first | (with_reducible assumption) | assumption)
                                                            obtain ⟨ad292, e292, hx292_0⟩ := Kd.at_int (Kd.R_reads' HO_5.out).2.2 ((rd_T33 l1 x11_5).f0) p292 q292
                                                            obtain rfl : ad291 = ad292 := (by injection e292)
                                                            replace p292 := eq_true p292
                                                            replace q292 := eq_true q292
                                                            have p293 : 0 ≤ (((rd_T33 l1 x11_5).f0) : Int) := of_decide_eq_true (by first | (with_reducible assumption) | assumption)
                                                            have q293 : ((rd_T33 l1 x11_5).f0) < (t277.length : Int) := of_decide_eq_true (by first | (with_reducible assumption) | assumption)
                                                            obtain ⟨ad293, e293, hx293_0⟩ := Kd.at_int (Kd.R_reads' HO_5.out).2.2 ((rd_T33 l1 x11_5).f0) p293 q293
                                                            obtain rfl : ad291 = ad293 := (by injection e293)
                                                            replace p293 := eq_true p293
                                                            replace q293 := eq_true q293
                                                            obtain ⟨Ao36, co36, eo36⟩ := Kd.R_slice HO_6.out
                                                            subst eo36
                                                            have p294 : 0 ≤ ((rd t277 ((rd_T33 l1 x11_5).f0)) : Int) := of_decide_eq_true (by first | (with_reducible assumption) | assumption)
                                                            have q294 : (rd t277 ((rd_T33 l1 x11_5).f0)) < (x6_1.length : Int) := of_decide_eq_true (by first | (with_reducible assumption) | assumption)
                                                            obtain ⟨ad294, e294, hx294_0⟩ := Kd.at_bool (Kd.R_reads' HO_6.out).2.2 (rd t277 ((rd_T33 l1 x11_5).f0)) p294 q294
                                                            (try rw [← Nbq34.out] at hx294_0)
                                                            cases e294
                                                            replace p294 := eq_true p294
                                                            replace q294 := eq_true q294
                                                            go_wp2
                                                            go_roundg k5
                                                            case measure => have := HK1.out; have := HK2.out; have := HJ9.out; have := HJ12.out; have := HK5.out; omega
                                                            case rel => exact ⟨(x10_5), (wrap64 (x11_5 + 1)), (by first | rfl | (simp; done) | (simp [*]; done)), (by first | rfl | (simp; done) | (simp [*]; done)), H', ⟨by have := HK1.out; have := HK2.out; have := HJ9.out; have := HJ12.out; have := HK5.out; omega⟩, ⟨by (with_reducible repeat (first | apply Kd.R_alloc | apply Kd.R_drewN | apply Kd.R_drew)); exact HO_5.out⟩, ⟨by (with_reducible repeat (first | apply Kd.R_alloc | apply Kd.R_drewN | apply Kd.R_drew)); exact HO_6.out⟩, ⟨by (with_reducible repeat (first | apply Kd.R_alloc | apply Kd.R_drewN | apply Kd.R_drew)); exact HO_7.out⟩, ⟨by repeat (first | (with_reducible first | exact HB.out | apply below_alloc | apply pw_below_drewN | apply below_drew1) | exact HB.out)⟩⟩
                                                          · replace c35 := Bool.eq_false_iff.mpr c35
                                                            subst c35
                                                            have H1 : (crosstreeref15_Order.l2 k5 (t277.length : Int) l1 t277 x6_1 x7_1 x8_2 x9_2 false (wrap64 (x11_5 + 1))) = some r := by rw [if_neg (show ¬ (false = true) by decide)] at H; exact H
                                                            clear H
                                                            have H := H1
                                                            clear H1
                                                            have H' := Aside0.mk H
                                                            clear H
                                                            have p289 : 0 ≤ (x11_5 : Int) := of_decide_eq_true (by first | (with_reducible assumption) | assumption)
                                                            have q289 : x11_5 < (l1.length : Int) := of_decide_eq_true (by first | (with_reducible assumption) | assumption)
                                                            obtain ⟨ad289, e289, hx289_0, hx289_1, hx289_2⟩ := at_T33 HR1.out x11_5 p289 q289
                                                            cases e289
                                                            replace hx289_0 := (HB.out.cell (World.block_lt_of_cell? w _ hx289_0)).trans hx289_0
                                                            replace hx289_1 := (HB.out.cell (World.block_lt_of_cell? w _ hx289_1)).trans hx289_1
                                                            replace hx289_2 := (HB.out.cell (World.block_lt_of_cell? w _ hx289_2)).trans hx289_2
                                                            replace p289 := eq_true p289
                                                            replace q289 := eq_true q289
                                                            have p290 : 0 ≤ (x11_5 : Int) := of_decide_eq_true (by first | (with_reducible assumption) | assumption)
                                                            have q290 : x11_5 < (l1.length : Int) := of_decide_eq_true (by first | (with_reducible assumption) | assumption)
                                                            obtain ⟨ad290, e290, hx290_0, hx290_1, hx290_2⟩ := at_T33 HR1.out x11_5 p290 q290
                                                            obtain rfl : ad289 = ad290 := (by injection e290)
                                                            replace hx290_0 := (HB.out.cell (World.block_lt_of_cell? w _ hx290_0)).trans hx290_0
                                                            replace hx290_1 := (HB.out.cell (World.block_lt_of_cell? w _ hx290_1)).trans hx290_1
                                                            replace hx290_2 := (HB.out.cell (World.block_lt_of_cell? w _ hx290_2)).trans hx290_2
                                                            replace p290 := eq_true p290
                                                            replace q290 := eq_true q290
                                                            have p291 : 0 ≤ (((rd_T33 l1 x11_5).f2) : Int) := of_decide_eq_true (by first | (with_reducible assumption) | assumption)
                                                            have q291 : ((rd_T33 l1 x11_5).f2) < (t277.length : Int) := of_decide_eq_true (by first | (with_reducible assumption) | assumption)
                                                            obtain ⟨ad291, e291, hx291_0⟩ := Kd.at_int (Kd.R_reads' HO_5.out).2.2 ((rd_T33 l1 x11_5).f2) p291 q291
                                                            cases e291
                                                            replace p291 := eq_true p291
                                                            replace q291 := eq_true q291
                                                            have p292 : 0 ≤ (((rd_T33 l1 x11_5).f0) : Int) := of_decide_eq_true (by first | (with_reducible assumption) | assumption)
                                                            have q292 : ((rd_T33 l1 x11_5).f0) < (t277.length : Int) := of_decide_eq_true (by first | (with_reducible assumption) | assumption)
                                                            obtain ⟨ad292, e292, hx292_0⟩ := Kd.at_int (Kd.R_reads' HO_5.out).2.2 ((rd_T33 l1 x11_5).f0) p292 q292
                                                            obtain rfl : ad291 = ad292 := (by injection e292)
                                                            replace p292 := eq_true p292
                                                            replace q292 := eq_true q292
                                                            have p293 : 0 ≤ (((rd_T33 l1 x11_5).f0) : Int) := of_decide_eq_true (by first | (with_reducible assumption) | assumption)
                                                            have q293 : ((rd_T33 l1 x11_5).f0) < (t277.length : Int) := of_decide_eq_true (by first | (with_reducible assumption) | assumption)
                                                            obtain ⟨ad293, e293, hx293_0⟩ := Kd.at_int (Kd.R_reads' HO_5.out).2.2 ((rd_T33 l1 x11_5).f0) p293 q293
                                                            obtain rfl : ad291 = ad293 := (by injection e293)
                                                            replace p293 := eq_true p293
                                                            replace q293 := eq_true q293
                                                            obtain ⟨Ao37, co37, eo37⟩ := Kd.R_slice HO_6.out
                                                            subst eo37
                                                            have p294 : 0 ≤ ((rd t277 ((rd_T33 l1 x11_5).f0)) : Int) := of_decide_eq_true (by first | (with_reducible assumption) | assumption)
                                                            have q294 : (rd t277 ((rd_T33 l1 x11_5).f0)) < (x6_1.length : Int) := of_decide_eq_true (by first | (with_reducible assumption) | assumption)
                                                            obtain ⟨ad294, e294, hx294_0⟩ := Kd.at_bool (Kd.R_reads' HO_6.out).2.2 (rd t277 ((rd_T33 l1 x11_5).f0)) p294 q294
                                                            (try rw [← Nbq34.out] at hx294_0)
                                                            cases e294
                                                            replace p294 := eq_true p294
                                                            replace q294 := eq_true q294
                                                            go_wp2
                                                            go_roundg k5
                                                            case measure => have := HK1.out; have := HK2.out; have := HJ9.out; have := HJ12.out; have := HK5.out; omega
                                                            case rel => exact ⟨(false), (wrap64 (x11_5 + 1)), (by first | rfl | (simp; done) | (simp [*]; done)), (by first | rfl | (simp; done) | (simp [*]; done)), H', ⟨by have := HK1.out; have := HK2.out; have := HJ9.out; have := HJ12.out; have := HK5.out; omega⟩, ⟨by (with_reducible repeat (first | apply Kd.R_alloc | apply Kd.R_drewN | apply Kd.R_drew)); exact HO_5.out⟩, ⟨by (with_reducible repeat (first | apply Kd.R_alloc | apply Kd.R_drewN | apply Kd.R_drew)); exact HO_6.out⟩, ⟨by (with_reducible repeat (first | apply Kd.R_alloc | apply Kd.R_drewN | apply Kd.R_drew)); exact HO_7.out⟩, ⟨by repeat (first | (with_reducible first | exact HB.out | apply below_alloc | apply pw_below_drewN | apply below_drew1) | exact HB.out)⟩⟩
                                                        · rw [if_neg c33] at H
                                                          exact absurd H (by simp)
                                                      · rw [if_neg c32] at H
                                                        exact absurd H (by simp)
                                                  · rw [if_neg c30] at H
                                                    exact absurd H (by simp)
                                                · rw [if_neg c29] at H
                                                  exact absurd H (by simp)
                                              · rw [if_neg c28] at H
                                                have c28b0 : ((rd t277 ((rd_T33 l1 x11_5).f2)) == x9_2) = false := beq_eq_false_iff_ne.mpr c28
                                                have c28b1 : ((rd t277 ((rd_T33 l1 x11_5).f2)) != x9_2) = true := bne_iff_ne.mpr c28
                                                have H' := Aside0.mk H
                                                clear H
                                                have p289 : 0 ≤ (x11_5 : Int) := of_decide_eq_true (by first | (with_reducible assumption) | assumption)
                                                have q289 : x11_5 < (l1.length : Int) := of_decide_eq_true (by first | (with_reducible assumption) | assumption)
                                                obtain ⟨ad289, e289, hx289_0, hx289_1, hx289_2⟩ := at_T33 HR1.out x11_5 p289 q289
                                                cases e289
                                                replace hx289_0 := (HB.out.cell (World.block_lt_of_cell? w _ hx289_0)).trans hx289_0
                                                replace hx289_1 := (HB.out.cell (World.block_lt_of_cell? w _ hx289_1)).trans hx289_1
                                                replace hx289_2 := (HB.out.cell (World.block_lt_of_cell? w _ hx289_2)).trans hx289_2
                                                replace p289 := eq_true p289
                                                replace q289 := eq_true q289
                                                have p290 : 0 ≤ (x11_5 : Int) := of_decide_eq_true (by first | (with_reducible assumption) | assumption)
                                                have q290 : x11_5 < (l1.length : Int) := of_decide_eq_true (by first | (with_reducible assumption) | assumption)
                                                obtain ⟨ad290, e290, hx290_0, hx290_1, hx290_2⟩ := at_T33 HR1.out x11_5 p290 q290
                                                obtain rfl : ad289 = ad290 := (by injection e290)
                                                replace hx290_0 := (HB.out.cell (World.block_lt_of_cell? w _ hx290_0)).trans hx290_0
                                                replace hx290_1 := (HB.out.cell (World.block_lt_of_cell? w _ hx290_1)).trans hx290_1
                                                replace hx290_2 := (HB.out.cell (World.block_lt_of_cell? w _ hx290_2)).trans hx290_2
                                                replace p290 := eq_true p290
                                                replace q290 := eq_true q290
                                                have p291 : 0 ≤ (((rd_T33 l1 x11_5).f2) : Int) := of_decide_eq_true (by first | (with_reducible assumption) | assumption)
                                                have q291 : ((rd_T33 l1 x11_5).f2) < (t277.length : Int) := of_decide_eq_true (by first | (with_reducible assumption) | assumption)
                                                obtain ⟨ad291, e291, hx291_0⟩ := Kd.at_int (Kd.R_reads' HO_5.out).2.2 ((rd_T33 l1 x11_5).f2) p291 q291
                                                cases e291
                                                replace p291 := eq_true p291
                                                replace q291 := eq_true q291
                                                go_wp2
                                                go_roundg k5
                                                case measure => have := HK1.out; have := HK2.out; have := HJ9.out; have := HJ12.out; have := HK5.out; omega
                                                case rel => exact ⟨(x10_5), (wrap64 (x11_5 + 1)), (by first | rfl | (simp; done) | (simp [*]; done)), (by first | rfl | (simp; done) | (simp [*]; done)), H', ⟨by have := HK1.out; have := HK2.out; have := HJ9.out; have := HJ12.out; have := HK5.out; omega⟩, ⟨by (with_reducible repeat (first | apply Kd.R_alloc | apply Kd.R_drewN | apply Kd.R_drew)); exact HO_5.out⟩, ⟨by (with_reducible repeat (first | apply Kd.R_alloc | apply Kd.R_drewN | apply Kd.R_drew)); exact HO_6.out⟩, ⟨by (with_reducible repeat (first | apply Kd.R_alloc | apply Kd.R_drewN | apply Kd.R_drew)); exact HO_7.out⟩, ⟨by repeat (first | (with_reducible first | exact HB.out | apply below_alloc | apply pw_below_drewN | apply below_drew1) | exact HB.out)⟩⟩
                                            · rw [if_neg c27] at H
                                              exact absurd H (by simp)
                                          · rw [if_neg c26] at H
                                            exact absurd H (by simp)
                                        · rw [if_neg c25] at H
                                          have c25b0 : decide (((rd_T33 l1 x11_5).f2) < (t277.length : Int)) = false := decide_eq_false c25
                                          clear c25
                                          have H' := Aside0.mk H
                                          clear H
                                          have p289 : 0 ≤ (x11_5 : Int) := of_decide_eq_true (by first | (with_reducible assumption) | assumption)
                                          have q289 : x11_5 < (l1.length : Int) := of_decide_eq_true (by first | (with_reducible assumption) | assumption)
                                          obtain ⟨ad289, e289, hx289_0, hx289_1, hx289_2⟩ := at_T33 HR1.out x11_5 p289 q289
                                          cases e289
                                          replace hx289_0 := (HB.out.cell (World.block_lt_of_cell? w _ hx289_0)).trans hx289_0
                                          replace hx289_1 := (HB.out.cell (World.block_lt_of_cell? w _ hx289_1)).trans hx289_1
                                          replace hx289_2 := (HB.out.cell (World.block_lt_of_cell? w _ hx289_2)).trans hx289_2
                                          replace p289 := eq_true p289
                                          replace q289 := eq_true q289
                                          have p290 : 0 ≤ (x11_5 : Int) := of_decide_eq_true (by first | (with_reducible assumption) | assumption)
                                          have q290 : x11_5 < (l1.length : Int) := of_decide_eq_true (by first | (with_reducible assumption) | assumption)
                                          obtain ⟨ad290, e290, hx290_0, hx290_1, hx290_2⟩ := at_T33 HR1.out x11_5 p290 q290
                                          obtain rfl : ad289 = ad290 := (by injection e290)
                                          replace hx290_0 := (HB.out.cell (World.block_lt_of_cell? w _ hx290_0)).trans hx290_0
                                          replace hx290_1 := (HB.out.cell (World.block_lt_of_cell? w _ hx290_1)).trans hx290_1
                                          replace hx290_2 := (HB.out.cell (World.block_lt_of_cell? w _ hx290_2)).trans hx290_2
                                          replace p290 := eq_true p290
                                          replace q290 := eq_true q290
                                          go_wp2
                                          go_roundg k5
                                          case measure => have := HK1.out; have := HK2.out; have := HJ9.out; have := HJ12.out; have := HK5.out; omega
                                          case rel => exact ⟨(x10_5), (wrap64 (x11_5 + 1)), (by first | rfl | (simp; done) | (simp [*]; done)), (by first | rfl | (simp; done) | (simp [*]; done)), H', ⟨by have := HK1.out; have := HK2.out; have := HJ9.out; have := HJ12.out; have := HK5.out; omega⟩, ⟨by (with_reducible repeat (first | apply Kd.R_alloc | apply Kd.R_drewN | apply Kd.R_drew)); exact HO_5.out⟩, ⟨by (with_reducible repeat (first | apply Kd.R_alloc | apply Kd.R_drewN | apply Kd.R_drew)); exact HO_6.out⟩, ⟨by (with_reducible repeat (first | apply Kd.R_alloc | apply Kd.R_drewN | apply Kd.R_drew)); exact HO_7.out⟩, ⟨by repeat (first | (with_reducible first | exact HB.out | apply below_alloc | apply pw_below_drewN | apply below_drew1) | exact HB.out)⟩⟩
                                      · rw [if_neg c24] at H
                                        have c24b0 : decide (0 ≤ ((rd_T33 l1 x11_5).f2)) = false := decide_eq_false c24
                                        clear c24
                                        have H' := Aside0.mk H
                                        clear H
                                        have p289 : 0 ≤ (x11_5 : Int) := of_decide_eq_true (by first | (with_reducible assumption) | assumption)
                                        have q289 : x11_5 < (l1.length : Int) := of_decide_eq_true (by first | (with_reducible assumption) | assumption)
                                        obtain ⟨ad289, e289, hx289_0, hx289_1, hx289_2⟩ := at_T33 HR1.out x11_5 p289 q289
                                        cases e289
                                        replace hx289_0 := (HB.out.cell (World.block_lt_of_cell? w _ hx289_0)).trans hx289_0
                                        replace hx289_1 := (HB.out.cell (World.block_lt_of_cell? w _ hx289_1)).trans hx289_1
                                        replace hx289_2 := (HB.out.cell (World.block_lt_of_cell? w _ hx289_2)).trans hx289_2
                                        replace p289 := eq_true p289
                                        replace q289 := eq_true q289
                                        have p290 : 0 ≤ (x11_5 : Int) := of_decide_eq_true (by first | (with_reducible assumption) | assumption)
                                        have q290 : x11_5 < (l1.length : Int) := of_decide_eq_true (by first | (with_reducible assumption) | assumption)
                                        obtain ⟨ad290, e290, hx290_0, hx290_1, hx290_2⟩ := at_T33 HR1.out x11_5 p290 q290
                                        obtain rfl : ad289 = ad290 := (by injection e290)
                                        replace hx290_0 := (HB.out.cell (World.block_lt_of_cell? w _ hx290_0)).trans hx290_0
                                        replace hx290_1 := (HB.out.cell (World.block_lt_of_cell? w _ hx290_1)).trans hx290_1
                                        replace hx290_2 := (HB.out.cell (World.block_lt_of_cell? w _ hx290_2)).trans hx290_2
                                        replace p290 := eq_true p290
                                        replace q290 := eq_true q290
                                        go_wp2
                                        go_roundg k5
                                        case measure => have := HK1.out; have := HK2.out; have := HJ9.out; have := HJ12.out; have := HK5.out; omega
                                        case rel => exact ⟨(x10_5), (wrap64 (x11_5 + 1)), (by first | rfl | (simp; done) | (simp [*]; done)), (by first | rfl | (simp; done) | (simp [*]; done)), H', ⟨by have := HK1.out; have := HK2.out; have := HJ9.out; have := HJ12.out; have := HK5.out; omega⟩, ⟨by (with_reducible repeat (first | apply Kd.R_alloc | apply Kd.R_drewN | apply Kd.R_drew)); exact HO_5.out⟩, ⟨by (with_reducible repeat (first | apply Kd.R_alloc | apply Kd.R_drewN | apply Kd.R_drew)); exact HO_6.out⟩, ⟨by (with_reducible repeat (first | apply Kd.R_alloc | apply Kd.R_drewN | apply Kd.R_drew)); exact HO_7.out⟩, ⟨by repeat (first | (with_reducible first | exact HB.out | apply below_alloc | apply pw_below_drewN | apply below_drew1) | exact HB.out)⟩⟩
                                    · rw [if_neg c23] at H
                                      have c23b0 : decide (((rd_T33 l1 x11_5).f0) < (t277.length : Int)) = false := decide_eq_false c23
                                      clear c23
                                      have H' := Aside0.mk H
                                      clear H
                                      have p289 : 0 ≤ (x11_5 : Int) := of_decide_eq_true (by first | (with_reducible assumption) | assumption)
                                      have q289 : x11_5 < (l1.length : Int) := of_decide_eq_true (by first | (with_reducible assumption) | assumption)
                                      obtain ⟨ad289, e289, hx289_0, hx289_1, hx289_2⟩ := at_T33 HR1.out x11_5 p289 q289
                                      cases e289
                                      replace hx289_0 := (HB.out.cell (World.block_lt_of_cell? w _ hx289_0)).trans hx289_0
                                      replace hx289_1 := (HB.out.cell (World.block_lt_of_cell? w _ hx289_1)).trans hx289_1
                                      replace hx289_2 := (HB.out.cell (World.block_lt_of_cell? w _ hx289_2)).trans hx289_2
                                      replace p289 := eq_true p289
                                      replace q289 := eq_true q289
                                      have p290 : 0 ≤ (x11_5 : Int) := of_decide_eq_true (by first | (with_reducible assumption) | assumption)
                                      have q290 : x11_5 < (l1.length : Int) := of_decide_eq_true (by first | (with_reducible assumption) | assumption)
                                      obtain ⟨ad290, e290, hx290_0, hx290_1, hx290_2⟩ := at_T33 HR1.out x11_5 p290 q290
                                      obtain rfl : ad289 = ad290 := (by injection e290)
                                      replace hx290_0 := (HB.out.cell (World.block_lt_of_cell? w _ hx290_0)).trans hx290_0
                                      replace hx290_1 := (HB.out.cell (World.block_lt_of_cell? w _ hx290_1)).trans hx290_1
                                      replace hx290_2 := (HB.out.cell (World.block_lt_of_cell? w _ hx290_2)).trans hx290_2
                                      replace p290 := eq_true p290
                                      replace q290 := eq_true q290
                                      go_wp2
                                      go_roundg k5
                                      case measure => have := HK1.out; have := HK2.out; have := HJ9.out; have := HJ12.out; have := HK5.out; omega
                                      case rel => exact ⟨(x10_5), (wrap64 (x11_5 + 1)), (by first | rfl | (simp; done) | (simp [*]; done)), (by first | rfl | (simp; done) | (simp [*]; done)), H', ⟨by have := HK1.out; have := HK2.out; have := HJ9.out; have := HJ12.out; have := HK5.out; omega⟩, ⟨by (with_reducible repeat (first | apply Kd.R_alloc | apply Kd.R_drewN | apply Kd.R_drew)); exact HO_5.out⟩, ⟨by (with_reducible repeat (first | apply Kd.R_alloc | apply Kd.R_drewN | apply Kd.R_drew)); exact HO_6.out⟩, ⟨by (with_reducible repeat (first | apply Kd.R_alloc | apply Kd.R_drewN | apply Kd.R_drew)); exact HO_7.out⟩, ⟨by repeat (first | (with_reducible first | exact HB.out | apply below_alloc | apply pw_below_drewN | apply below_drew1) | exact HB.out)⟩⟩
                                  · rw [if_neg c22] at H
                                    have c22b0 : decide (0 ≤ ((rd_T33 l1 x11_5).f0)) = false := decide_eq_false c22
                                    clear c22
                                    have H' := Aside0.mk H
                                    clear H
                                    have p289 : 0 ≤ (x11_5 : Int) := of_decide_eq_true (by first | (with_reducible assumption) | assumption)
                                    have q289 : x11_5 < (l1.length : Int) := of_decide_eq_true (by first | (with_reducible assumption) | assumption)
                                    obtain ⟨ad289, e289, hx289_0, hx289_1, hx289_2⟩ := at_T33 HR1.out x11_5 p289 q289
                                    cases e289
                                    replace hx289_0 := (HB.out.cell (World.block_lt_of_cell? w _ hx289_0)).trans hx289_0
                                    replace hx289_1 := (HB.out.cell (World.block_lt_of_cell? w _ hx289_1)).trans hx289_1
                                    replace hx289_2 := (HB.out.cell (World.block_lt_of_cell? w _ hx289_2)).trans hx289_2
                                    replace p289 := eq_true p289
                                    replace q289 := eq_true q289
                                    have p290 : 0 ≤ (x11_5 : Int) := of_decide_eq_true (by first | (with_reducible assumption) | assumption)
                                    have q290 : x11_5 < (l1.length : Int) := of_decide_eq_true (by first | (with_reducible assumption) | assumption)
                                    obtain ⟨ad290, e290, hx290_0, hx290_1, hx290_2⟩ := at_T33 HR1.out x11_5 p290 q290
                                    obtain rfl : ad289 = ad290 := (by injection e290)
                                    replace hx290_0 := (HB.out.cell (World.block_lt_of_cell? w _ hx290_0)).trans hx290_0
                                    replace hx290_1 := (HB.out.cell (World.block_lt_of_cell? w _ hx290_1)).trans hx290_1
                                    replace hx290_2 := (HB.out.cell (World.block_lt_of_cell? w _ hx290_2)).trans hx290_2
                                    replace p290 := eq_true p290
                                    replace q290 := eq_true q290
                                    go_wp2
                                    go_roundg k5
                                    case measure => have := HK1.out; have := HK2.out; have := HJ9.out; have := HJ12.out; have := HK5.out; omega
                                    case rel => exact ⟨(x10_5), (wrap64 (x11_5 + 1)), (by first | rfl | (simp; done) | (simp [*]; done)), (by first | rfl | (simp; done) | (simp [*]; done)), H', ⟨by have := HK1.out; have := HK2.out; have := HJ9.out; have := HJ12.out; have := HK5.out; omega⟩, ⟨by (with_reducible repeat (first | apply Kd.R_alloc | apply Kd.R_drewN | apply Kd.R_drew)); exact HO_5.out⟩, ⟨by (with_reducible repeat (first | apply Kd.R_alloc | apply Kd.R_drewN | apply Kd.R_drew)); exact HO_6.out⟩, ⟨by (with_reducible repeat (first | apply Kd.R_alloc | apply Kd.R_drewN | apply Kd.R_drew)); exact HO_7.out⟩, ⟨by repeat (first | (with_reducible first | exact HB.out | apply below_alloc | apply pw_below_drewN | apply below_drew1) | exact HB.out)⟩⟩
                                · rw [if_neg c21] at H
                                  exact absurd H (by simp)
                              · rw [if_neg c20] at H
                                have c20b0 : decide (x11_5 < (l1.length : Int)) = false := decide_eq_false c20
                                clear c20
                                by_cases c38 : x10_5 = true
                                · subst c38
                                  have H1 : (crosstreeref15_Order.l1 k5 (t277.length : Int) l1 t277 x6_1 x7_1 x9_2 (wrap64 (x9_2 + 1))) = some r := by rw [if_pos rfl] at H; exact H
                                  clear H
                                  have H := H1
                                  clear H1
                                  have H' := Aside0.mk H
                                  clear H
                                  go_wp2
                                  go_roundg k5
                                  case measure => have := HK1.out; have := HK2.out; have := HJ9.out; have := HJ12.out; have := HK5.out; omega
                                  case rel => exact ⟨(x9_2), (wrap64 (x9_2 + 1)), (by first | rfl | (simp; done) | (simp [*]; done)), (by first | rfl | (simp; done) | (simp [*]; done)), H', ⟨by have := HK1.out; have := HK2.out; have := HJ9.out; have := HJ12.out; have := HK5.out; omega⟩, ⟨by (with_reducible repeat (first | apply Kd.R_alloc | apply Kd.R_drewN | apply Kd.R_drew)); exact HO_5.out⟩, ⟨by (with_reducible repeat (first | apply Kd.R_alloc | apply Kd.R_drewN | apply Kd.R_drew)); exact HO_6.out⟩, ⟨by (with_reducible repeat (first | apply Kd.R_alloc | apply Kd.R_drewN | apply Kd.R_drew)); exact HO_7.out⟩, ⟨by repeat (first | (with_reducible first | exact HB.out | apply below_alloc | apply pw_below_drewN | apply below_drew1) | exact HB.out)⟩⟩
                                · replace c38 := Bool.eq_false_iff.mpr c38
                                  subst c38
                                  have H1 : (crosstreeref15_Order.l1 k5 (t277.length : Int) l1 t277 x6_1 x7_1 x8_2 (wrap64 (x9_2 + 1))) = some r := by rw [if_neg (show ¬ (false = true) by decide)] at H; exact H
                                  clear H
                                  have H := H1
                                  clear H1
                                  have H' := Aside0.mk H
                                  clear H
                                  go_wp2
                                  go_roundg k5
                                  case measure => have := HK1.out; have := HK2.out; have := HJ9.out; have := HJ12.out; have := HK5.out; omega
                                  case rel => exact ⟨(x8_2), (wrap64 (x9_2 + 1)), (by first | rfl | (simp; done) | (simp [*]; done)), (by first | rfl | (simp; done) | (simp [*]; done)), H', ⟨by have := HK1.out; have := HK2.out; have := HJ9.out; have := HJ12.out; have := HK5.out; omega⟩, ⟨by (with_reducible repeat (first | apply Kd.R_alloc | apply Kd.R_drewN | apply Kd.R_drew)); exact HO_5.out⟩, ⟨by (with_reducible repeat (first | apply Kd.R_alloc | apply Kd.R_drewN | apply Kd.R_drew)); exact HO_6.out⟩, ⟨by (with_reducible repeat (first | apply Kd.R_alloc | apply Kd.R_drewN | apply Kd.R_drew)); exact HO_7.out⟩, ⟨by repeat (first | (with_reducible first | exact HB.out | apply below_alloc | apply pw_below_drewN | apply below_drew1) | exact HB.out)⟩⟩
                  · replace c12 := Bool.eq_false_iff.mpr c12
                    subst c12
                    have H1 : (if x8_2 < 0 then (some x7_1) else (if 0 ≤ x8_2 then (if x8_2 < (x6_1.length : Int) then (if x7_1.length < 17592186044416 then (crosstreeref15_Order.l0 kj9 (t277.length : Int) l1 t277 (x6_1.set (x8_2 : Int).toNat true) (x7_1 ++ [x8_2])) else (none)) else (none)) else (none))) = some r := by rw [if_neg (show ¬ (false = true) by decide)] at H; exact H
                    clear H
                    have H := H1
                    clear H1
                    by_cases c39 : x8_2 < 0
                    · rw [if_pos c39] at H
                      have c39b0 : decide (x8_2 < 0) = true := decide_eq_true c39
                      clear c39
                      obtain rfl := Option.some.inj H
                      go_wp2
                      go_ret
                      exact ⟨_, by first | rfl | (simp [errW_none, errW_some] <;> rfl) | (simp [*, errW_none, errW_some] <;> rfl), by (with_reducible repeat (first | apply Kd.R_alloc | apply Kd.R_drewN | apply Kd.R_drew)); exact Kd.R_mono HO_7.out (fun _ hk => trivial), by repeat (first | (with_reducible first | exact HB.out | apply below_alloc | apply pw_below_drewN | apply below_drew1) | exact HB.out)⟩
                    · rw [if_neg c39] at H
                      have c39b0 : decide (x8_2 < 0) = false := decide_eq_false c39
                      clear c39
                      by_cases c40 : 0 ≤ x8_2
                      · rw [if_pos c40] at H
                        have c40b0 : decide (0 ≤ x8_2) = true := decide_eq_true c40
                        clear c40
                        by_cases c41 : x8_2 < (x6_1.length : Int)
                        · rw [if_pos c41] at H
                          have c41b0 : decide (x8_2 < (x6_1.length : Int)) = true := decide_eq_true c41
                          clear c41
                          obtain ⟨y283, hy283⟩ : ∃ y_ : List Bool, y_ = (x6_1.set (x8_2 : Int).toNat true) := ⟨_, rfl⟩
                          replace H : (if x7_1.length < 17592186044416 then (crosstreeref15_Order.l0 kj9 (t277.length : Int) l1 t277 y283 (x7_1 ++ [x8_2])) else (none)) = some r := by first | (rw [hy283]; with_reducible exact H) | (have H2_ := (Option.bind_some _ _).symm.trans H; rw [hy283]; with_reducible exact H2_) | (have H2_ := (Option.bind_some _ _).symm.trans H; with_reducible exact H2_) | with_reducible exact H | (rw [hy283]; exact H) | exact H
                          have Ny283 := Aside0.mk hy283
                          clear hy283
                          by_cases c43 : x7_1.length < 17592186044416
                          · rw [if_pos c43] at H
                            have LMc43 := Aside0.mk c43
                            clear c43
                            obtain ⟨y284, hy284⟩ : ∃ y_ : List Int, y_ = (x7_1 ++ [x8_2]) := ⟨_, rfl⟩
                            replace H : (crosstreeref15_Order.l0 kj9 (t277.length : Int) l1 t277 y283 y284) = some r := by first | (rw [hy284]; with_reducible exact H) | (have H2_ := (Option.bind_some _ _).symm.trans H; rw [hy284]; with_reducible exact H2_) | (have H2_ := (Option.bind_some _ _).symm.trans H; with_reducible exact H2_) | with_reducible exact H | (rw [hy284]; exact H) | exact H
                            have Ny284 := Aside0.mk hy284
                            clear hy284
                            have H' := Aside0.mk H
                            clear H
                            have p42 : 0 ≤ (x8_2 : Int) := of_decide_eq_true (by first | (with_reducible assumption) | assumption)
                            have q42 : (x8_2 : Int) < ((x6_1.length : Int) : Int) := of_decide_eq_true (by first | (with_reducible assumption) | assumption)
                            obtain ⟨go42, co42, eo42, gb42, gl42, cl42, HG42⟩ := Kd.R_form HO_6.out (by omega)
                            (first | cases eo42 | (injection eo42 with ea_ en_ ec_; (first | subst ea_ | (injection ea_ with ea_; subst ea_)); subst ec_; clear en_))
                            have GB42 := Aside0.mk gb42
                            have GG42 := Aside0.mk HG42
                            clear gb42 gl42 HG42
                            obtain ⟨hx42_0, hf42_0⟩ := Kd.R_celln false HO_6.out (x8_2 : Int) p42 q42
                            replace p42 := eq_true p42
                            replace q42 := eq_true q42
                            have HP44 := Kd.R_putg HO_6.out (x8_2 : Int) true
                            go_wp2_with (first | ((with_reducible refine gate_store (t := 4) (p := 107) rfl ?_); refine store_event (t := 4) (p := 107) (v := ?vo_w45) (w1 := (wc.setCell ⟨go42, (x8_2 : Int).toNat, none⟩ (.bool true))) ?hg ?ho ?hn ?hr ?_; (case ho => rfl); (case hg => rfl); (case hn => rfl); (case hr => first | (go_simp; done) | (go_simp; rfl)); intro w45 hw; have hg : wc.grownBy w45 (some go42) := (by rw [hw]; exact HP44.2); have hp_ : Kd.R Kd.bool 4 w45 w.heap.size (fun _ => True) (.slice (some ⟨go42, 0, none⟩) x6_1.length co42) y283 := (by rw [hw, Ny283.out]; exact HP44.1); clear HP44; have n0_ := Aside0.mk (Kd.R_over' (v := (.slice (some ⟨go42, 0, none⟩) x6_1.length co42)) (by (with_reducible repeat (first | apply Kd.R_alloc | apply Kd.R_drewN | apply Kd.R_drew)); exact HO_5.out) (Kd.R_typed HO_6.out) (by decide) hg); have n1_ := Aside0.mk (hp_); have n2_ := Aside0.mk (Kd.R_over' (v := (.slice (some ⟨go42, 0, none⟩) x6_1.length co42)) (by (with_reducible repeat (first | apply Kd.R_alloc | apply Kd.R_drewN | apply Kd.R_drew)); exact HO_7.out) (Kd.R_typed HO_6.out) (by decide) hg); have n3_ := Aside0.mk ((by rw [hw]; exact below_set (HB.out) GB42.out : Below w.heap.size w w45)); clear HO_5; clear HO_6; clear HO_7; clear HB; have HO_5 := n0_; have HO_6 := n1_; have HO_7 := n2_; have HB := n3_; clear n0_ n1_ n2_ n3_; clear hg hw hp_) | ((with_reducible refine gate_builtin (b := .append) (xs := #[.tmp 108, .tmp 110]) rfl ?_); at_builtin; refine Kd.R_append (Kd.int .i64) (w0 := w) w.heap.size rfl (.tmp 108) (.tmp 110) 27 3 (.int .i64 0) 8 rfl Try.underlying27 info3 rfl (by decide) (by omega) u7 x7_1 x8_2 [.int .i64 x8_2] (fun k_ => some k_ ≠ (.slice Ao7 t277.length co7 : Value).ownBlock) (fun _ => False) rfl rfl ?aP (fun _ hk => hk.elim) ?aF ?aO ?aB ?aS ?aL ?_; (case aP => exact rfl); (case aB => exact (by repeat (first | (with_reducible first | exact HB.out | apply below_alloc | apply pw_below_drewN | apply below_drew1) | exact HB.out))); (case aF => exact (fun k_ hk => Kd.fresh' (Kd.R_lt (by (with_reducible repeat (first | apply Kd.R_alloc | apply Kd.R_drewN | apply Kd.R_drew)); exact HO_5.out)) k_ hk)); (case aO => exact (by (with_reducible repeat (first | apply Kd.R_alloc | apply Kd.R_drewN | apply Kd.R_drew)); exact HO_7.out)); (case aS => exact (below_size (by repeat (first | (with_reducible first | exact HB.out | apply below_alloc | apply pw_below_drewN | apply below_drew1) | exact HB.out)))); (case aL => have := LMc43.out; omega); intro v285 w46 ho hb hg hat; rw [← Ny284.out] at ho; have n0_ := Aside0.mk (Kd.R_after (ok := (fun _ => True)) (by (with_reducible repeat (first | apply Kd.R_alloc | apply Kd.R_drewN | apply Kd.R_drew)); exact Kd.R_mono HO_5.out (fun _ hk => ⟨trivial, hk⟩)) hg hat); have n1_ := Aside0.mk (Kd.R_over' (by (with_reducible repeat (first | apply Kd.R_alloc | apply Kd.R_drewN | apply Kd.R_drew)); exact HO_6.out) (Kd.R_typed (by (with_reducible repeat (first | apply Kd.R_alloc | apply Kd.R_drewN | apply Kd.R_drew)); exact HO_7.out)) (by decide) hg); have n2_ := Aside0.mk (hb); have n3_ := Aside0.mk (ho); clear HO_5; clear HO_6; clear HB; clear HO_7; have HO_5 := n0_; have HO_6 := n1_; have HB := n2_; have HO286 := n3_; clear n0_ n1_ n2_ n3_; clear ho hb hg hat))
                            go_roundg kj9
                            case measure => have := HK1.out; have := HK2.out; have := HJ9.out; omega
                            case rel => exact ⟨(y283), (y284), H', ⟨by have := HK1.out; have := HK2.out; have := HJ9.out; omega⟩, ⟨by (with_reducible repeat (first | apply Kd.R_alloc | apply Kd.R_drewN | apply Kd.R_drew)); exact Kd.R_mono HO_5.out (fun _ hk => hk.2)⟩, ⟨by (with_reducible repeat (first | apply Kd.R_alloc | apply Kd.R_drewN | apply Kd.R_drew)); exact HO_6.out⟩, ⟨by (with_reducible repeat (first | apply Kd.R_alloc | apply Kd.R_drewN | apply Kd.R_drew)); exact HO286.out⟩, ⟨by repeat (first | (with_reducible first | exact HB.out | apply below_alloc | apply pw_below_drewN | apply below_drew1) | exact HB.out)⟩⟩
                          · rw [if_neg c43] at H
                            exact absurd H (by simp)
                        · rw [if_neg c41] at H
                          exact absurd H (by simp)
                      · rw [if_neg c40] at H
                        exact absurd H (by simp)
    · rw [if_neg c5] at H
      exact absurd H (by simp)
  · rw [if_neg c4] at H
    exact absurd H (by simp)

end Go.Proofs.Ytdobjmbfkdfdcaa.G
