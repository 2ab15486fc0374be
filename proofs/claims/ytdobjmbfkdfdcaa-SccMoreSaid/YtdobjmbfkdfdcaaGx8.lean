-- A print of Ytdobjmbfkdfdcaa: functions, their calls (by the kit's print.py, from a copy in scratch).
import Derived.Test.YtdobjmbfkdfdcaaGx0
namespace Go.Proofs.Ytdobjmbfkdfdcaa.G
open Go.RowKit Go.Proofs.YtdobjmbfkdfdcaaW.PrintWords Go.Proofs.YtdobjmbfkdfdcaaW.PrintLast Go.Proofs.YtdobjmbfkdfdcaaW.PrintMore
attribute [local go_sem] max2_int min2_int max_two min_two max_three min_three max_four min_four   -- for this text's walks alone
set_option linter.unusedVariables false
set_option linter.unusedSimpArgs false

-- NOT PRINTED: function 37 (slices_partitionOrdered_int)

-- NOT PRINTED: function 27 (slices_pdqsortOrdered_int)

-- NOT PRINTED: function 25 (slices_Sort_int_int)

-- NOT PRINTED: function 16 (scc_Reach)

-- NOT PRINTED: function 9 (crosstreelaw15_shown)

/-! ### crosstreelaw15_few: function 10 -/
def crosstreelaw15_few.f (a0 : Int) (l1 : List (S33)) : Option (Int × (List (S33))) := if a0 > 60 then (if (l1.length : Int) > 200 then (if 200 ≤ (l1.length : Int) then (some (60, (l1.take (200 : Int).toNat))) else (none)) else (some (60, l1))) else (if (l1.length : Int) > 200 then (if 200 ≤ (l1.length : Int) then (some (a0, (l1.take (200 : Int).toNat))) else (none)) else (some (a0, l1)))
set_option maxHeartbeats 8000000 in
set_option maxRecDepth 100000 in
theorem crosstreelaw15_few.calls (a0 : Int) (P1_ : Nat → Prop) (u9000_ : Value) (l1 : List (S33)) (r1 : Int) (r2 : List (S33)) (w0 w : World) (hB : Below w0.heap.size w0 w) (ho1 : Kd.R k33 33 w w0.heap.size P1_ u9000_ l1) (h : crosstreelaw15_few.f a0 l1 = some (r1, r2)) :
    Calls Try.prog 10 #[.int .i64 a0, u9000_] w fun e w' => ∃ v1_ : Value, e = .returned (.tuple #[.int .i64 r1, v1_]) ∧ Kd.R k33 33 w' w0.heap.size (fun k_ => (P1_ k_ ∨ w.heap.size ≤ k_)) v1_ r2 ∧ Below w0.heap.size w0 w' ∧ Kept w w' (fun k_ => P1_ k_) := by
  have HO1 := Aside0.mk (show Kd.R k33 33 w w0.heap.size (fun k_ => (P1_ k_ ∨ w.heap.size ≤ k_)) u9000_ l1 from Kd.R_mono ho1 (fun k_ hk => (.inl hk)))
  have HK := Aside0.mk (Kept.refl w (fun k_ => P1_ k_))
  have HW0 := Aside0.mk hB.size
  have HB := Aside0.mk hB
  clear hB
  have H : (if a0 > 60 then (if (l1.length : Int) > 200 then (if 200 ≤ (l1.length : Int) then (some (60, (l1.take (200 : Int).toNat))) else (none)) else (some (60, l1))) else (if (l1.length : Int) > 200 then (if 200 ≤ (l1.length : Int) then (some (a0, (l1.take (200 : Int).toNat))) else (none)) else (some (a0, l1)))) = some (r1, r2) := h
  clear h
  by_cases c3 : a0 > 60
  · rw [if_pos c3] at H
    have c3b0 : decide (60 < a0) = true := decide_eq_true c3
    clear c3
    by_cases c4 : (l1.length : Int) > 200
    · rw [if_pos c4] at H
      have c4b0 : decide (200 < (l1.length : Int)) = true := decide_eq_true c4
      have c4b1 : decide (200 < l1.length) = true := decide_eq_true (by omega)
      clear c4
      by_cases c5 : 200 ≤ (l1.length : Int)
      · rw [if_pos c5] at H
        have c5b0 := eq_true c5
        have c5b1 : decide (200 ≤ (l1.length : Int)) = true := decide_eq_true c5
        clear c5
        obtain ⟨y245, hy245⟩ : ∃ y_ : List (S33), y_ = (l1.take (200 : Int).toNat) := ⟨_, rfl⟩
        replace H : (some (60, y245)) = some (r1, r2) := by first | (rw [hy245]; with_reducible exact H) | (have H2_ := (Option.bind_some _ _).symm.trans H; rw [hy245]; with_reducible exact H2_) | (have H2_ := (Option.bind_some _ _).symm.trans H; with_reducible exact H2_) | with_reducible exact H | (rw [hy245]; exact H) | exact H
        have Ny245 := Aside0.mk hy245
        clear hy245
        simp only [Option.some.injEq, Prod.mk.injEq] at H
        obtain ⟨rfl, rfl⟩ := H
        obtain ⟨Ao6, co6, eo6⟩ := Kd.R_slice HO1.out
        subst eo6
        have q7 : (200 : Int) ≤ ((l1.length : Int) : Int) := of_decide_eq_true (by first | (with_reducible assumption) | assumption)
        obtain ⟨i07, hi07, _, hsz7, _⟩ := info_parts info33
        have hcut7 := cut_to (P := Try.prog) 22 33 .i64 Try.underlying22 hi07 Ao6 l1.length co6 200 (by omega) q7 (Kd.R_reads' HO1.out).2.1
        have hr7 := Kd.R_take (m := (200 : Int).toNat) HO1.out (by omega)
        have hy7 : y245.length = (200 : Int).toNat := (by rw [Ny245.out, List.length_take]; omega)
        rw [← Ny245.out] at hr7
        rw [← hy7] at hr7 hcut7
        clear hy7 hi07 hsz7 HO1
        have HO247 := Aside0.mk hr7
        clear hr7
        replace q7 := eq_true q7
        go_enter Try.func10, Try.ntmps10
        go_wp2
        go_ret2
        exact ⟨_, by first | rfl | (simp [errW_none, errW_some] <;> rfl) | (simp [*, errW_none, errW_some] <;> rfl), by (with_reducible repeat (first | apply Kd.R_alloc | apply Kd.R_drewN | apply Kd.R_drew)); exact HO247.out, by repeat (first | (with_reducible first | exact HB.out | apply below_alloc | apply pw_below_drewN | apply below_drew1) | exact HB.out), by repeat (first | (with_reducible first | exact HK.out | apply Kept.alloc | apply Kept.drewN | apply Kept.drew) | exact HK.out)⟩
      · rw [if_neg c5] at H
        exact absurd H (by simp)
    · rw [if_neg c4] at H
      have c4b0 : decide (200 < (l1.length : Int)) = false := decide_eq_false c4
      have c4b1 : decide (200 < l1.length) = false := decide_eq_false (by omega)
      clear c4
      simp only [Option.some.injEq, Prod.mk.injEq] at H
      obtain ⟨rfl, rfl⟩ := H
      obtain ⟨Ao8, co8, eo8⟩ := Kd.R_slice HO1.out
      subst eo8
      go_enter Try.func10, Try.ntmps10
      go_wp2
      go_ret2
      exact ⟨_, by first | rfl | (simp [errW_none, errW_some] <;> rfl) | (simp [*, errW_none, errW_some] <;> rfl), by (with_reducible repeat (first | apply Kd.R_alloc | apply Kd.R_drewN | apply Kd.R_drew)); exact HO1.out, by repeat (first | (with_reducible first | exact HB.out | apply below_alloc | apply pw_below_drewN | apply below_drew1) | exact HB.out), by repeat (first | (with_reducible first | exact HK.out | apply Kept.alloc | apply Kept.drewN | apply Kept.drew) | exact HK.out)⟩
  · rw [if_neg c3] at H
    have c3b0 : decide (60 < a0) = false := decide_eq_false c3
    clear c3
    by_cases c9 : (l1.length : Int) > 200
    · rw [if_pos c9] at H
      have c9b0 : decide (200 < (l1.length : Int)) = true := decide_eq_true c9
      have c9b1 : decide (200 < l1.length) = true := decide_eq_true (by omega)
      clear c9
      by_cases c10 : 200 ≤ (l1.length : Int)
      · rw [if_pos c10] at H
        have c10b0 := eq_true c10
        have c10b1 : decide (200 ≤ (l1.length : Int)) = true := decide_eq_true c10
        clear c10
        obtain ⟨y248, hy248⟩ : ∃ y_ : List (S33), y_ = (l1.take (200 : Int).toNat) := ⟨_, rfl⟩
        replace H : (some (a0, y248)) = some (r1, r2) := by first | (rw [hy248]; with_reducible exact H) | (have H2_ := (Option.bind_some _ _).symm.trans H; rw [hy248]; with_reducible exact H2_) | (have H2_ := (Option.bind_some _ _).symm.trans H; with_reducible exact H2_) | with_reducible exact H | (rw [hy248]; exact H) | exact H
        have Ny248 := Aside0.mk hy248
        clear hy248
        simp only [Option.some.injEq, Prod.mk.injEq] at H
        obtain ⟨rfl, rfl⟩ := H
        obtain ⟨Ao11, co11, eo11⟩ := Kd.R_slice HO1.out
        subst eo11
        have q12 : (200 : Int) ≤ ((l1.length : Int) : Int) := of_decide_eq_true (by first | (with_reducible assumption) | assumption)
        obtain ⟨i012, hi012, _, hsz12, _⟩ := info_parts info33
        have hcut12 := cut_to (P := Try.prog) 22 33 .i64 Try.underlying22 hi012 Ao11 l1.length co11 200 (by omega) q12 (Kd.R_reads' HO1.out).2.1
        have hr12 := Kd.R_take (m := (200 : Int).toNat) HO1.out (by omega)
        have hy12 : y248.length = (200 : Int).toNat := (by rw [Ny248.out, List.length_take]; omega)
        rw [← Ny248.out] at hr12
        rw [← hy12] at hr12 hcut12
        clear hy12 hi012 hsz12 HO1
        have HO250 := Aside0.mk hr12
        clear hr12
        replace q12 := eq_true q12
        go_enter Try.func10, Try.ntmps10
        go_wp2
        go_ret2
        exact ⟨_, by first | rfl | (simp [errW_none, errW_some] <;> rfl) | (simp [*, errW_none, errW_some] <;> rfl), by (with_reducible repeat (first | apply Kd.R_alloc | apply Kd.R_drewN | apply Kd.R_drew)); exact HO250.out, by repeat (first | (with_reducible first | exact HB.out | apply below_alloc | apply pw_below_drewN | apply below_drew1) | exact HB.out), by repeat (first | (with_reducible first | exact HK.out | apply Kept.alloc | apply Kept.drewN | apply Kept.drew) | exact HK.out)⟩
      · rw [if_neg c10] at H
        exact absurd H (by simp)
    · rw [if_neg c9] at H
      have c9b0 : decide (200 < (l1.length : Int)) = false := decide_eq_false c9
      have c9b1 : decide (200 < l1.length) = false := decide_eq_false (by omega)
      clear c9
      simp only [Option.some.injEq, Prod.mk.injEq] at H
      obtain ⟨rfl, rfl⟩ := H
      obtain ⟨Ao13, co13, eo13⟩ := Kd.R_slice HO1.out
      subst eo13
      go_enter Try.func10, Try.ntmps10
      go_wp2
      go_ret2
      exact ⟨_, by first | rfl | (simp [errW_none, errW_some] <;> rfl) | (simp [*, errW_none, errW_some] <;> rfl), by (with_reducible repeat (first | apply Kd.R_alloc | apply Kd.R_drewN | apply Kd.R_drew)); exact HO1.out, by repeat (first | (with_reducible first | exact HB.out | apply below_alloc | apply pw_below_drewN | apply below_drew1) | exact HB.out), by repeat (first | (with_reducible first | exact HK.out | apply Kept.alloc | apply Kept.drewN | apply Kept.drew) | exact HK.out)⟩

/-! ### crosstreeref15_size: function 22 -/
def crosstreeref15_size.f (a0 : Int) : Option (Int) := if a0 < 0 then (some 0) else (if a0 > 20000 then (some 20000) else (some a0))
set_option maxHeartbeats 8000000 in
set_option maxRecDepth 100000 in
theorem crosstreeref15_size.calls (a0 : Int) (r : Int) (w : World) (h : crosstreeref15_size.f a0 = some r) :
    Calls Try.prog 22 #[.int .i64 a0] w fun e w' => e = .returned (.int .i64 r) ∧ Drawn0 w w' := by
  have H : (if a0 < 0 then (some 0) else (if a0 > 20000 then (some 20000) else (some a0))) = some r := h
  clear h
  by_cases c2 : a0 < 0
  · rw [if_pos c2] at H
    have c2b0 : decide (a0 < 0) = true := decide_eq_true c2
    clear c2
    obtain rfl := Option.some.inj H
    go_enter Try.func22, Try.ntmps22
    go_wp2
    go_ret
    exact ⟨by first | rfl | (simp; done) | (simp [*]; done), by repeat (first | exact Drawn0.refl _ | apply Drawn0.step)⟩
  · rw [if_neg c2] at H
    have c2b0 : decide (a0 < 0) = false := decide_eq_false c2
    clear c2
    by_cases c3 : a0 > 20000
    · rw [if_pos c3] at H
      have c3b0 : decide (20000 < a0) = true := decide_eq_true c3
      clear c3
      obtain rfl := Option.some.inj H
      go_enter Try.func22, Try.ntmps22
      go_wp2
      go_ret
      exact ⟨by first | rfl | (simp; done) | (simp [*]; done), by repeat (first | exact Drawn0.refl _ | apply Drawn0.step)⟩
    · rw [if_neg c3] at H
      have c3b0 : decide (20000 < a0) = false := decide_eq_false c3
      clear c3
      obtain rfl := Option.some.inj H
      go_enter Try.func22, Try.ntmps22
      go_wp2
      go_ret
      exact ⟨by first | rfl | (simp; done) | (simp [*]; done), by repeat (first | exact Drawn0.refl _ | apply Drawn0.step)⟩

/-! ### crosstreeref15_spread: function 26 -/
mutual
def crosstreeref15_spread.l0 : Nat → Int → List (S33) → List Bool → Bool → Option (List Bool)
  | 0, _, _, _, _ => none
  | k + 1, x0, x1, x2, x7 => if x7 = true then (crosstreeref15_spread.l1 k x0 x1 x2 false 0) else (some x2)
def crosstreeref15_spread.l1 : Nat → Int → List (S33) → List Bool → Bool → Int → Option (List Bool)
  | 0, _, _, _, _, _ => none
  | k + 1, x0, x1, x2, x7, x8 => if x8 < (x1.length : Int) then (if 0 ≤ x8 then (if ((rd_T33 x1 x8).f0) ≥ 0 then (if ((rd_T33 x1 x8).f0) < x0 then (if ((rd_T33 x1 x8).f2) ≥ 0 then (if ((rd_T33 x1 x8).f2) < x0 then (if 0 ≤ ((rd_T33 x1 x8).f0) then (if ((rd_T33 x1 x8).f0) < (x2.length : Int) then (if rdOf false x2 ((rd_T33 x1 x8).f0) = true then (if 0 ≤ ((rd_T33 x1 x8).f2) then (if ((rd_T33 x1 x8).f2) < (x2.length : Int) then (if (rdOf false x2 ((rd_T33 x1 x8).f2) = true) then (crosstreeref15_spread.l1 k x0 x1 x2 x7 (wrap64 (x8 + 1))) else (crosstreeref15_spread.l1 k x0 x1 (x2.set (((rd_T33 x1 x8).f2) : Int).toNat true) true (wrap64 (x8 + 1)))) else (none)) else (none)) else (crosstreeref15_spread.l1 k x0 x1 x2 x7 (wrap64 (x8 + 1)))) else (none)) else (none)) else (crosstreeref15_spread.l1 k x0 x1 x2 x7 (wrap64 (x8 + 1)))) else (crosstreeref15_spread.l1 k x0 x1 x2 x7 (wrap64 (x8 + 1)))) else (crosstreeref15_spread.l1 k x0 x1 x2 x7 (wrap64 (x8 + 1)))) else (crosstreeref15_spread.l1 k x0 x1 x2 x7 (wrap64 (x8 + 1)))) else (none)) else (crosstreeref15_spread.l0 k x0 x1 x2 x7)
end
def crosstreeref15_spread.f (k : Nat) (a0 : Int) (l1 : List (S33)) (l2 : List Bool) : Option (List Bool) := crosstreeref15_spread.l0 k a0 l1 l2 true
theorem crosstreeref15_spread.mono_l : ∀ k, (∀ y0 y1 y2 y3, LeO (crosstreeref15_spread.l0 k y0 y1 y2 y3) (crosstreeref15_spread.l0 (k + 1) y0 y1 y2 y3)) ∧ (∀ y0 y1 y2 y3 y4, LeO (crosstreeref15_spread.l1 k y0 y1 y2 y3 y4) (crosstreeref15_spread.l1 (k + 1) y0 y1 y2 y3 y4))
  | 0 => ⟨fun _ _ _ _ r h => by simp [crosstreeref15_spread.l0] at h, fun _ _ _ _ _ r h => by simp [crosstreeref15_spread.l1] at h⟩
  | k + 1 => by
    obtain ⟨ih0, ih1⟩ := crosstreeref15_spread.mono_l k
    refine ⟨?_, ?_⟩
    · intro y0 y1 y2 y3
      unfold crosstreeref15_spread.l0
      repeat' first
      | (with_reducible exact ih0 _ _ _ _)
      | (with_reducible exact ih1 _ _ _ _ _)
      | (with_reducible exact LeO.refl _)
      | (with_reducible exact LeO.none _)
      | (with_reducible refine LeO.ite ?_ ?_)
      | (with_reducible refine LeO.bind ?_ (fun _ => ?_))
      | exact ih0 _ _ _ _
      | exact ih1 _ _ _ _ _
      | exact LeO.none _
      | refine LeO.ite ?_ ?_
      | refine LeO.bind ?_ (fun _ => ?_)
    · intro y0 y1 y2 y3 y4
      unfold crosstreeref15_spread.l1
      repeat' first
      | (with_reducible exact ih0 _ _ _ _)
      | (with_reducible exact ih1 _ _ _ _ _)
      | (with_reducible exact LeO.refl _)
      | (with_reducible exact LeO.none _)
      | (with_reducible refine LeO.ite ?_ ?_)
      | (with_reducible refine LeO.bind ?_ (fun _ => ?_))
      | exact ih0 _ _ _ _
      | exact ih1 _ _ _ _ _
      | exact LeO.none _
      | refine LeO.ite ?_ ?_
      | refine LeO.bind ?_ (fun _ => ?_)
theorem crosstreeref15_spread.mono : ∀ a0 a1 a2 k, LeO (crosstreeref15_spread.f k a0 a1 a2) (crosstreeref15_spread.f (k + 1) a0 a1 a2) := by
  intro a0 a1 a2 k
  obtain ⟨ih0, ih1⟩ := crosstreeref15_spread.mono_l k
  unfold crosstreeref15_spread.f
  repeat' first
      | (with_reducible exact ih0 _ _ _ _)
      | (with_reducible exact ih1 _ _ _ _ _)
      | (with_reducible exact LeO.refl _)
      | (with_reducible exact LeO.none _)
      | (with_reducible refine LeO.ite ?_ ?_)
      | (with_reducible refine LeO.bind ?_ (fun _ => ?_))
      | exact ih0 _ _ _ _
      | exact ih1 _ _ _ _ _
      | exact LeO.none _
      | refine LeO.ite ?_ ?_
      | refine LeO.bind ?_ (fun _ => ?_)
set_option maxHeartbeats 8000000 in
set_option maxRecDepth 100000 in
theorem crosstreeref15_spread.calls (k : Nat) (a0 : Int) (A1 : Option Addr) (c1 : Nat) (l1 : List (S33)) (P2_ : Nat → Prop) (u9000_ : Value) (l2 : List Bool) (r : List Bool) (w0 w : World) (hB : Below w0.heap.size w0 w) (hr1 : ∀ W_, Kept w W_ (fun k_ => P2_ k_) → Kd.C k33 W_ A1 l1.length l1) (hc1 : l1.length ≤ c1) (ho2 : Kd.R Kd.bool 4 w w0.heap.size P2_ u9000_ l2) (h : crosstreeref15_spread.f k a0 l1 l2 = some r) :
    Calls Try.prog 26 #[.int .i64 a0, .slice A1 l1.length c1, u9000_] w fun e w' => ∃ v0_ : Value, e = .returned (v0_) ∧ Kd.R Kd.bool 4 w' w0.heap.size (fun k_ => (P2_ k_ ∨ w.heap.size ≤ k_)) v0_ r ∧ Below w0.heap.size w0 w' ∧ Kept w w' (fun k_ => P2_ k_) := by
  have HR1 := Aside0.mk hr1
  have HC1 := Aside0.mk hc1
  clear hr1 hc1
  have HO2 := Aside0.mk (show Kd.R Kd.bool 4 w w0.heap.size (fun k_ => (P2_ k_ ∨ w.heap.size ≤ k_)) u9000_ l2 from Kd.R_mono ho2 (fun k_ hk => (.inl hk)))
  have HK := Aside0.mk (Kept.refl w (fun k_ => P2_ k_))
  have HW0 := Aside0.mk hB.size
  have HB := Aside0.mk hB
  clear hB
  have H : (crosstreeref15_spread.l0 k a0 l1 l2 true) = some r := h
  clear h
  have H' := Aside0.mk H
  clear H
  go_enter Try.func26, Try.ntmps26
  go_wp2
  go_loopg [7] k (fun kq v7 w' => ∃ (x2_1 : List Bool) (x7_1 : Bool), v7 = .bool x7_1 ∧ Aside0 (crosstreeref15_spread.l0 kq a0 l1 x2_1 x7_1 = some r) ∧ Aside0 (kq ≤ k) ∧ Aside0 (Kd.R Kd.bool 4 w' w0.heap.size (fun k_ => (P2_ k_ ∨ w.heap.size ≤ k_)) u9000_ x2_1) ∧ Aside0 (Kept w w' (fun k_ => P2_ k_)) ∧ Aside0 (Below w0.heap.size w0 w'))
  case atStart => exact ⟨(l2), (true), (by first | rfl | (simp; done) | (simp [*]; done)), H', ⟨Nat.le_refl _⟩, ⟨by (with_reducible repeat (first | apply Kd.R_alloc | apply Kd.R_drewN | apply Kd.R_drew)); exact HO2.out⟩, ⟨by repeat (first | (with_reducible first | exact HK.out | apply Kept.alloc | apply Kept.drewN | apply Kept.drew) | exact HK.out)⟩, ⟨by repeat (first | (with_reducible first | exact HB.out | apply below_alloc | apply pw_below_drewN | apply below_drew1) | exact HB.out)⟩⟩
  case round =>
    clear H'
    try clear c1
    try clear c2
    try clear p2
    obtain ⟨x2_1, x7_1, rfl, HA, HK1, HO_2, HK, HB⟩ := hrel
    cases gk with
    | zero => exact absurd HA.out (by simp [crosstreeref15_spread.l0])
    | succ k1 =>
      have H := HA.out
      clear HA
      simp only [crosstreeref15_spread.l0] at H
      by_cases c4 : x7_1 = true
      · subst c4
        have H1 : (crosstreeref15_spread.l1 k1 a0 l1 x2_1 false 0) = some r := by rw [if_pos rfl] at H; exact H
        clear H
        have H := H1
        clear H1
        have H' := Aside0.mk H
        clear H
        go_wp2
        go_loopg [7, 8] k1 (fun kq v7 v8 w' => ∃ (x2_2 : List Bool) (x7_2 : Bool) (x8_2 : Int), v7 = .bool x7_2 ∧ v8 = .int .i64 x8_2 ∧ Aside0 (crosstreeref15_spread.l1 kq a0 l1 x2_2 x7_2 x8_2 = some r) ∧ Aside0 (kq ≤ k1) ∧ Aside0 (Kd.R Kd.bool 4 w' w0.heap.size (fun k_ => (P2_ k_ ∨ w.heap.size ≤ k_)) u9000_ x2_2) ∧ Aside0 (Kept w w' (fun k_ => P2_ k_)) ∧ Aside0 (Below w0.heap.size w0 w'))
        case atStart => exact ⟨(x2_1), (false), (0), (by first | rfl | (simp; done) | (simp [*]; done)), (by first | rfl | (simp; done) | (simp [*]; done)), H', ⟨Nat.le_refl _⟩, ⟨by (with_reducible repeat (first | apply Kd.R_alloc | apply Kd.R_drewN | apply Kd.R_drew)); exact HO_2.out⟩, ⟨by repeat (first | (with_reducible first | exact HK.out | apply Kept.alloc | apply Kept.drewN | apply Kept.drew) | exact HK.out)⟩, ⟨by repeat (first | (with_reducible first | exact HB.out | apply below_alloc | apply pw_below_drewN | apply below_drew1) | exact HB.out)⟩⟩
        case round =>
          clear H'
          try clear c1
          try clear c2
          try clear p2
          try clear c4
          try clear p2
          obtain ⟨x2_2, x7_2, x8_2, rfl, rfl, HA, HK2, HO_2, HK, HB⟩ := hrel
          cases gk with
          | zero => exact absurd HA.out (by simp [crosstreeref15_spread.l1])
          | succ k2 =>
            have H := HA.out
            clear HA
            simp only [crosstreeref15_spread.l1] at H
            by_cases c5 : x8_2 < (l1.length : Int)
            · rw [if_pos c5] at H
              have c5b0 : decide (x8_2 < (l1.length : Int)) = true := decide_eq_true c5
              clear c5
              by_cases c6 : 0 ≤ x8_2
              · rw [if_pos c6] at H
                have c6b0 : decide (0 ≤ x8_2) = true := decide_eq_true c6
                clear c6
                by_cases c7 : ((rd_T33 l1 x8_2).f0) ≥ 0
                · rw [if_pos c7] at H
                  have c7b0 : decide (0 ≤ ((rd_T33 l1 x8_2).f0)) = true := decide_eq_true c7
                  clear c7
                  by_cases c8 : ((rd_T33 l1 x8_2).f0) < a0
                  · rw [if_pos c8] at H
                    have c8b0 : decide (((rd_T33 l1 x8_2).f0) < a0) = true := decide_eq_true c8
                    clear c8
                    by_cases c9 : ((rd_T33 l1 x8_2).f2) ≥ 0
                    · rw [if_pos c9] at H
                      have c9b0 : decide (0 ≤ ((rd_T33 l1 x8_2).f2)) = true := decide_eq_true c9
                      clear c9
                      by_cases c10 : ((rd_T33 l1 x8_2).f2) < a0
                      · rw [if_pos c10] at H
                        have c10b0 : decide (((rd_T33 l1 x8_2).f2) < a0) = true := decide_eq_true c10
                        clear c10
                        by_cases c11 : 0 ≤ ((rd_T33 l1 x8_2).f0)
                        · rw [if_pos c11] at H
                          have c11b0 : decide (0 ≤ ((rd_T33 l1 x8_2).f0)) = true := decide_eq_true c11
                          clear c11
                          by_cases c12 : ((rd_T33 l1 x8_2).f0) < (x2_2.length : Int)
                          · rw [if_pos c12] at H
                            have c12b0 : decide (((rd_T33 l1 x8_2).f0) < (x2_2.length : Int)) = true := decide_eq_true c12
                            clear c12
                            obtain ⟨bq13, hbq13⟩ : ∃ b_ : Bool, b_ = (rdOf false x2_2 ((rd_T33 l1 x8_2).f0)) := ⟨_, rfl⟩
                            replace H : (if bq13 = true then (if 0 ≤ ((rd_T33 l1 x8_2).f2) then (if ((rd_T33 l1 x8_2).f2) < (x2_2.length : Int) then (if (rdOf false x2_2 ((rd_T33 l1 x8_2).f2) = true) then (crosstreeref15_spread.l1 k2 a0 l1 x2_2 x7_2 (wrap64 (x8_2 + 1))) else (crosstreeref15_spread.l1 k2 a0 l1 (x2_2.set (((rd_T33 l1 x8_2).f2) : Int).toNat true) true (wrap64 (x8_2 + 1)))) else (none)) else (none)) else (crosstreeref15_spread.l1 k2 a0 l1 x2_2 x7_2 (wrap64 (x8_2 + 1)))) = some r := by rw [← hbq13] at H; exact H
                            have Nbq13 := Aside0.mk hbq13
                            clear hbq13
                            by_cases c14 : bq13 = true
                            · subst c14
                              have H1 : (if 0 ≤ ((rd_T33 l1 x8_2).f2) then (if ((rd_T33 l1 x8_2).f2) < (x2_2.length : Int) then (if (rdOf false x2_2 ((rd_T33 l1 x8_2).f2) = true) then (crosstreeref15_spread.l1 k2 a0 l1 x2_2 x7_2 (wrap64 (x8_2 + 1))) else (crosstreeref15_spread.l1 k2 a0 l1 (x2_2.set (((rd_T33 l1 x8_2).f2) : Int).toNat true) true (wrap64 (x8_2 + 1)))) else (none)) else (none)) = some r := by rw [if_pos rfl] at H; exact H
                              clear H
                              have H := H1
                              clear H1
                              by_cases c15 : 0 ≤ ((rd_T33 l1 x8_2).f2)
                              · rw [if_pos c15] at H
                                have c15b0 : decide (0 ≤ ((rd_T33 l1 x8_2).f2)) = true := decide_eq_true c15
                                clear c15
                                by_cases c16 : ((rd_T33 l1 x8_2).f2) < (x2_2.length : Int)
                                · rw [if_pos c16] at H
                                  have c16b0 : decide (((rd_T33 l1 x8_2).f2) < (x2_2.length : Int)) = true := decide_eq_true c16
                                  clear c16
                                  obtain ⟨bq17, hbq17⟩ : ∃ b_ : Bool, b_ = (rdOf false x2_2 ((rd_T33 l1 x8_2).f2)) := ⟨_, rfl⟩
                                  replace H : (if (bq17 = true) then (crosstreeref15_spread.l1 k2 a0 l1 x2_2 x7_2 (wrap64 (x8_2 + 1))) else (crosstreeref15_spread.l1 k2 a0 l1 (x2_2.set (((rd_T33 l1 x8_2).f2) : Int).toNat true) true (wrap64 (x8_2 + 1)))) = some r := by rw [← hbq17] at H; exact H
                                  have Nbq17 := Aside0.mk hbq17
                                  clear hbq17
                                  by_cases c18 : (bq17 = true)
                                  · subst c18
                                    have H1 : (crosstreeref15_spread.l1 k2 a0 l1 x2_2 x7_2 (wrap64 (x8_2 + 1))) = some r := by rw [if_pos rfl] at H; exact H
                                    clear H
                                    have H := H1
                                    clear H1
                                    have H' := Aside0.mk H
                                    clear H
                                    have p251 : 0 ≤ (x8_2 : Int) := of_decide_eq_true (by first | (with_reducible assumption) | assumption)
                                    have q251 : x8_2 < (l1.length : Int) := of_decide_eq_true (by first | (with_reducible assumption) | assumption)
                                    obtain ⟨ad251, e251, hx251_0, hx251_1, hx251_2⟩ := at_T33 (Kd.C_kept_now HR1.out HK.out) x8_2 p251 q251
                                    cases e251
                                    replace p251 := eq_true p251
                                    replace q251 := eq_true q251
                                    have p252 : 0 ≤ (x8_2 : Int) := of_decide_eq_true (by first | (with_reducible assumption) | assumption)
                                    have q252 : x8_2 < (l1.length : Int) := of_decide_eq_true (by first | (with_reducible assumption) | assumption)
                                    obtain ⟨ad252, e252, hx252_0, hx252_1, hx252_2⟩ := at_T33 (Kd.C_kept_now HR1.out HK.out) x8_2 p252 q252
                                    obtain rfl : ad251 = ad252 := (by injection e252)
                                    replace p252 := eq_true p252
                                    replace q252 := eq_true q252
                                    obtain ⟨Ao19, co19, eo19⟩ := Kd.R_slice HO_2.out
                                    subst eo19
                                    have p253 : 0 ≤ (((rd_T33 l1 x8_2).f0) : Int) := of_decide_eq_true (by first | (with_reducible assumption) | assumption)
                                    have q253 : ((rd_T33 l1 x8_2).f0) < (x2_2.length : Int) := of_decide_eq_true (by first | (with_reducible assumption) | assumption)
                                    obtain ⟨ad253, e253, hx253_0⟩ := Kd.at_bool (Kd.R_reads' HO_2.out).2.2 ((rd_T33 l1 x8_2).f0) p253 q253
                                    (try rw [← Nbq13.out] at hx253_0)
                                    (try rw [← Nbq17.out] at hx253_0)
                                    cases e253
                                    replace p253 := eq_true p253
                                    replace q253 := eq_true q253
                                    have p254 : 0 ≤ (((rd_T33 l1 x8_2).f2) : Int) := of_decide_eq_true (by first | (with_reducible assumption) | assumption)
                                    have q254 : ((rd_T33 l1 x8_2).f2) < (x2_2.length : Int) := of_decide_eq_true (by first | (with_reducible assumption) | assumption)
                                    obtain ⟨ad254, e254, hx254_0⟩ := Kd.at_bool (Kd.R_reads' HO_2.out).2.2 ((rd_T33 l1 x8_2).f2) p254 q254
                                    (try rw [← Nbq13.out] at hx254_0)
                                    (try rw [← Nbq17.out] at hx254_0)
                                    obtain rfl : ad253 = ad254 := (by injection e254)
                                    replace p254 := eq_true p254
                                    replace q254 := eq_true q254
                                    go_wp2
                                    go_roundg k2
                                    case measure => have := HK1.out; have := HK2.out; omega
                                    case rel => exact ⟨(x2_2), (x7_2), (wrap64 (x8_2 + 1)), (by first | rfl | (simp; done) | (simp [*]; done)), (by first | rfl | (simp; done) | (simp [*]; done)), H', ⟨by have := HK1.out; have := HK2.out; omega⟩, ⟨by (with_reducible repeat (first | apply Kd.R_alloc | apply Kd.R_drewN | apply Kd.R_drew)); exact HO_2.out⟩, ⟨by repeat (first | (with_reducible first | exact HK.out | apply Kept.alloc | apply Kept.drewN | apply Kept.drew) | exact HK.out)⟩, ⟨by repeat (first | (with_reducible first | exact HB.out | apply below_alloc | apply pw_below_drewN | apply below_drew1) | exact HB.out)⟩⟩
                                  · replace c18 := Bool.eq_false_iff.mpr c18
                                    subst c18
                                    have H1 : (crosstreeref15_spread.l1 k2 a0 l1 (x2_2.set (((rd_T33 l1 x8_2).f2) : Int).toNat true) true (wrap64 (x8_2 + 1))) = some r := by rw [if_neg (show ¬ (false = true) by decide)] at H; exact H
                                    clear H
                                    have H := H1
                                    clear H1
                                    obtain ⟨y255, hy255⟩ : ∃ y_ : List Bool, y_ = (x2_2.set (((rd_T33 l1 x8_2).f2) : Int).toNat true) := ⟨_, rfl⟩
                                    replace H : (crosstreeref15_spread.l1 k2 a0 l1 y255 true (wrap64 (x8_2 + 1))) = some r := by first | (rw [hy255]; with_reducible exact H) | (have H2_ := (Option.bind_some _ _).symm.trans H; rw [hy255]; with_reducible exact H2_) | (have H2_ := (Option.bind_some _ _).symm.trans H; with_reducible exact H2_) | with_reducible exact H | (rw [hy255]; exact H) | exact H
                                    have Ny255 := Aside0.mk hy255
                                    clear hy255
                                    have H' := Aside0.mk H
                                    clear H
                                    have p251 : 0 ≤ (x8_2 : Int) := of_decide_eq_true (by first | (with_reducible assumption) | assumption)
                                    have q251 : x8_2 < (l1.length : Int) := of_decide_eq_true (by first | (with_reducible assumption) | assumption)
                                    obtain ⟨ad251, e251, hx251_0, hx251_1, hx251_2⟩ := at_T33 (Kd.C_kept_now HR1.out HK.out) x8_2 p251 q251
                                    cases e251
                                    replace p251 := eq_true p251
                                    replace q251 := eq_true q251
                                    have p252 : 0 ≤ (x8_2 : Int) := of_decide_eq_true (by first | (with_reducible assumption) | assumption)
                                    have q252 : x8_2 < (l1.length : Int) := of_decide_eq_true (by first | (with_reducible assumption) | assumption)
                                    obtain ⟨ad252, e252, hx252_0, hx252_1, hx252_2⟩ := at_T33 (Kd.C_kept_now HR1.out HK.out) x8_2 p252 q252
                                    obtain rfl : ad251 = ad252 := (by injection e252)
                                    replace p252 := eq_true p252
                                    replace q252 := eq_true q252
                                    obtain ⟨Ao21, co21, eo21⟩ := Kd.R_slice HO_2.out
                                    subst eo21
                                    have p253 : 0 ≤ (((rd_T33 l1 x8_2).f0) : Int) := of_decide_eq_true (by first | (with_reducible assumption) | assumption)
                                    have q253 : ((rd_T33 l1 x8_2).f0) < (x2_2.length : Int) := of_decide_eq_true (by first | (with_reducible assumption) | assumption)
                                    obtain ⟨ad253, e253, hx253_0⟩ := Kd.at_bool (Kd.R_reads' HO_2.out).2.2 ((rd_T33 l1 x8_2).f0) p253 q253
                                    (try rw [← Nbq13.out] at hx253_0)
                                    (try rw [← Nbq17.out] at hx253_0)
                                    cases e253
                                    replace p253 := eq_true p253
                                    replace q253 := eq_true q253
                                    have p254 : 0 ≤ (((rd_T33 l1 x8_2).f2) : Int) := of_decide_eq_true (by first | (with_reducible assumption) | assumption)
                                    have q254 : ((rd_T33 l1 x8_2).f2) < (x2_2.length : Int) := of_decide_eq_true (by first | (with_reducible assumption) | assumption)
                                    obtain ⟨ad254, e254, hx254_0⟩ := Kd.at_bool (Kd.R_reads' HO_2.out).2.2 ((rd_T33 l1 x8_2).f2) p254 q254
                                    (try rw [← Nbq13.out] at hx254_0)
                                    (try rw [← Nbq17.out] at hx254_0)
                                    obtain rfl : ad253 = ad254 := (by injection e254)
                                    replace p254 := eq_true p254
                                    replace q254 := eq_true q254
                                    have p20 : 0 ≤ (((rd_T33 l1 x8_2).f2) : Int) := of_decide_eq_true (by first | (with_reducible assumption) | assumption)
                                    have q20 : (((rd_T33 l1 x8_2).f2) : Int) < ((x2_2.length : Int) : Int) := of_decide_eq_true (by first | (with_reducible assumption) | assumption)
                                    obtain ⟨go20, co20, eo20, gb20, gl20, cl20, HG20⟩ := Kd.R_form HO_2.out (by omega)
                                    (first | cases eo20 | (injection eo20 with ea_ en_ ec_; (first | subst ea_ | (injection ea_ with ea_; subst ea_)); subst ec_; clear en_))
                                    have GB20 := Aside0.mk gb20
                                    have GG20 := Aside0.mk HG20
                                    clear gb20 gl20 HG20
                                    have HMgo20 := Aside0.mk (show (P2_ go20 ∨ w.heap.size ≤ go20) from (HO_2.out.1 _ rfl))
                                    (first | simp only [add_plain] at hx253_0 | skip)
                                    (first | simp only [add_plain] at hx254_0 | skip)
                                    obtain ⟨hx20_0, hf20_0⟩ := Kd.R_celln false HO_2.out (((rd_T33 l1 x8_2).f2) : Int) p20 q20
                                    replace p20 := eq_true p20
                                    replace q20 := eq_true q20
                                    have HP22 := Kd.R_putg HO_2.out (((rd_T33 l1 x8_2).f2) : Int) true
                                    go_wp2_with (first | ((with_reducible refine gate_store (t := 4) (p := 59) rfl ?_); refine store_event (t := 4) (p := 59) (v := ?vo_w23) (w1 := (wr.setCell ⟨go20, (((rd_T33 l1 x8_2).f2) : Int).toNat, none⟩ (.bool true))) ?hg ?ho ?hn ?hr ?_; (case ho => rfl); (case hg => rfl); (case hn => rfl); (case hr => first | (go_simp; done) | (go_simp; rfl)); intro w23 hw; have hg : wr.grownBy w23 (some go20) := (by rw [hw]; exact HP22.2); have hp_ : Kd.R Kd.bool 4 w23 w0.heap.size (fun k_ => (P2_ k_ ∨ w.heap.size ≤ k_)) (.slice (some ⟨go20, 0, none⟩) x2_2.length co21) y255 := (by rw [hw, Ny255.out]; exact HP22.1); clear HP22; have n0_ := Aside0.mk (hp_); have n1_ := Aside0.mk ((by rw [hw]; exact below_set (HB.out) GB20.out : Below w0.heap.size w0 w23)); have n2_ := Aside0.mk (Kept.of_grown (S := (fun k_ => P2_ k_)) hg (by repeat (first | (with_reducible first | exact HK.out | apply Kept.alloc | apply Kept.drewN | apply Kept.drew) | exact HK.out)) (fun k_ e_ => (HO_2.out.1 k_ e_))); clear HO_2; clear HB; clear HK; have HO_2 := n0_; have HB := n1_; have HK := n2_; clear n0_ n1_ n2_; clear hg hw hp_))
                                    go_roundg k2
                                    case measure => have := HK1.out; have := HK2.out; omega
                                    case rel => exact ⟨(y255), (true), (wrap64 (x8_2 + 1)), (by first | rfl | (simp; done) | (simp [*]; done)), (by first | rfl | (simp; done) | (simp [*]; done)), H', ⟨by have := HK1.out; have := HK2.out; omega⟩, ⟨by (with_reducible repeat (first | apply Kd.R_alloc | apply Kd.R_drewN | apply Kd.R_drew)); exact HO_2.out⟩, ⟨by repeat (first | (with_reducible first | exact HK.out | apply Kept.alloc | apply Kept.drewN | apply Kept.drew) | exact HK.out)⟩, ⟨by repeat (first | (with_reducible first | exact HB.out | apply below_alloc | apply pw_below_drewN | apply below_drew1) | exact HB.out)⟩⟩
                                · rw [if_neg c16] at H
                                  exact absurd H (by simp)
                              · rw [if_neg c15] at H
                                exact absurd H (by simp)
                            · replace c14 := Bool.eq_false_iff.mpr c14
                              subst c14
                              have H1 : (crosstreeref15_spread.l1 k2 a0 l1 x2_2 x7_2 (wrap64 (x8_2 + 1))) = some r := by rw [if_neg (show ¬ (false = true) by decide)] at H; exact H
                              clear H
                              have H := H1
                              clear H1
                              have H' := Aside0.mk H
                              clear H
                              have p251 : 0 ≤ (x8_2 : Int) := of_decide_eq_true (by first | (with_reducible assumption) | assumption)
                              have q251 : x8_2 < (l1.length : Int) := of_decide_eq_true (by first | (with_reducible assumption) | assumption)
                              obtain ⟨ad251, e251, hx251_0, hx251_1, hx251_2⟩ := at_T33 (Kd.C_kept_now HR1.out HK.out) x8_2 p251 q251
                              cases e251
                              replace p251 := eq_true p251
                              replace q251 := eq_true q251
                              have p252 : 0 ≤ (x8_2 : Int) := of_decide_eq_true (by first | (with_reducible assumption) | assumption)
                              have q252 : x8_2 < (l1.length : Int) := of_decide_eq_true (by first | (with_reducible assumption) | assumption)
                              obtain ⟨ad252, e252, hx252_0, hx252_1, hx252_2⟩ := at_T33 (Kd.C_kept_now HR1.out HK.out) x8_2 p252 q252
                              obtain rfl : ad251 = ad252 := (by injection e252)
                              replace p252 := eq_true p252
                              replace q252 := eq_true q252
                              obtain ⟨Ao24, co24, eo24⟩ := Kd.R_slice HO_2.out
                              subst eo24
                              have p253 : 0 ≤ (((rd_T33 l1 x8_2).f0) : Int) := of_decide_eq_true (by first | (with_reducible assumption) | assumption)
                              have q253 : ((rd_T33 l1 x8_2).f0) < (x2_2.length : Int) := of_decide_eq_true (by first | (with_reducible assumption) | assumption)
                              obtain ⟨ad253, e253, hx253_0⟩ := Kd.at_bool (Kd.R_reads' HO_2.out).2.2 ((rd_T33 l1 x8_2).f0) p253 q253
                              (try rw [← Nbq13.out] at hx253_0)
                              cases e253
                              replace p253 := eq_true p253
                              replace q253 := eq_true q253
                              go_wp2
                              go_roundg k2
                              case measure => have := HK1.out; have := HK2.out; omega
                              case rel => exact ⟨(x2_2), (x7_2), (wrap64 (x8_2 + 1)), (by first | rfl | (simp; done) | (simp [*]; done)), (by first | rfl | (simp; done) | (simp [*]; done)), H', ⟨by have := HK1.out; have := HK2.out; omega⟩, ⟨by (with_reducible repeat (first | apply Kd.R_alloc | apply Kd.R_drewN | apply Kd.R_drew)); exact HO_2.out⟩, ⟨by repeat (first | (with_reducible first | exact HK.out | apply Kept.alloc | apply Kept.drewN | apply Kept.drew) | exact HK.out)⟩, ⟨by repeat (first | (with_reducible first | exact HB.out | apply below_alloc | apply pw_below_drewN | apply below_drew1) | exact HB.out)⟩⟩
                          · rw [if_neg c12] at H
                            exact absurd H (by simp)
                        · rw [if_neg c11] at H
                          exact absurd H (by simp)
                      · rw [if_neg c10] at H
                        have c10b0 : decide (((rd_T33 l1 x8_2).f2) < a0) = false := decide_eq_false c10
                        clear c10
                        have H' := Aside0.mk H
                        clear H
                        have p251 : 0 ≤ (x8_2 : Int) := of_decide_eq_true (by first | (with_reducible assumption) | assumption)
                        have q251 : x8_2 < (l1.length : Int) := of_decide_eq_true (by first | (with_reducible assumption) | assumption)
                        obtain ⟨ad251, e251, hx251_0, hx251_1, hx251_2⟩ := at_T33 (Kd.C_kept_now HR1.out HK.out) x8_2 p251 q251
                        cases e251
                        replace p251 := eq_true p251
                        replace q251 := eq_true q251
                        have p252 : 0 ≤ (x8_2 : Int) := of_decide_eq_true (by first | (with_reducible assumption) | assumption)
                        have q252 : x8_2 < (l1.length : Int) := of_decide_eq_true (by first | (with_reducible assumption) | assumption)
                        obtain ⟨ad252, e252, hx252_0, hx252_1, hx252_2⟩ := at_T33 (Kd.C_kept_now HR1.out HK.out) x8_2 p252 q252
                        obtain rfl : ad251 = ad252 := (by injection e252)
                        replace p252 := eq_true p252
                        replace q252 := eq_true q252
                        go_wp2
                        go_roundg k2
                        case measure => have := HK1.out; have := HK2.out; omega
                        case rel => exact ⟨(x2_2), (x7_2), (wrap64 (x8_2 + 1)), (by first | rfl | (simp; done) | (simp [*]; done)), (by first | rfl | (simp; done) | (simp [*]; done)), H', ⟨by have := HK1.out; have := HK2.out; omega⟩, ⟨by (with_reducible repeat (first | apply Kd.R_alloc | apply Kd.R_drewN | apply Kd.R_drew)); exact HO_2.out⟩, ⟨by repeat (first | (with_reducible first | exact HK.out | apply Kept.alloc | apply Kept.drewN | apply Kept.drew) | exact HK.out)⟩, ⟨by repeat (first | (with_reducible first | exact HB.out | apply below_alloc | apply pw_below_drewN | apply below_drew1) | exact HB.out)⟩⟩
                    · rw [if_neg c9] at H
                      have c9b0 : decide (0 ≤ ((rd_T33 l1 x8_2).f2)) = false := decide_eq_false c9
                      clear c9
                      have H' := Aside0.mk H
                      clear H
                      have p251 : 0 ≤ (x8_2 : Int) := of_decide_eq_true (by first | (with_reducible assumption) | assumption)
                      have q251 : x8_2 < (l1.length : Int) := of_decide_eq_true (by first | (with_reducible assumption) | assumption)
                      obtain ⟨ad251, e251, hx251_0, hx251_1, hx251_2⟩ := at_T33 (Kd.C_kept_now HR1.out HK.out) x8_2 p251 q251
                      cases e251
                      replace p251 := eq_true p251
                      replace q251 := eq_true q251
                      have p252 : 0 ≤ (x8_2 : Int) := of_decide_eq_true (by first | (with_reducible assumption) | assumption)
                      have q252 : x8_2 < (l1.length : Int) := of_decide_eq_true (by first | (with_reducible assumption) | assumption)
                      obtain ⟨ad252, e252, hx252_0, hx252_1, hx252_2⟩ := at_T33 (Kd.C_kept_now HR1.out HK.out) x8_2 p252 q252
                      obtain rfl : ad251 = ad252 := (by injection e252)
                      replace p252 := eq_true p252
                      replace q252 := eq_true q252
                      go_wp2
                      go_roundg k2
                      case measure => have := HK1.out; have := HK2.out; omega
                      case rel => exact ⟨(x2_2), (x7_2), (wrap64 (x8_2 + 1)), (by first | rfl | (simp; done) | (simp [*]; done)), (by first | rfl | (simp; done) | (simp [*]; done)), H', ⟨by have := HK1.out; have := HK2.out; omega⟩, ⟨by (with_reducible repeat (first | apply Kd.R_alloc | apply Kd.R_drewN | apply Kd.R_drew)); exact HO_2.out⟩, ⟨by repeat (first | (with_reducible first | exact HK.out | apply Kept.alloc | apply Kept.drewN | apply Kept.drew) | exact HK.out)⟩, ⟨by repeat (first | (with_reducible first | exact HB.out | apply below_alloc | apply pw_below_drewN | apply below_drew1) | exact HB.out)⟩⟩
                  · rw [if_neg c8] at H
                    have c8b0 : decide (((rd_T33 l1 x8_2).f0) < a0) = false := decide_eq_false c8
                    clear c8
                    have H' := Aside0.mk H
                    clear H
                    have p251 : 0 ≤ (x8_2 : Int) := of_decide_eq_true (by first | (with_reducible assumption) | assumption)
                    have q251 : x8_2 < (l1.length : Int) := of_decide_eq_true (by first | (with_reducible assumption) | assumption)
                    obtain ⟨ad251, e251, hx251_0, hx251_1, hx251_2⟩ := at_T33 (Kd.C_kept_now HR1.out HK.out) x8_2 p251 q251
                    cases e251
                    replace p251 := eq_true p251
                    replace q251 := eq_true q251
                    have p252 : 0 ≤ (x8_2 : Int) := of_decide_eq_true (by first | (with_reducible assumption) | assumption)
                    have q252 : x8_2 < (l1.length : Int) := of_decide_eq_true (by first | (with_reducible assumption) | assumption)
                    obtain ⟨ad252, e252, hx252_0, hx252_1, hx252_2⟩ := at_T33 (Kd.C_kept_now HR1.out HK.out) x8_2 p252 q252
                    obtain rfl : ad251 = ad252 := (by injection e252)
                    replace p252 := eq_true p252
                    replace q252 := eq_true q252
                    go_wp2
                    go_roundg k2
                    case measure => have := HK1.out; have := HK2.out; omega
                    case rel => exact ⟨(x2_2), (x7_2), (wrap64 (x8_2 + 1)), (by first | rfl | (simp; done) | (simp [*]; done)), (by first | rfl | (simp; done) | (simp [*]; done)), H', ⟨by have := HK1.out; have := HK2.out; omega⟩, ⟨by (with_reducible repeat (first | apply Kd.R_alloc | apply Kd.R_drewN | apply Kd.R_drew)); exact HO_2.out⟩, ⟨by repeat (first | (with_reducible first | exact HK.out | apply Kept.alloc | apply Kept.drewN | apply Kept.drew) | exact HK.out)⟩, ⟨by repeat (first | (with_reducible first | exact HB.out | apply below_alloc | apply pw_below_drewN | apply below_drew1) | exact HB.out)⟩⟩
                · rw [if_neg c7] at H
                  have c7b0 : decide (0 ≤ ((rd_T33 l1 x8_2).f0)) = false := decide_eq_false c7
                  clear c7
                  have H' := Aside0.mk H
                  clear H
                  have p251 : 0 ≤ (x8_2 : Int) := of_decide_eq_true (by first | (with_reducible assumption) | assumption)
                  have q251 : x8_2 < (l1.length : Int) := of_decide_eq_true (by first | (with_reducible assumption) | assumption)
                  obtain ⟨ad251, e251, hx251_0, hx251_1, hx251_2⟩ := at_T33 (Kd.C_kept_now HR1.out HK.out) x8_2 p251 q251
                  cases e251
                  replace p251 := eq_true p251
                  replace q251 := eq_true q251
                  have p252 : 0 ≤ (x8_2 : Int) := of_decide_eq_true (by first | (with_reducible assumption) | assumption)
                  have q252 : x8_2 < (l1.length : Int) := of_decide_eq_true (by first | (with_reducible assumption) | assumption)
                  obtain ⟨ad252, e252, hx252_0, hx252_1, hx252_2⟩ := at_T33 (Kd.C_kept_now HR1.out HK.out) x8_2 p252 q252
                  obtain rfl : ad251 = ad252 := (by injection e252)
                  replace p252 := eq_true p252
                  replace q252 := eq_true q252
                  go_wp2
                  go_roundg k2
                  case measure => have := HK1.out; have := HK2.out; omega
                  case rel => exact ⟨(x2_2), (x7_2), (wrap64 (x8_2 + 1)), (by first | rfl | (simp; done) | (simp [*]; done)), (by first | rfl | (simp; done) | (simp [*]; done)), H', ⟨by have := HK1.out; have := HK2.out; omega⟩, ⟨by (with_reducible repeat (first | apply Kd.R_alloc | apply Kd.R_drewN | apply Kd.R_drew)); exact HO_2.out⟩, ⟨by repeat (first | (with_reducible first | exact HK.out | apply Kept.alloc | apply Kept.drewN | apply Kept.drew) | exact HK.out)⟩, ⟨by repeat (first | (with_reducible first | exact HB.out | apply below_alloc | apply pw_below_drewN | apply below_drew1) | exact HB.out)⟩⟩
              · rw [if_neg c6] at H
                exact absurd H (by simp)
            · rw [if_neg c5] at H
              have c5b0 : decide (x8_2 < (l1.length : Int)) = false := decide_eq_false c5
              clear c5
              have H' := Aside0.mk H
              clear H
              go_wp2
              go_roundg k2
              case measure => have := HK1.out; have := HK2.out; omega
              case rel => exact ⟨(x2_2), (x7_2), (by first | rfl | (simp; done) | (simp [*]; done)), H', ⟨by have := HK1.out; have := HK2.out; omega⟩, ⟨by (with_reducible repeat (first | apply Kd.R_alloc | apply Kd.R_drewN | apply Kd.R_drew)); exact HO_2.out⟩, ⟨by repeat (first | (with_reducible first | exact HK.out | apply Kept.alloc | apply Kept.drewN | apply Kept.drew) | exact HK.out)⟩, ⟨by repeat (first | (with_reducible first | exact HB.out | apply below_alloc | apply pw_below_drewN | apply below_drew1) | exact HB.out)⟩⟩
      · replace c4 := Bool.eq_false_iff.mpr c4
        subst c4
        have H1 : (some x2_1) = some r := by rw [if_neg (show ¬ (false = true) by decide)] at H; exact H
        clear H
        have H := H1
        clear H1
        obtain rfl := Option.some.inj H
        go_wp2
        go_ret
        exact ⟨_, by first | rfl | (simp [errW_none, errW_some] <;> rfl) | (simp [*, errW_none, errW_some] <;> rfl), by (with_reducible repeat (first | apply Kd.R_alloc | apply Kd.R_drewN | apply Kd.R_drew)); exact HO_2.out, by repeat (first | (with_reducible first | exact HB.out | apply below_alloc | apply pw_below_drewN | apply below_drew1) | exact HB.out), by repeat (first | (with_reducible first | exact HK.out | apply Kept.alloc | apply Kept.drewN | apply Kept.drew) | exact HK.out)⟩

/-! ### crosstreeref15_Leads: function 23 -/
def crosstreeref15_Leads.f (k : Nat) (a0 : Int) (l1 : List (S33)) (a2 : Int) : Option (List Bool) := if 0 ≤ a0 then (if (a0 : Int).toNat ≤ 281474976710656 then ((some (List.replicate (a0 : Int).toNat false : List Bool)).bind fun y256 => (if 0 ≤ a2 then (if a2 < (y256.length : Int) then ((crosstreeref15_spread.f k a0 l1 (y256.set (a2 : Int).toNat true)).bind fun t260 => (some t260)) else (none)) else (none))) else (none)) else (none)
theorem crosstreeref15_Leads.mono : ∀ a0 a1 a2 k, LeO (crosstreeref15_Leads.f k a0 a1 a2) (crosstreeref15_Leads.f (k + 1) a0 a1 a2) := by
  intro a0 a1 a2 k
  unfold crosstreeref15_Leads.f
  repeat' first
      | (with_reducible exact crosstreeref15_spread.mono _ _ _ _)
      | (with_reducible exact LeO.refl _)
      | (with_reducible exact LeO.none _)
      | (with_reducible refine LeO.ite ?_ ?_)
      | (with_reducible refine LeO.bind ?_ (fun _ => ?_))
      | exact crosstreeref15_spread.mono _ _ _ _
      | exact LeO.none _
      | refine LeO.ite ?_ ?_
      | refine LeO.bind ?_ (fun _ => ?_)
set_option maxHeartbeats 8000000 in
set_option maxRecDepth 100000 in
theorem crosstreeref15_Leads.calls (k : Nat) (a0 : Int) (A1 : Option Addr) (c1 : Nat) (l1 : List (S33)) (a2 : Int) (r : List Bool) (w : World) (hr1 : Kd.C k33 w A1 l1.length l1) (hc1 : l1.length ≤ c1) (h : crosstreeref15_Leads.f k a0 l1 a2 = some r) :
    Calls Try.prog 23 #[.int .i64 a0, .slice A1 l1.length c1, .int .i64 a2] w fun e w' => ∃ v0_ : Value, e = .returned (v0_) ∧ Kd.R Kd.bool 4 w' w.heap.size (fun _ => True) v0_ r ∧ Below w.heap.size w w' := by
  have HR1 := Aside0.mk hr1
  have HC1 := Aside0.mk hc1
  clear hr1 hc1
  have HB := Aside0.mk (Below.refl w.heap.size w)
  have H : (if 0 ≤ a0 then (if (a0 : Int).toNat ≤ 281474976710656 then ((some (List.replicate (a0 : Int).toNat false : List Bool)).bind fun y256 => (if 0 ≤ a2 then (if a2 < (y256.length : Int) then ((crosstreeref15_spread.f k a0 l1 (y256.set (a2 : Int).toNat true)).bind fun t260 => (some t260)) else (none)) else (none))) else (none)) else (none)) = some r := h
  clear h
  by_cases c4 : 0 ≤ a0
  · rw [if_pos c4] at H
    have c4b0 := eq_true c4
    have c4b1 : decide (0 ≤ a0) = true := decide_eq_true c4
    clear c4
    by_cases c5 : (a0 : Int).toNat ≤ 281474976710656
    · rw [if_pos c5] at H
      have c5b0 := eq_true c5
      have c5b1 : decide ((a0 : Int).toNat ≤ 281474976710656) = true := decide_eq_true c5
      clear c5
      obtain ⟨y256, hy256⟩ : ∃ y_ : List Bool, y_ = (List.replicate (a0 : Int).toNat false) := ⟨_, rfl⟩
      replace H : (if 0 ≤ a2 then (if a2 < (y256.length : Int) then ((crosstreeref15_spread.f k a0 l1 (y256.set (a2 : Int).toNat true)).bind fun t260 => (some t260)) else (none)) else (none)) = some r := by first | (rw [hy256]; with_reducible exact H) | (have H2_ := (Option.bind_some _ _).symm.trans H; rw [hy256]; with_reducible exact H2_) | (have H2_ := (Option.bind_some _ _).symm.trans H; with_reducible exact H2_) | with_reducible exact H | (rw [hy256]; exact H) | exact H
      have Ny256 := Aside0.mk hy256
      clear hy256
      by_cases c6 : 0 ≤ a2
      · rw [if_pos c6] at H
        have c6b0 : decide (0 ≤ a2) = true := decide_eq_true c6
        clear c6
        by_cases c7 : a2 < (y256.length : Int)
        · rw [if_pos c7] at H
          have c7b0 : decide (a2 < (y256.length : Int)) = true := decide_eq_true c7
          clear c7
          obtain ⟨y259, hy259⟩ : ∃ y_ : List Bool, y_ = (y256.set (a2 : Int).toNat true) := ⟨_, rfl⟩
          replace H : ((crosstreeref15_spread.f k a0 l1 y259).bind fun t260 => (some t260)) = some r := by first | (rw [hy259]; with_reducible exact H) | (have H2_ := (Option.bind_some _ _).symm.trans H; rw [hy259]; with_reducible exact H2_) | (have H2_ := (Option.bind_some _ _).symm.trans H; with_reducible exact H2_) | with_reducible exact H | (rw [hy259]; exact H) | exact H
          have Ny259 := Aside0.mk hy259
          clear hy259
          replace H := Option.bind_eq_some_iff.mp H
          obtain ⟨t260, A90, H⟩ := H
          replace H : (some t260) = some r := H
          have A9 := Aside0.mk A90
          clear A90
          obtain rfl := Option.some.inj H
          go_enter Try.func23, Try.ntmps23
          go_wp2_with (first | ((with_reducible refine gate_dst (N := 9) rfl ?_); refine Kd.R_make Kd.bool _ 4 rfl (N := 9) rfl 39 _ _ rfl a0 rfl rfl Try.underlying39 (.bool false) 1 info4 rfl (by decide) (by omega) false (ok := fun _ => True) (okp := fun _ => True) rfl (fun _ hk => hk) trivial (of_decide_eq_true (by first | (with_reducible assumption) | assumption)) (Nat.le_trans (Nat.mul_le_mul_right _ (of_decide_eq_true (by first | (with_reducible assumption) | assumption) : a0.toNat ≤ 281474976710656)) (by omega)) (Below.refl _ _) (Nat.le_refl _) ?_; intro v257 w10 ho11 hb hg_ hnew_; clear hg_ hnew_; (first | rw [← Ny256.out] at ho11 | (simp only [Int.reduceToNat] at ho11; rw [← Ny256.out] at ho11)); have n0_ := Aside0.mk (Kd.R_lower ho11 (below_size (by repeat (first | (with_reducible first | exact HB.out | apply below_alloc | apply pw_below_drewN | apply below_drew1) | exact HB.out)))); have n1_ := Aside0.mk (below_step (by repeat (first | (with_reducible first | exact HB.out | apply below_alloc | apply pw_below_drewN | apply below_drew1) | exact HB.out)) hb); clear HB; have HO258 := n0_; have HB := n1_; clear n0_ n1_; clear hb ho11; have p8 : 0 ≤ (a2 : Int) := of_decide_eq_true (by first | (with_reducible assumption) | assumption); have q8 : (a2 : Int) < ((y256.length : Int) : Int) := of_decide_eq_true (by first | (with_reducible assumption) | assumption); obtain ⟨go8, co8, eo8, gb8, gl8, cl8, HG8⟩ := Kd.R_form HO258.out (by omega); (first | cases eo8 | (injection eo8 with ea_ en_ ec_; (first | subst ea_ | (injection ea_ with ea_; subst ea_)); subst ec_; clear en_)); have GB8 := Aside0.mk gb8; have GG8 := Aside0.mk HG8; clear gb8 gl8 HG8; obtain ⟨hx8_0, hf8_0⟩ := Kd.R_celln false HO258.out (a2 : Int) p8 q8; replace p8 := eq_true p8; replace q8 := eq_true q8; obtain ⟨hy12_, hz12_⟩ := Kd.R_celln false HO258.out (a2 : Int) (of_decide_eq_true (by first | (with_reducible assumption) | assumption)) (of_decide_eq_true (by first | (with_reducible assumption) | assumption)); have HP12 := Kd.R_putg HO258.out (a2 : Int) true) | ((with_reducible refine gate_store (t := 4) (p := 12) rfl ?_); refine store_event (t := 4) (p := 12) (v := ?vo_w13) (w1 := (w10.setCell ⟨go8, (a2 : Int).toNat, none⟩ (.bool true))) ?hg ?ho ?hn ?hr ?_; (case ho => rfl); (case hg => rfl); (case hn => rfl); (case hr => first | (go_simp; done) | (go_simp; rfl)); intro w13 hw; have hg : w10.grownBy w13 (some go8) := (by rw [hw]; exact HP12.2); have hp_ : Kd.R Kd.bool 4 w13 w.heap.size (fun _ => True) (.slice (some ⟨go8, 0, none⟩) y256.length co8) y259 := (by rw [hw, Ny259.out]; exact HP12.1); clear HP12; have n0_ := Aside0.mk (hp_); have n1_ := Aside0.mk ((by rw [hw]; exact below_set (HB.out) GB8.out : Below w.heap.size w w13)); clear HO258; clear HB; have HO258 := n0_; have HB := n1_; clear n0_ n1_; clear hg hw hp_) | ((with_reducible refine gate_callee (f := 26) rfl ?_); refine goesL_ (some 16) rfl rfl Try.func26 (by kernel_rfl) rfl #[.int .i64 a0, .slice A1 l1.length c1, .slice (some ⟨go8, 0, none⟩) y256.length co8] rfl (by (try simp only [List.map_toArray, List.map_cons, List.map_nil]); first | done | rfl | (simp only [List.length_drop, List.length_take]; rfl)) ?_; (with_reducible refine (crosstreeref15_spread.calls k a0 _ _ l1 (fun k_ => some k_ = (.slice (some ⟨go8, 0, none⟩) y256.length co8 : Value).ownBlock) (.slice (some ⟨go8, 0, none⟩) y256.length co8) y259 t260 w _ ?side1 ?side2 ?side3 ?side4 A9.out).mono ?_); (case side1 => repeat (first | (with_reducible first | exact HB.out | apply below_alloc | apply pw_below_drewN | apply below_drew1) | exact HB.out)); (case side2 => exact Kd.C_kept_came k33_heap HR1.out (by repeat (first | (with_reducible first | exact HB.out | apply below_alloc | apply pw_below_drewN | apply below_drew1) | exact HB.out)) (fun k_ hs_ => (fun e_ => Kd.R_base HO258.out k_ e_.symm) hs_)); (case side3 => exact HC1.out); (case side4 => exact Kd.R_tight rfl HO258.out); rintro e w14 ⟨v261, rfl, ho0, hb, hkp⟩; refine ⟨_, rfl, ?_⟩; have n0_ := Aside0.mk (Kd.R_mono (ok' := fun k_ => True) ho0 (fun k_ hk_ => trivial)); have n1_ := Aside0.mk (hb); clear HB; clear HO258; have HO262 := n0_; have HB := n1_; clear n0_ n1_; (try clear hb); (try clear hkp); (try clear ho0)))
          go_ret
          exact ⟨_, by first | rfl | (simp [errW_none, errW_some] <;> rfl) | (simp [*, errW_none, errW_some] <;> rfl), by (with_reducible repeat (first | apply Kd.R_alloc | apply Kd.R_drewN | apply Kd.R_drew)); exact HO262.out, by repeat (first | (with_reducible first | exact HB.out | apply below_alloc | apply pw_below_drewN | apply below_drew1) | exact HB.out)⟩
        · rw [if_neg c7] at H
          exact absurd H (by simp)
      · rw [if_neg c6] at H
        exact absurd H (by simp)
    · rw [if_neg c5] at H
      exact absurd H (by simp)
  · rw [if_neg c4] at H
    exact absurd H (by simp)

end Go.Proofs.Ytdobjmbfkdfdcaa.G
