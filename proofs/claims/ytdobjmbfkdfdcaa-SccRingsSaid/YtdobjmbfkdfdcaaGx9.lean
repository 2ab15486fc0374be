-- A print of Ytdobjmbfkdfdcaa: functions, their calls (by the kit's print.py, from a copy in scratch).
import Derived.Test.YtdobjmbfkdfdcaaGx0
import Derived.Test.YtdobjmbfkdfdcaaGx8
namespace Go.Proofs.Ytdobjmbfkdfdcaa.G
open Go.RowKit Go.Proofs.YtdobjmbfkdfdcaaW.PrintWords Go.Proofs.YtdobjmbfkdfdcaaW.PrintLast Go.Proofs.YtdobjmbfkdfdcaaW.PrintMore
attribute [local go_sem] max2_int min2_int max_two min_two max_three min_three max_four min_four   -- for this text's walks alone
set_option linter.unusedVariables false
set_option linter.unusedSimpArgs false

/-! ### crosstreeref15_Groups: function 13 -/
mutual
def crosstreeref15_Groups.l0 : Nat → Int → List (S33) → List (List Bool) → Int → Option (List Int)
  | 0, _, _, _, _ => none
  | k + 1, x0, x1, x5, x6 => if x6 < x0 then ((crosstreeref15_Leads.f k x0 x1 x6).bind fun t264 => (if x5.length < 5864062014805 then (crosstreeref15_Groups.l0 k x0 x1 (x5 ++ [t264]) (wrap64 (x6 + 1))) else (none))) else (crosstreeref15_Groups.l1 k x0 x5 ([] : List Int) 0)
def crosstreeref15_Groups.l1 : Nat → Int → List (List Bool) → List Int → Int → Option (List Int)
  | 0, _, _, _, _ => none
  | k + 1, x0, x5, x7, x8 => if x8 < x0 then (crosstreeref15_Groups.l2 k x0 x5 x7 x8 0) else (some x7)
def crosstreeref15_Groups.l2 : Nat → Int → List (List Bool) → List Int → Int → Int → Option (List Int)
  | 0, _, _, _, _, _ => none
  | k + 1, x0, x5, x7, x8, x9 => if 0 ≤ x8 then (if x8 < (x5.length : Int) then (if 0 ≤ x9 then (if x9 < ((rd_L4 x5 x8).length : Int) then (if (rdOf false (rd_L4 x5 x8) x9 = true) then (if x9 < (x5.length : Int) then (if x8 < ((rd_L4 x5 x9).length : Int) then (if (rdOf false (rd_L4 x5 x9) x8 = true) then (if x7.length < 17592186044416 then (crosstreeref15_Groups.l1 k x0 x5 (x7 ++ [x9]) (wrap64 (x8 + 1))) else (none)) else (crosstreeref15_Groups.l2 k x0 x5 x7 x8 (wrap64 (x9 + 1)))) else (none)) else (none)) else (crosstreeref15_Groups.l2 k x0 x5 x7 x8 (wrap64 (x9 + 1)))) else (none)) else (none)) else (none)) else (none)
end
def crosstreeref15_Groups.f (k : Nat) (a0 : Int) (l1 : List (S33)) : Option (List Int) := (crosstreeref15_size.f a0).bind fun t263 => (crosstreeref15_Groups.l0 k t263 l1 ([] : List (List Bool)) 0)
theorem crosstreeref15_Groups.mono_l : ∀ k, (∀ y0 y1 y2 y3, LeO (crosstreeref15_Groups.l0 k y0 y1 y2 y3) (crosstreeref15_Groups.l0 (k + 1) y0 y1 y2 y3)) ∧ (∀ y0 y1 y2 y3, LeO (crosstreeref15_Groups.l1 k y0 y1 y2 y3) (crosstreeref15_Groups.l1 (k + 1) y0 y1 y2 y3)) ∧ (∀ y0 y1 y2 y3 y4, LeO (crosstreeref15_Groups.l2 k y0 y1 y2 y3 y4) (crosstreeref15_Groups.l2 (k + 1) y0 y1 y2 y3 y4))
  | 0 => ⟨fun _ _ _ _ r h => by simp [crosstreeref15_Groups.l0] at h, fun _ _ _ _ r h => by simp [crosstreeref15_Groups.l1] at h, fun _ _ _ _ _ r h => by simp [crosstreeref15_Groups.l2] at h⟩
  | k + 1 => by
    obtain ⟨ih0, ih1, ih2⟩ := crosstreeref15_Groups.mono_l k
    refine ⟨?_, ?_, ?_⟩
    · intro y0 y1 y2 y3
      unfold crosstreeref15_Groups.l0
      repeat' first
      | (with_reducible exact ih0 _ _ _ _)
      | (with_reducible exact ih1 _ _ _ _)
      | (with_reducible exact ih2 _ _ _ _ _)
      | (with_reducible exact crosstreeref15_Leads.mono _ _ _ _)
      | (with_reducible exact LeO.refl _)
      | (with_reducible exact LeO.none _)
      | (with_reducible refine LeO.ite ?_ ?_)
      | (with_reducible refine LeO.bind ?_ (fun _ => ?_))
      | exact ih0 _ _ _ _
      | exact ih1 _ _ _ _
      | exact ih2 _ _ _ _ _
      | exact crosstreeref15_Leads.mono _ _ _ _
      | exact LeO.none _
      | refine LeO.ite ?_ ?_
      | refine LeO.bind ?_ (fun _ => ?_)
    · intro y0 y1 y2 y3
      unfold crosstreeref15_Groups.l1
      repeat' first
      | (with_reducible exact ih0 _ _ _ _)
      | (with_reducible exact ih1 _ _ _ _)
      | (with_reducible exact ih2 _ _ _ _ _)
      | (with_reducible exact crosstreeref15_Leads.mono _ _ _ _)
      | (with_reducible exact LeO.refl _)
      | (with_reducible exact LeO.none _)
      | (with_reducible refine LeO.ite ?_ ?_)
      | (with_reducible refine LeO.bind ?_ (fun _ => ?_))
      | exact ih0 _ _ _ _
      | exact ih1 _ _ _ _
      | exact ih2 _ _ _ _ _
      | exact crosstreeref15_Leads.mono _ _ _ _
      | exact LeO.none _
      | refine LeO.ite ?_ ?_
      | refine LeO.bind ?_ (fun _ => ?_)
    · intro y0 y1 y2 y3 y4
      unfold crosstreeref15_Groups.l2
      repeat' first
      | (with_reducible exact ih0 _ _ _ _)
      | (with_reducible exact ih1 _ _ _ _)
      | (with_reducible exact ih2 _ _ _ _ _)
      | (with_reducible exact crosstreeref15_Leads.mono _ _ _ _)
      | (with_reducible exact LeO.refl _)
      | (with_reducible exact LeO.none _)
      | (with_reducible refine LeO.ite ?_ ?_)
      | (with_reducible refine LeO.bind ?_ (fun _ => ?_))
      | exact ih0 _ _ _ _
      | exact ih1 _ _ _ _
      | exact ih2 _ _ _ _ _
      | exact crosstreeref15_Leads.mono _ _ _ _
      | exact LeO.none _
      | refine LeO.ite ?_ ?_
      | refine LeO.bind ?_ (fun _ => ?_)
theorem crosstreeref15_Groups.mono : ∀ a0 a1 k, LeO (crosstreeref15_Groups.f k a0 a1) (crosstreeref15_Groups.f (k + 1) a0 a1) := by
  intro a0 a1 k
  obtain ⟨ih0, ih1, ih2⟩ := crosstreeref15_Groups.mono_l k
  unfold crosstreeref15_Groups.f
  repeat' first
      | (with_reducible exact ih0 _ _ _ _)
      | (with_reducible exact ih1 _ _ _ _)
      | (with_reducible exact ih2 _ _ _ _ _)
      | (with_reducible exact crosstreeref15_Leads.mono _ _ _ _)
      | (with_reducible exact LeO.refl _)
      | (with_reducible exact LeO.none _)
      | (with_reducible refine LeO.ite ?_ ?_)
      | (with_reducible refine LeO.bind ?_ (fun _ => ?_))
      | exact ih0 _ _ _ _
      | exact ih1 _ _ _ _
      | exact ih2 _ _ _ _ _
      | exact crosstreeref15_Leads.mono _ _ _ _
      | exact LeO.none _
      | refine LeO.ite ?_ ?_
      | refine LeO.bind ?_ (fun _ => ?_)
set_option maxHeartbeats 8000000 in
set_option maxRecDepth 100000 in
theorem crosstreeref15_Groups.calls (k : Nat) (a0 : Int) (A1 : Option Addr) (c1 : Nat) (l1 : List (S33)) (r : List Int) (w : World) (hr1 : Kd.C k33 w A1 l1.length l1) (hc1 : l1.length ≤ c1) (h : crosstreeref15_Groups.f k a0 l1 = some r) :
    Calls Try.prog 13 #[.int .i64 a0, .slice A1 l1.length c1] w fun e w' => ∃ v0_ : Value, e = .returned (v0_) ∧ Kd.R (Kd.int .i64) 3 w' w.heap.size (fun _ => True) v0_ r ∧ Below w.heap.size w w' := by
  have HR1 := Aside0.mk hr1
  have HC1 := Aside0.mk hc1
  clear hr1 hc1
  have HB := Aside0.mk (Below.refl w.heap.size w)
  have H : ((crosstreeref15_size.f a0).bind fun t263 => (crosstreeref15_Groups.l0 k t263 l1 ([] : List (List Bool)) 0)) = some r := h
  clear h
  replace H := Option.bind_eq_some_iff.mp H
  obtain ⟨t263, A30, H⟩ := H
  replace H : (crosstreeref15_Groups.l0 k t263 l1 ([] : List (List Bool)) 0) = some r := H
  have A3 := Aside0.mk A30
  clear A30
  have H' := Aside0.mk H
  clear H
  go_enter Try.func13, Try.ntmps13
  go_wp2_with (first | ((with_reducible refine gate_callee (f := 22) rfl ?_); refine goesL_ (some 11) rfl rfl Try.func22 (by kernel_rfl) rfl #[.int .i64 a0] rfl (by (try simp only [List.map_toArray, List.map_cons, List.map_nil]); first | done | rfl | (simp only [List.length_drop, List.length_take]; rfl)) ?_; (with_reducible refine (crosstreeref15_size.calls a0 t263 _ A3.out).mono ?_); rintro e w' ⟨rfl, ⟨nd, rfl⟩⟩; refine ⟨_, rfl, ?_⟩))
  go_loopg [5, 6] k (fun kq v5 v6 w' => ∃ (x5_1 : List (List Bool)) (x6_1 : Int), v6 = .int .i64 x6_1 ∧ Aside0 (crosstreeref15_Groups.l0 kq t263 l1 x5_1 x6_1 = some r) ∧ Aside0 (kq ≤ k) ∧ Aside0 (Kd.S (Kd.slice 4 Kd.bool) 39 w' w.heap.size (fun _ => True) v5 x5_1) ∧ Aside0 (Below w.heap.size w w'))
  case atStart => exact ⟨(([] : List (List Bool))), (0), (by first | rfl | (simp; done) | (simp [*]; done)), H', ⟨Nat.le_refl _⟩, ⟨by first | exact Kd.S_nil _ _ _ _ _ | exact Kd.N_nil _ _ _ _ _ | exact Kd.V_nil _ _ _ _ _ | exact Kd.Q_nil _ _ _ _ _ | exact Kd.R_nil _ _ _ _ _⟩, ⟨by repeat (first | (with_reducible first | exact HB.out | apply below_alloc | apply pw_below_drewN | apply below_drew1) | exact HB.out)⟩⟩
  case round =>
    clear H'
    try clear c1
    try clear c2
    try clear p2
    obtain ⟨x5_1, x6_1, rfl, HA, HK1, HO_5, HB⟩ := hrel
    cases gk with
    | zero => exact absurd HA.out (by simp [crosstreeref15_Groups.l0])
    | succ k1 =>
      have H := HA.out
      clear HA
      simp only [crosstreeref15_Groups.l0] at H
      by_cases c4 : x6_1 < t263
      · rw [if_pos c4] at H
        have c4b0 : decide (x6_1 < t263) = true := decide_eq_true c4
        clear c4
        replace H := Option.bind_eq_some_iff.mp H
        obtain ⟨t264, A50, H⟩ := H
        replace H : (if x5_1.length < 5864062014805 then (crosstreeref15_Groups.l0 k1 t263 l1 (x5_1 ++ [t264]) (wrap64 (x6_1 + 1))) else (none)) = some r := H
        have A5 := Aside0.mk A50
        clear A50
        by_cases c6 : x5_1.length < 5864062014805
        · rw [if_pos c6] at H
          have LMc6 := Aside0.mk c6
          clear c6
          obtain ⟨y267, hy267⟩ : ∃ y_ : List (List Bool), y_ = (x5_1 ++ [t264]) := ⟨_, rfl⟩
          replace H : (crosstreeref15_Groups.l0 k1 t263 l1 y267 (wrap64 (x6_1 + 1))) = some r := by first | (rw [hy267]; with_reducible exact H) | (have H2_ := (Option.bind_some _ _).symm.trans H; rw [hy267]; with_reducible exact H2_) | (have H2_ := (Option.bind_some _ _).symm.trans H; with_reducible exact H2_) | with_reducible exact H | (rw [hy267]; exact H) | exact H
          have Ny267 := Aside0.mk hy267
          clear hy267
          have H' := Aside0.mk H
          clear H
          go_wp2_with (first | ((with_reducible refine gate_callee (f := 23) rfl ?_); refine goesL_ (some 21) rfl rfl Try.func23 (by kernel_rfl) rfl #[.int .i64 t263, .slice A1 l1.length c1, .int .i64 x6_1] rfl (by (try simp only [List.map_toArray, List.map_cons, List.map_nil]); first | done | rfl | (simp only [List.length_drop, List.length_take]; rfl)) ?_; (with_reducible refine (crosstreeref15_Leads.calls k1 t263 _ _ l1 x6_1 t264 _ ?side1 ?side2 A5.out).mono ?_); (case side1 => repeat (first | exact (Kd.C_below HR1.out HB.out) | (with_reducible refine Kd.C_alloc ?_ _) | (with_reducible refine Kd.C_drewN ?_ _) | (with_reducible refine Kd.C_drew ?_))); (case side2 => exact HC1.out); rintro e w7 ⟨v265, rfl, ho0, hb⟩; refine ⟨_, rfl, ?_⟩; have n0_ := Aside0.mk (Kd.S_elder' (by (with_reducible repeat (first | apply Kd.S_alloc | apply Kd.S_drewN | apply Kd.S_drew)); exact HO_5.out) (Kd.R_base ho0) hb); have n1_ := Aside0.mk (Kd.R_lower ho0 (below_size (by repeat (first | (with_reducible first | exact HB.out | apply below_alloc | apply pw_below_drewN | apply below_drew1) | exact HB.out)))); have n2_ := Aside0.mk (below_step (by repeat (first | (with_reducible first | exact HB.out | apply below_alloc | apply pw_below_drewN | apply below_drew1) | exact HB.out)) hb); clear HO_5; clear HB; have HO_5 := n0_; have HO266 := n1_; have HB := n2_; clear n0_ n1_ n2_; (try clear hb); (try clear hb2); (try clear hk); (try clear hi); (try clear ho0); obtain ⟨Ao9, co9, eo9⟩ := Kd.R_slice HO266.out; subst eo9) | ((with_reducible refine gate_builtin (b := .append) (xs := #[.tmp 17, .tmp 22]) rfl ?_); at_builtin; refine Kd.S_append (Kd.slice 4 Kd.bool) (w0 := w) w.heap.size rfl (.tmp 17) (.tmp 22) 44 39 (.slice none 0 0) 24 rfl Try.underlying44 info39 rfl (by decide) (by omega) u5 x5_1 t264 [.slice Ao9 t264.length co9] (fun _ => True) (fun k_ => some k_ = (.slice Ao9 t264.length co9 : Value).ownBlock) rfl rfl ?aP (fun k_ hk_ => ((Kd.R_mono (ok' := fun k_ => ((fun _ => True)) k_ ∧ some k_ ≠ (u5 : Value).ownBlock) (Kd.R_apart' (HO266.out) (Kd.S_typed HO_5.out) (by decide)) (fun k_ hk => ⟨trivial, hk.2⟩))).1 k_ hk_.symm) ?aF ?aO ?aB ?aS ?aL ?_; (case aP => exact Kd.M_row (Kd.R_mono (Kd.R_tight rfl (Kd.R_mono (ok' := fun k_ => ((fun _ => True)) k_ ∧ some k_ ≠ (u5 : Value).ownBlock) (Kd.R_apart' (HO266.out) (Kd.S_typed HO_5.out) (by decide)) (fun k_ hk => ⟨trivial, hk.2⟩))) (fun _ h_ => h_))); (case aB => exact (by repeat (first | (with_reducible first | exact HB.out | apply below_alloc | apply pw_below_drewN | apply below_drew1) | exact HB.out))); (case aF => exact (fun _ _ => trivial)); (case aO => exact (by (with_reducible repeat (first | apply Kd.S_alloc | apply Kd.S_drewN | apply Kd.S_drew)); exact Kd.S_mono HO_5.out (fun k_ hk => ⟨trivial, fun e_ => hk.2 e_⟩))); (case aS => exact (below_size (by repeat (first | (with_reducible first | exact HB.out | apply below_alloc | apply pw_below_drewN | apply below_drew1) | exact HB.out)))); (case aL => have := LMc6.out; omega); intro v268 w8 ho hb hg hat; rw [← Ny267.out] at ho; have n0_ := Aside0.mk (hb); have n1_ := Aside0.mk (ho); clear HB; clear HO_5; clear HO266; have HB := n0_; have HO269 := n1_; clear n0_ n1_; clear ho hb hg hat))
          go_roundg k1
          case measure => have := HK1.out; omega
          case rel => exact ⟨(y267), (wrap64 (x6_1 + 1)), (by first | rfl | (simp; done) | (simp [*]; done)), H', ⟨by have := HK1.out; omega⟩, ⟨by (with_reducible repeat (first | apply Kd.S_alloc | apply Kd.S_drewN | apply Kd.S_drew)); exact HO269.out⟩, ⟨by repeat (first | (with_reducible first | exact HB.out | apply below_alloc | apply pw_below_drewN | apply below_drew1) | exact HB.out)⟩⟩
        · rw [if_neg c6] at H
          exact absurd H (by simp)
      · rw [if_neg c4] at H
        have c4b0 : decide (x6_1 < t263) = false := decide_eq_false c4
        clear c4
        have H' := Aside0.mk H
        clear H
        go_wp2
        go_loopg [7, 8] k1 (fun kq v7 v8 w' => ∃ (x7_2 : List Int) (x8_2 : Int), v8 = .int .i64 x8_2 ∧ Aside0 (crosstreeref15_Groups.l1 kq t263 x5_1 x7_2 x8_2 = some r) ∧ Aside0 (kq ≤ k1) ∧ Aside0 (Kd.S (Kd.slice 4 Kd.bool) 39 w' w.heap.size (fun _ => True) u5 x5_1) ∧ Aside0 (Kd.R (Kd.int .i64) 3 w' w.heap.size (fun _ => True) v7 x7_2) ∧ Aside0 (Below w.heap.size w w'))
        case atStart => exact ⟨(([] : List Int)), (0), (by first | rfl | (simp; done) | (simp [*]; done)), H', ⟨Nat.le_refl _⟩, ⟨by (with_reducible repeat (first | apply Kd.S_alloc | apply Kd.S_drewN | apply Kd.S_drew)); exact HO_5.out⟩, ⟨by first | exact Kd.R_nil _ _ _ _ _ | exact Kd.N_nil _ _ _ _ _ | exact Kd.V_nil _ _ _ _ _ | exact Kd.Q_nil _ _ _ _ _ | exact Kd.S_nil _ _ _ _ _⟩, ⟨by repeat (first | (with_reducible first | exact HB.out | apply below_alloc | apply pw_below_drewN | apply below_drew1) | exact HB.out)⟩⟩
        case round =>
          clear H'
          try clear c1
          try clear c2
          try clear p2
          try clear c4
          try clear c4b0
          try clear c6
          try clear p6
          try clear p2
          obtain ⟨x7_2, x8_2, rfl, HA, HK2, HO_5, HO_7, HB⟩ := hrel
          cases gk with
          | zero => exact absurd HA.out (by simp [crosstreeref15_Groups.l1])
          | succ k2 =>
            have H := HA.out
            clear HA
            simp only [crosstreeref15_Groups.l1] at H
            by_cases c10 : x8_2 < t263
            · rw [if_pos c10] at H
              have c10b0 : decide (x8_2 < t263) = true := decide_eq_true c10
              clear c10
              have H' := Aside0.mk H
              clear H
              go_wp2
              go_loopg [9] k2 (fun kq v9 w' => ∃ (x9_3 : Int), v9 = .int .i64 x9_3 ∧ Aside0 (crosstreeref15_Groups.l2 kq t263 x5_1 x7_2 x8_2 x9_3 = some r) ∧ Aside0 (kq ≤ k2) ∧ Aside0 (Kd.S (Kd.slice 4 Kd.bool) 39 w' w.heap.size (fun _ => True) u5 x5_1) ∧ Aside0 (Kd.R (Kd.int .i64) 3 w' w.heap.size (fun _ => True) u7 x7_2) ∧ Aside0 (Below w.heap.size w w'))
              case atStart => exact ⟨(0), (by first | rfl | (simp; done) | (simp [*]; done)), H', ⟨Nat.le_refl _⟩, ⟨by (with_reducible repeat (first | apply Kd.S_alloc | apply Kd.S_drewN | apply Kd.S_drew)); exact HO_5.out⟩, ⟨by (with_reducible repeat (first | apply Kd.R_alloc | apply Kd.R_drewN | apply Kd.R_drew)); exact HO_7.out⟩, ⟨by repeat (first | (with_reducible first | exact HB.out | apply below_alloc | apply pw_below_drewN | apply below_drew1) | exact HB.out)⟩⟩
              case round =>
                clear H'
                try clear c1
                try clear c2
                try clear p2
                try clear c4
                try clear c4b0
                try clear c6
                try clear p6
                try clear c10
                try clear c10b0
                try clear p2
                try clear p6
                obtain ⟨x9_3, rfl, HA, HK3, HO_5, HO_7, HB⟩ := hrel
                cases gk with
                | zero => exact absurd HA.out (by simp [crosstreeref15_Groups.l2])
                | succ k3 =>
                  have H := HA.out
                  clear HA
                  simp only [crosstreeref15_Groups.l2] at H
                  by_cases c11 : 0 ≤ x8_2
                  · rw [if_pos c11] at H
                    have c11b0 : decide (0 ≤ x8_2) = true := decide_eq_true c11
                    clear c11
                    by_cases c12 : x8_2 < (x5_1.length : Int)
                    · rw [if_pos c12] at H
                      have c12b0 : decide (x8_2 < (x5_1.length : Int)) = true := decide_eq_true c12
                      clear c12
                      by_cases c13 : 0 ≤ x9_3
                      · rw [if_pos c13] at H
                        have c13b0 : decide (0 ≤ x9_3) = true := decide_eq_true c13
                        clear c13
                        by_cases c14 : x9_3 < ((rd_L4 x5_1 x8_2).length : Int)
                        · rw [if_pos c14] at H
                          have c14b0 : decide (x9_3 < ((rd_L4 x5_1 x8_2).length : Int)) = true := decide_eq_true c14
                          clear c14
                          obtain ⟨bq15, hbq15⟩ : ∃ b_ : Bool, b_ = (rdOf false (rd_L4 x5_1 x8_2) x9_3) := ⟨_, rfl⟩
                          replace H : (if (bq15 = true) then (if x9_3 < (x5_1.length : Int) then (if x8_2 < ((rd_L4 x5_1 x9_3).length : Int) then (if (rdOf false (rd_L4 x5_1 x9_3) x8_2 = true) then (if x7_2.length < 17592186044416 then (crosstreeref15_Groups.l1 k3 t263 x5_1 (x7_2 ++ [x9_3]) (wrap64 (x8_2 + 1))) else (none)) else (crosstreeref15_Groups.l2 k3 t263 x5_1 x7_2 x8_2 (wrap64 (x9_3 + 1)))) else (none)) else (none)) else (crosstreeref15_Groups.l2 k3 t263 x5_1 x7_2 x8_2 (wrap64 (x9_3 + 1)))) = some r := by rw [← hbq15] at H; exact H
                          have Nbq15 := Aside0.mk hbq15
                          clear hbq15
                          by_cases c16 : (bq15 = true)
                          · subst c16
                            have H1 : (if x9_3 < (x5_1.length : Int) then (if x8_2 < ((rd_L4 x5_1 x9_3).length : Int) then (if (rdOf false (rd_L4 x5_1 x9_3) x8_2 = true) then (if x7_2.length < 17592186044416 then (crosstreeref15_Groups.l1 k3 t263 x5_1 (x7_2 ++ [x9_3]) (wrap64 (x8_2 + 1))) else (none)) else (crosstreeref15_Groups.l2 k3 t263 x5_1 x7_2 x8_2 (wrap64 (x9_3 + 1)))) else (none)) else (none)) = some r := by rw [if_pos rfl] at H; exact H
                            clear H
                            have H := H1
                            clear H1
                            by_cases c17 : x9_3 < (x5_1.length : Int)
                            · rw [if_pos c17] at H
                              have c17b0 : decide (x9_3 < (x5_1.length : Int)) = true := decide_eq_true c17
                              clear c17
                              by_cases c18 : x8_2 < ((rd_L4 x5_1 x9_3).length : Int)
                              · rw [if_pos c18] at H
                                have c18b0 : decide (x8_2 < ((rd_L4 x5_1 x9_3).length : Int)) = true := decide_eq_true c18
                                clear c18
                                obtain ⟨bq19, hbq19⟩ : ∃ b_ : Bool, b_ = (rdOf false (rd_L4 x5_1 x9_3) x8_2) := ⟨_, rfl⟩
                                replace H : (if (bq19 = true) then (if x7_2.length < 17592186044416 then (crosstreeref15_Groups.l1 k3 t263 x5_1 (x7_2 ++ [x9_3]) (wrap64 (x8_2 + 1))) else (none)) else (crosstreeref15_Groups.l2 k3 t263 x5_1 x7_2 x8_2 (wrap64 (x9_3 + 1)))) = some r := by rw [← hbq19] at H; exact H
                                have Nbq19 := Aside0.mk hbq19
                                clear hbq19
                                by_cases c20 : (bq19 = true)
                                · subst c20
                                  have H1 : (if x7_2.length < 17592186044416 then (crosstreeref15_Groups.l1 k3 t263 x5_1 (x7_2 ++ [x9_3]) (wrap64 (x8_2 + 1))) else (none)) = some r := by rw [if_pos rfl] at H; exact H
                                  clear H
                                  have H := H1
                                  clear H1
                                  by_cases c21 : x7_2.length < 17592186044416
                                  · rw [if_pos c21] at H
                                    have LMc21 := Aside0.mk c21
                                    clear c21
                                    obtain ⟨y274, hy274⟩ : ∃ y_ : List Int, y_ = (x7_2 ++ [x9_3]) := ⟨_, rfl⟩
                                    replace H : (crosstreeref15_Groups.l1 k3 t263 x5_1 y274 (wrap64 (x8_2 + 1))) = some r := by first | (rw [hy274]; with_reducible exact H) | (have H2_ := (Option.bind_some _ _).symm.trans H; rw [hy274]; with_reducible exact H2_) | (have H2_ := (Option.bind_some _ _).symm.trans H; with_reducible exact H2_) | with_reducible exact H | (rw [hy274]; exact H) | exact H
                                    have Ny274 := Aside0.mk hy274
                                    clear hy274
                                    have H' := Aside0.mk H
                                    clear H
                                    obtain ⟨Ao22, co22, eo22⟩ := Kd.S_slice HO_5.out
                                    subst eo22
                                    have p270 : 0 ≤ (x8_2 : Int) := of_decide_eq_true (by first | (with_reducible assumption) | assumption)
                                    have q270 : x8_2 < (x5_1.length : Int) := of_decide_eq_true (by first | (with_reducible assumption) | assumption)
                                    obtain ⟨ad270, A270_0, c270_0, e270, hx270_0, hl270_0, hi270_0⟩ := at_L4 (Kd.S_reads' HO_5.out).2.2 x8_2 p270 q270
                                    cases e270
                                    obtain ⟨ce270, hce270, hMe270, hcc270⟩ := Kd.S_get HO_5.out [] x8_2 p270 (by first | exact q270 | exact of_decide_eq_true (by first | (with_reducible assumption) | assumption) | (have e_ := (Kd.S_reads' HO_5.out).1; omega))
                                    obtain ⟨ve270_0, rfl, ge270_0⟩ := hMe270
                                    have hv270_0 := hcc270 0 _ rfl
                                    rw [Nat.add_zero, show ((Kd.slice 4 Kd.bool)).sz = 1 from rfl, Nat.mul_one] at hv270_0
                                    replace hv270_0 := Option.some.inj (hv270_0.symm.trans hx270_0)
                                    rw [hv270_0] at ge270_0
                                    have HL270_0 := Aside0.mk (show Kd.R Kd.bool 4 _ _ _ _ (rd_L4 x5_1 x8_2) from ge270_0)
                                    clear hv270_0 ge270_0
                                    clear hcc270 hce270
                                    have HR270_0 := Aside0.mk hi270_0
                                    have HC270_0 := Aside0.mk hl270_0
                                    clear hi270_0 hl270_0
                                    replace p270 := eq_true p270
                                    replace q270 := eq_true q270
                                    have p271 : 0 ≤ (x9_3 : Int) := of_decide_eq_true (by first | (with_reducible assumption) | assumption)
                                    have q271 : x9_3 < ((rd_L4 x5_1 x8_2).length : Int) := of_decide_eq_true (by first | (with_reducible assumption) | assumption)
                                    obtain ⟨ad271, e271, hx271_0⟩ := Kd.at_bool (by repeat (first | (with_reducible exact HR270_0.out) | (with_reducible refine Kd.C_alloc ?_ _) | (with_reducible refine Kd.C_drewN ?_ _) | (with_reducible refine Kd.C_drew ?_) | exact HR270_0.out)) x9_3 p271 q271
                                    (try rw [← Nbq15.out] at hx271_0)
                                    (try rw [← Nbq19.out] at hx271_0)
                                    cases e271
                                    replace p271 := eq_true p271
                                    replace q271 := eq_true q271
                                    have p272 : 0 ≤ (x9_3 : Int) := of_decide_eq_true (by first | (with_reducible assumption) | assumption)
                                    have q272 : x9_3 < (x5_1.length : Int) := of_decide_eq_true (by first | (with_reducible assumption) | assumption)
                                    obtain ⟨ad272, A272_0, c272_0, e272, hx272_0, hl272_0, hi272_0⟩ := at_L4 (Kd.S_reads' HO_5.out).2.2 x9_3 p272 q272
                                    obtain rfl : ad270 = ad272 := (by injection e272)
                                    obtain ⟨ce272, hce272, hMe272, hcc272⟩ := Kd.S_get HO_5.out [] x9_3 p272 (by first | exact q272 | exact of_decide_eq_true (by first | (with_reducible assumption) | assumption) | (have e_ := (Kd.S_reads' HO_5.out).1; omega))
                                    obtain ⟨ve272_0, rfl, ge272_0⟩ := hMe272
                                    have hv272_0 := hcc272 0 _ rfl
                                    rw [Nat.add_zero, show ((Kd.slice 4 Kd.bool)).sz = 1 from rfl, Nat.mul_one] at hv272_0
                                    replace hv272_0 := Option.some.inj (hv272_0.symm.trans hx272_0)
                                    rw [hv272_0] at ge272_0
                                    have HL272_0 := Aside0.mk (show Kd.R Kd.bool 4 _ _ _ _ (rd_L4 x5_1 x9_3) from ge272_0)
                                    clear hv272_0 ge272_0
                                    clear hcc272 hce272
                                    have HR272_0 := Aside0.mk hi272_0
                                    have HC272_0 := Aside0.mk hl272_0
                                    clear hi272_0 hl272_0
                                    replace p272 := eq_true p272
                                    replace q272 := eq_true q272
                                    have p273 : 0 ≤ (x8_2 : Int) := of_decide_eq_true (by first | (with_reducible assumption) | assumption)
                                    have q273 : x8_2 < ((rd_L4 x5_1 x9_3).length : Int) := of_decide_eq_true (by first | (with_reducible assumption) | assumption)
                                    obtain ⟨ad273, e273, hx273_0⟩ := Kd.at_bool (by repeat (first | (with_reducible exact HR272_0.out) | (with_reducible refine Kd.C_alloc ?_ _) | (with_reducible refine Kd.C_drewN ?_ _) | (with_reducible refine Kd.C_drew ?_) | exact HR272_0.out)) x8_2 p273 q273
                                    (try rw [← Nbq15.out] at hx273_0)
                                    (try rw [← Nbq19.out] at hx273_0)
                                    cases e273
                                    replace p273 := eq_true p273
                                    replace q273 := eq_true q273
                                    go_wp2_with (first | ((with_reducible refine gate_builtin (b := .append) (xs := #[.tmp 49, .tmp 51]) rfl ?_); at_builtin; refine Kd.R_append (Kd.int .i64) (w0 := w) w.heap.size rfl (.tmp 49) (.tmp 51) 27 3 (.int .i64 0) 8 rfl Try.underlying27 info3 rfl (by decide) (by omega) u7 x7_2 x9_3 [.int .i64 x9_3] (fun _ => True) (fun _ => False) rfl rfl ?aP (fun _ hk => hk.elim) ?aF ?aO ?aB ?aS ?aL ?_; (case aP => exact rfl); (case aB => exact (by repeat (first | (with_reducible first | exact HB.out | apply below_alloc | apply pw_below_drewN | apply below_drew1) | exact HB.out))); (case aF => exact (fun _ _ => trivial)); (case aO => exact (by (with_reducible repeat (first | apply Kd.R_alloc | apply Kd.R_drewN | apply Kd.R_drew)); exact HO_7.out)); (case aS => exact (below_size (by repeat (first | (with_reducible first | exact HB.out | apply below_alloc | apply pw_below_drewN | apply below_drew1) | exact HB.out)))); (case aL => have := LMc21.out; omega); intro v275 w23 ho hb hg hat; rw [← Ny274.out] at ho; have n0_ := Aside0.mk (Kd.S_over' (by (with_reducible repeat (first | apply Kd.S_alloc | apply Kd.S_drewN | apply Kd.S_drew)); exact HO_5.out) (Kd.R_typed (by (with_reducible repeat (first | apply Kd.R_alloc | apply Kd.R_drewN | apply Kd.R_drew)); exact HO_7.out)) (by decide) hg); have n1_ := Aside0.mk (Kd.R_over' (by (with_reducible repeat (first | apply Kd.R_alloc | apply Kd.R_drewN | apply Kd.R_drew)); exact HL270_0.out) (Kd.R_typed (by (with_reducible repeat (first | apply Kd.R_alloc | apply Kd.R_drewN | apply Kd.R_drew)); exact HO_7.out)) (by decide) hg); have n2_ := Aside0.mk (Kd.R_over' (by (with_reducible repeat (first | apply Kd.R_alloc | apply Kd.R_drewN | apply Kd.R_drew)); exact HL272_0.out) (Kd.R_typed (by (with_reducible repeat (first | apply Kd.R_alloc | apply Kd.R_drewN | apply Kd.R_drew)); exact HO_7.out)) (by decide) hg); have n3_ := Aside0.mk (hb); have n4_ := Aside0.mk (ho); clear HO_5; clear HL270_0; clear HL272_0; clear HB; clear HO_7; have HO_5 := n0_; have HL270_0 := n1_; have HL272_0 := n2_; have HB := n3_; have HO276 := n4_; clear n0_ n1_ n2_ n3_ n4_; clear ho hb hg hat))
                                    go_roundg k3
                                    case measure => have := HK1.out; have := HK2.out; have := HK3.out; omega
                                    case rel => exact ⟨(y274), (wrap64 (x8_2 + 1)), (by first | rfl | (simp; done) | (simp [*]; done)), H', ⟨by have := HK1.out; have := HK2.out; have := HK3.out; omega⟩, ⟨by (with_reducible repeat (first | apply Kd.S_alloc | apply Kd.S_drewN | apply Kd.S_drew)); exact HO_5.out⟩, ⟨by (with_reducible repeat (first | apply Kd.R_alloc | apply Kd.R_drewN | apply Kd.R_drew)); exact HO276.out⟩, ⟨by repeat (first | (with_reducible first | exact HB.out | apply below_alloc | apply pw_below_drewN | apply below_drew1) | exact HB.out)⟩⟩
                                  · rw [if_neg c21] at H
                                    exact absurd H (by simp)
                                · replace c20 := Bool.eq_false_iff.mpr c20
                                  subst c20
                                  have H1 : (crosstreeref15_Groups.l2 k3 t263 x5_1 x7_2 x8_2 (wrap64 (x9_3 + 1))) = some r := by rw [if_neg (show ¬ (false = true) by decide)] at H; exact H
                                  clear H
                                  have H := H1
                                  clear H1
                                  have H' := Aside0.mk H
                                  clear H
                                  obtain ⟨Ao24, co24, eo24⟩ := Kd.S_slice HO_5.out
                                  subst eo24
                                  have p270 : 0 ≤ (x8_2 : Int) := of_decide_eq_true (by first | (with_reducible assumption) | assumption)
                                  have q270 : x8_2 < (x5_1.length : Int) := of_decide_eq_true (by first | (with_reducible assumption) | assumption)
                                  obtain ⟨ad270, A270_0, c270_0, e270, hx270_0, hl270_0, hi270_0⟩ := at_L4 (Kd.S_reads' HO_5.out).2.2 x8_2 p270 q270
                                  cases e270
                                  obtain ⟨ce270, hce270, hMe270, hcc270⟩ := Kd.S_get HO_5.out [] x8_2 p270 (by first | exact q270 | exact of_decide_eq_true (by first | (with_reducible assumption) | assumption) | (have e_ := (Kd.S_reads' HO_5.out).1; omega))
                                  obtain ⟨ve270_0, rfl, ge270_0⟩ := hMe270
                                  have hv270_0 := hcc270 0 _ rfl
                                  rw [Nat.add_zero, show ((Kd.slice 4 Kd.bool)).sz = 1 from rfl, Nat.mul_one] at hv270_0
                                  replace hv270_0 := Option.some.inj (hv270_0.symm.trans hx270_0)
                                  rw [hv270_0] at ge270_0
                                  have HL270_0 := Aside0.mk (show Kd.R Kd.bool 4 _ _ _ _ (rd_L4 x5_1 x8_2) from ge270_0)
                                  clear hv270_0 ge270_0
                                  clear hcc270 hce270
                                  have HR270_0 := Aside0.mk hi270_0
                                  have HC270_0 := Aside0.mk hl270_0
                                  clear hi270_0 hl270_0
                                  replace p270 := eq_true p270
                                  replace q270 := eq_true q270
                                  have p271 : 0 ≤ (x9_3 : Int) := of_decide_eq_true (by first | (with_reducible assumption) | assumption)
                                  have q271 : x9_3 < ((rd_L4 x5_1 x8_2).length : Int) := of_decide_eq_true (by first | (with_reducible assumption) | assumption)
                                  obtain ⟨ad271, e271, hx271_0⟩ := Kd.at_bool (by repeat (first | (with_reducible exact HR270_0.out) | (with_reducible refine Kd.C_alloc ?_ _) | (with_reducible refine Kd.C_drewN ?_ _) | (with_reducible refine Kd.C_drew ?_) | exact HR270_0.out)) x9_3 p271 q271
                                  (try rw [← Nbq15.out] at hx271_0)
                                  (try rw [← Nbq19.out] at hx271_0)
                                  cases e271
                                  replace p271 := eq_true p271
                                  replace q271 := eq_true q271
                                  have p272 : 0 ≤ (x9_3 : Int) := of_decide_eq_true (by first | (with_reducible assumption) | assumption)
                                  have q272 : x9_3 < (x5_1.length : Int) := of_decide_eq_true (by first | (with_reducible assumption) | assumption)
                                  obtain ⟨ad272, A272_0, c272_0, e272, hx272_0, hl272_0, hi272_0⟩ := at_L4 (Kd.S_reads' HO_5.out).2.2 x9_3 p272 q272
                                  obtain rfl : ad270 = ad272 := (by injection e272)
                                  obtain ⟨ce272, hce272, hMe272, hcc272⟩ := Kd.S_get HO_5.out [] x9_3 p272 (by first | exact q272 | exact of_decide_eq_true (by first | (with_reducible assumption) | assumption) | (have e_ := (Kd.S_reads' HO_5.out).1; omega))
                                  obtain ⟨ve272_0, rfl, ge272_0⟩ := hMe272
                                  have hv272_0 := hcc272 0 _ rfl
                                  rw [Nat.add_zero, show ((Kd.slice 4 Kd.bool)).sz = 1 from rfl, Nat.mul_one] at hv272_0
                                  replace hv272_0 := Option.some.inj (hv272_0.symm.trans hx272_0)
                                  rw [hv272_0] at ge272_0
                                  have HL272_0 := Aside0.mk (show Kd.R Kd.bool 4 _ _ _ _ (rd_L4 x5_1 x9_3) from ge272_0)
                                  clear hv272_0 ge272_0
                                  clear hcc272 hce272
                                  have HR272_0 := Aside0.mk hi272_0
                                  have HC272_0 := Aside0.mk hl272_0
                                  clear hi272_0 hl272_0
                                  replace p272 := eq_true p272
                                  replace q272 := eq_true q272
                                  have p273 : 0 ≤ (x8_2 : Int) := of_decide_eq_true (by first | (with_reducible assumption) | assumption)
                                  have q273 : x8_2 < ((rd_L4 x5_1 x9_3).length : Int) := of_decide_eq_true (by first | (with_reducible assumption) | assumption)
                                  obtain ⟨ad273, e273, hx273_0⟩ := Kd.at_bool (by repeat (first | (with_reducible exact HR272_0.out) | (with_reducible refine Kd.C_alloc ?_ _) | (with_reducible refine Kd.C_drewN ?_ _) | (with_reducible refine Kd.C_drew ?_) | exact HR272_0.out)) x8_2 p273 q273
                                  (try rw [← Nbq15.out] at hx273_0)
                                  (try rw [← Nbq19.out] at hx273_0)
                                  cases e273
                                  replace p273 := eq_true p273
                                  replace q273 := eq_true q273
                                  go_wp2
                                  go_roundg k3
                                  case measure => have := HK1.out; have := HK2.out; have := HK3.out; omega
                                  case rel => exact ⟨(wrap64 (x9_3 + 1)), (by first | rfl | (simp; done) | (simp [*]; done)), H', ⟨by have := HK1.out; have := HK2.out; have := HK3.out; omega⟩, ⟨by (with_reducible repeat (first | apply Kd.S_alloc | apply Kd.S_drewN | apply Kd.S_drew)); exact HO_5.out⟩, ⟨by (with_reducible repeat (first | apply Kd.R_alloc | apply Kd.R_drewN | apply Kd.R_drew)); exact HO_7.out⟩, ⟨by repeat (first | (with_reducible first | exact HB.out | apply below_alloc | apply pw_below_drewN | apply below_drew1) | exact HB.out)⟩⟩
                              · rw [if_neg c18] at H
                                exact absurd H (by simp)
                            · rw [if_neg c17] at H
                              exact absurd H (by simp)
                          · replace c16 := Bool.eq_false_iff.mpr c16
                            subst c16
                            have H1 : (crosstreeref15_Groups.l2 k3 t263 x5_1 x7_2 x8_2 (wrap64 (x9_3 + 1))) = some r := by rw [if_neg (show ¬ (false = true) by decide)] at H; exact H
                            clear H
                            have H := H1
                            clear H1
                            have H' := Aside0.mk H
                            clear H
                            obtain ⟨Ao25, co25, eo25⟩ := Kd.S_slice HO_5.out
                            subst eo25
                            have p270 : 0 ≤ (x8_2 : Int) := of_decide_eq_true (by first | (with_reducible assumption) | assumption)
                            have q270 : x8_2 < (x5_1.length : Int) := of_decide_eq_true (by first | (with_reducible assumption) | assumption)
                            obtain ⟨ad270, A270_0, c270_0, e270, hx270_0, hl270_0, hi270_0⟩ := at_L4 (Kd.S_reads' HO_5.out).2.2 x8_2 p270 q270
                            cases e270
                            obtain ⟨ce270, hce270, hMe270, hcc270⟩ := Kd.S_get HO_5.out [] x8_2 p270 (by first | exact q270 | exact of_decide_eq_true (by first | (with_reducible assumption) | assumption) | (have e_ := (Kd.S_reads' HO_5.out).1; omega))
                            obtain ⟨ve270_0, rfl, ge270_0⟩ := hMe270
                            have hv270_0 := hcc270 0 _ rfl
                            rw [Nat.add_zero, show ((Kd.slice 4 Kd.bool)).sz = 1 from rfl, Nat.mul_one] at hv270_0
                            replace hv270_0 := Option.some.inj (hv270_0.symm.trans hx270_0)
                            rw [hv270_0] at ge270_0
                            have HL270_0 := Aside0.mk (show Kd.R Kd.bool 4 _ _ _ _ (rd_L4 x5_1 x8_2) from ge270_0)
                            clear hv270_0 ge270_0
                            clear hcc270 hce270
                            have HR270_0 := Aside0.mk hi270_0
                            have HC270_0 := Aside0.mk hl270_0
                            clear hi270_0 hl270_0
                            replace p270 := eq_true p270
                            replace q270 := eq_true q270
                            have p271 : 0 ≤ (x9_3 : Int) := of_decide_eq_true (by first | (with_reducible assumption) | assumption)
                            have q271 : x9_3 < ((rd_L4 x5_1 x8_2).length : Int) := of_decide_eq_true (by first | (with_reducible assumption) | assumption)
                            obtain ⟨ad271, e271, hx271_0⟩ := Kd.at_bool (by repeat (first | (with_reducible exact HR270_0.out) | (with_reducible refine Kd.C_alloc ?_ _) | (with_reducible refine Kd.C_drewN ?_ _) | (with_reducible refine Kd.C_drew ?_) | exact HR270_0.out)) x9_3 p271 q271
                            (try rw [← Nbq15.out] at hx271_0)
                            cases e271
                            replace p271 := eq_true p271
                            replace q271 := eq_true q271
                            go_wp2
                            go_roundg k3
                            case measure => have := HK1.out; have := HK2.out; have := HK3.out; omega
                            case rel => exact ⟨(wrap64 (x9_3 + 1)), (by first | rfl | (simp; done) | (simp [*]; done)), H', ⟨by have := HK1.out; have := HK2.out; have := HK3.out; omega⟩, ⟨by (with_reducible repeat (first | apply Kd.S_alloc | apply Kd.S_drewN | apply Kd.S_drew)); exact HO_5.out⟩, ⟨by (with_reducible repeat (first | apply Kd.R_alloc | apply Kd.R_drewN | apply Kd.R_drew)); exact HO_7.out⟩, ⟨by repeat (first | (with_reducible first | exact HB.out | apply below_alloc | apply pw_below_drewN | apply below_drew1) | exact HB.out)⟩⟩
                        · rw [if_neg c14] at H
                          exact absurd H (by simp)
                      · rw [if_neg c13] at H
                        exact absurd H (by simp)
                    · rw [if_neg c12] at H
                      exact absurd H (by simp)
                  · rw [if_neg c11] at H
                    exact absurd H (by simp)
            · rw [if_neg c10] at H
              have c10b0 : decide (x8_2 < t263) = false := decide_eq_false c10
              clear c10
              obtain rfl := Option.some.inj H
              go_wp2
              go_ret
              exact ⟨_, by first | rfl | (simp [errW_none, errW_some] <;> rfl) | (simp [*, errW_none, errW_some] <;> rfl), by (with_reducible repeat (first | apply Kd.R_alloc | apply Kd.R_drewN | apply Kd.R_drew)); exact HO_7.out, by repeat (first | (with_reducible first | exact HB.out | apply below_alloc | apply pw_below_drewN | apply below_drew1) | exact HB.out)⟩

end Go.Proofs.Ytdobjmbfkdfdcaa.G
