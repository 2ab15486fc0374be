/- Merged texts (by slim.py): what the law's proof names. -/
import Derived.Test.YteogfjhmjlelnaaZc
namespace Go.Proofs.Yteogfjhmjlelnaa.H
open Go.RowKit Go.Proofs.YteogfjhmjlelnaaW.PrintWords Go.Proofs.YteogfjhmjlelnaaW.PrintLast Go.Proofs.YteogfjhmjlelnaaW.PrintMore
attribute [local go_sem] max2_int min2_int max_two min_two max_three min_three max_four min_four
set_option linter.unusedVariables false
set_option linter.unusedSimpArgs false
mutual
def crosstreeref10_Alloc.j0 : Nat → List (S69) → Int → Int → Bool → Bool → Option ((List (S69)) × Int × Int)
 | 0, _, _, _, _, _ => none
 | k + 1, x0, x1, x2, x3, x24 => if x24 = true then (some (x0, 0, 5)) else (crosstreeref10_Alloc.l0 k x0 x2 x3 0 x1 ([] : List (S42)) false)
def crosstreeref10_Alloc.l0 : Nat → List (S69) → Int → Bool → Int → Int → List (S42) → Bool → Option ((List (S69)) × Int × Int)
 | 0, _, _, _, _, _, _, _ => none
 | k + 1, x0, x2, x3, x12, x122000, x122001, x122002 => if x12 < x2 then (if x3 = true then ((some (([(⟨1, 0, (⟨0, 0, 0⟩ : S23)⟩ : S42)] : List (S42)) : List (S42))).bind fun y123 => (if x122001.length + y123.length < 3518437208883 then (crosstreeref10_Alloc.l0 k x0 x2 x3 (wrap64 (x12 + 1)) x122000 (x122001 ++ y123) x122002) else (none))) else ((some (([(⟨0, 0, (⟨0, 0, 0⟩ : S23)⟩ : S42)] : List (S42)) : List (S42))).bind fun y129 => (if x122001.length + y129.length < 3518437208883 then (crosstreeref10_Alloc.l0 k x0 x2 x3 (wrap64 (x12 + 1)) x122000 (x122001 ++ y129) x122002) else (none)))) else ((some (([] : List (S69)) : List (S69))).bind fun y135 => (if y135.length + x0.length < 3518437208883 then ((some (y135 ++ x0 : List (S69))).bind fun y138 => ((some (([(⟨x122000, x122001, x122002⟩ : S69)] : List (S69)) : List (S69))).bind fun y141 => (if y138.length + y141.length < 3518437208883 then (some ((y138 ++ y141), wrap64 ((x0.length : Int) + 1), 0)) else (none)))) else (none)))
end
def crosstreeref10_Alloc.f (k : Nat) (l0 : List (S69)) (a1 : Int) (a2 : Int) (a3 : Bool) : Option ((List (S69)) × Int × Int) := if a2 < 0 then (crosstreeref10_Alloc.j0 k l0 a1 a2 a3 true) else (if a2 > 4096 then (crosstreeref10_Alloc.j0 k l0 a1 a2 a3 true) else (crosstreeref10_Alloc.j0 k l0 a1 a2 a3 (decide ((l0.length : Int) ≥ 2000))))
def crosstreeref10_Is.f (l0 : List (S69)) (a1 : Int) : Option (Bool) := if a1 ≥ 1 then (some (decide (a1 ≤ (l0.length : Int)))) else (some false)
set_option maxHeartbeats 8000000 in
set_option maxRecDepth 100000 in
theorem crosstreeref10_Is.calls (A0 : Option Addr) (c0 : Nat) (l0 : List (S69)) (a1 : Int) (r : Bool) (w : World) (hr0 : Kd.C k69 w A0 l0.length l0) (hc0 : l0.length ≤ c0) (h : crosstreeref10_Is.f l0 a1 = some r) :
  Calls Try.prog 31 #[.slice A0 l0.length c0, .int .i64 a1] w fun e w' => e = .returned (.bool r) ∧ Drawn0 w w' := by
 have HR0 := Aside0.mk hr0
 have HC0 := Aside0.mk hc0
 clear hr0 hc0
 have H : (if a1 ≥ 1 then (some (decide (a1 ≤ (l0.length : Int)))) else (some false)) = some r := h
 clear h
 by_cases c3 : a1 ≥ 1
 ·rw [if_pos c3] at H
  have c3b0 : decide (1 ≤ a1) = true := decide_eq_true c3
  clear c3
  obtain rfl := Option.some.inj H
  go_enter Try.func31, Try.ntmps31
  go_wp2
  go_ret
  exact ⟨by first | rfl | (simp; done) | (simp [*]; done), by repeat (first | exact Drawn0.refl _ | apply Drawn0.step)⟩
 ·rw [if_neg c3] at H
  have c3b0 : decide (1 ≤ a1) = false := decide_eq_false c3
  clear c3
  obtain rfl := Option.some.inj H
  go_enter Try.func31, Try.ntmps31
  go_wp2
  go_ret
  exact ⟨by first | rfl | (simp; done) | (simp [*]; done), by repeat (first | exact Drawn0.refl _ | apply Drawn0.step)⟩
def crosstreeref10_with.f (l0 : List (S69)) (a1 : Int) (a2_0 : Int) (l2_1 : List (S42)) (a2_2 : Bool) : Option ((List (S69))) := (some (([] : List (S69)) : List (S69))).bind fun y148 => (if y148.length + l0.length < 3518437208883 then ((some (y148 ++ l0 : List (S69))).bind fun y151 => (if 0 ≤ (wrap64 (a1 - 1)) then (if (wrap64 (a1 - 1)) < (y151.length : Int) then (some (y151.set ((wrap64 (a1 - 1)) : Int).toNat (⟨a2_0, l2_1, a2_2⟩ : S69))) else (none)) else (none))) else (none))
set_option maxHeartbeats 8000000 in
set_option maxRecDepth 100000 in
theorem crosstreeref10_with.calls (P0_ : Nat → Prop) (A0 : Option Addr) (c0 : Nat) (l0 : List (S69)) (a1 : Int) (a2_0 : Int) (P2_1_ : Nat → Prop) (A2_1 : Option Addr) (c2_1 : Nat) (l2_1 : List (S42)) (a2_2 : Bool) (r : List (S69)) (w : World) (hs0 : Kd.V k69 69 w w.heap.size (fun k_ => P0_ k_) (.slice A0 l0.length c0) l0) (hs2_1 : Kd.V k42 42 w w.heap.size (fun k_ => P2_1_ k_) (.slice A2_1 l2_1.length c2_1) l2_1) (h : crosstreeref10_with.f l0 a1 a2_0 l2_1 a2_2 = some r) :
  Calls Try.prog 38 #[.slice A0 l0.length c0, .int .i64 a1, .agg #[.int .i64 a2_0, .slice A2_1 l2_1.length c2_1, .bool a2_2]] w fun e w' => ∃ v0_ : Value, e = .returned (v0_) ∧ Kd.N k69 69 w' w.heap.size (fun k_ => ((P0_ k_ ∨ P2_1_ k_) ∨ w.heap.size ≤ k_)) v0_ r ∧ Below w.heap.size w w' := by
 have hu69 := Try.underlying69
 have HO0 := Aside0.mk (show Kd.V k69 69 w w.heap.size (fun k_ => ((P0_ k_ ∨ P2_1_ k_) ∨ w.heap.size ≤ k_)) (.slice A0 l0.length c0) l0 from Kd.V_mono hs0 (fun k_ hk => .inl (.inl hk)))
 have HO2_1 := Aside0.mk (show Kd.V k42 42 w w.heap.size (fun k_ => ((P0_ k_ ∨ P2_1_ k_) ∨ w.heap.size ≤ k_)) (.slice A2_1 l2_1.length c2_1) l2_1 from Kd.V_mono hs2_1 (fun k_ hk => .inl (.inr hk)))
 have HB := Aside0.mk (Below.refl w.heap.size w)
 have H : ((some (([] : List (S69)) : List (S69))).bind fun y148 => (if y148.length + l0.length < 3518437208883 then ((some (y148 ++ l0 : List (S69))).bind fun y151 => (if 0 ≤ (wrap64 (a1 - 1)) then (if (wrap64 (a1 - 1)) < (y151.length : Int) then (some (y151.set ((wrap64 (a1 - 1)) : Int).toNat (⟨a2_0, l2_1, a2_2⟩ : S69))) else (none)) else (none))) else (none))) = some r := h
 clear h
 obtain ⟨y148, hy148⟩ : ∃ y_ : List (S69), y_ = (([] : List (S69))) := ⟨_, rfl⟩
 replace H : (if y148.length + l0.length < 3518437208883 then ((some (y148 ++ l0 : List (S69))).bind fun y151 => (if 0 ≤ (wrap64 (a1 - 1)) then (if (wrap64 (a1 - 1)) < (y151.length : Int) then (some (y151.set ((wrap64 (a1 - 1)) : Int).toNat (⟨a2_0, l2_1, a2_2⟩ : S69))) else (none)) else (none))) else (none)) = some r := by first | (rw [hy148]; with_reducible exact H) | (have H2_ := (Option.bind_some _ _).symm.trans H; rw [hy148]; with_reducible exact H2_) | (have H2_ := (Option.bind_some _ _).symm.trans H; with_reducible exact H2_) | with_reducible exact H | (rw [hy148]; exact H) | exact H
 have Ny148 := Aside0.mk hy148
 clear hy148
 by_cases c4 : y148.length + l0.length < 3518437208883
 ·rw [if_pos c4] at H
  have LMc4 := Aside0.mk c4
  clear c4
  obtain ⟨y151, hy151⟩ : ∃ y_ : List (S69), y_ = (y148 ++ l0) := ⟨_, rfl⟩
  replace H : (if 0 ≤ (wrap64 (a1 - 1)) then (if (wrap64 (a1 - 1)) < (y151.length : Int) then (some (y151.set ((wrap64 (a1 - 1)) : Int).toNat (⟨a2_0, l2_1, a2_2⟩ : S69))) else (none)) else (none)) = some r := by first | (rw [hy151]; with_reducible exact H) | (have H2_ := (Option.bind_some _ _).symm.trans H; rw [hy151]; with_reducible exact H2_) | (have H2_ := (Option.bind_some _ _).symm.trans H; with_reducible exact H2_) | with_reducible exact H | (rw [hy151]; exact H) | exact H
  have Ny151 := Aside0.mk hy151
  clear hy151
  obtain ⟨ji5, hji5⟩ : ∃ j_ : Int, (wrap64 (a1 - 1)) = j_ := ⟨_, rfl⟩
  replace H : (if 0 ≤ (ji5) then (if (ji5) < (y151.length : Int) then (some (y151.set ((ji5) : Int).toNat (⟨a2_0, l2_1, a2_2⟩ : S69))) else (none)) else (none)) = some r := by first | (rw [hji5] at H; exact H) | (simp only [hji5] at H ⊢; exact H)
  have hji5w : (IntKind.i64.wrap (a1 - 1)) = ji5 := (i64_w _).trans hji5
  by_cases c6 : 0 ≤ (ji5)
  ·rw [if_pos c6] at H
   have c6b0 : decide (0 ≤ (ji5)) = true := decide_eq_true c6
   clear c6
   by_cases c7 : (ji5) < (y151.length : Int)
   ·rw [if_pos c7] at H
    have c7b0 : decide ((ji5) < (y151.length : Int)) = true := decide_eq_true c7
    clear c7
    obtain ⟨y154, hy154⟩ : ∃ y_ : List (S69), y_ = (y151.set ((ji5) : Int).toNat (⟨a2_0, l2_1, a2_2⟩ : S69)) := ⟨_, rfl⟩
    replace H : (some y154) = some r := by first | (rw [hy154]; with_reducible exact H) | (have H2_ := (Option.bind_some _ _).symm.trans H; rw [hy154]; with_reducible exact H2_) | (have H2_ := (Option.bind_some _ _).symm.trans H; with_reducible exact H2_) | with_reducible exact H | (rw [hy154]; exact H) | exact H
    have Ny154 := Aside0.mk hy154
    clear hy154
    obtain rfl := Option.some.inj H
    go_enter Try.func38, Try.ntmps38
    go_wp2_with (first | ((with_reducible refine q32 (N := 5) rfl ?_); refine q29 ?hg (N := 5) ?hd (cs := #[.int .i64 a2_0, .slice A2_1 l2_1.length c2_1, .bool a2_2]) (t := 69) ?hr ?_; (case hd => rfl); (case hg => rfl); (case hr => first | (go_simp; done) | (go_simp; rfl)); intro gb147 hg w9 hbox hb; have n0_ := Aside0.mk (Kd.V_below (Kd.V_elderB (by (with_reducible repeat (first | apply Kd.V_alloc | apply Kd.V_drewN | apply Kd.V_drew)); exact HO0.out) gb147 (Nat.le_of_eq hg.symm)) hb); have n1_ := Aside0.mk (Kd.V_below (Kd.V_elderB (by (with_reducible repeat (first | apply Kd.V_alloc | apply Kd.V_drewN | apply Kd.V_drew)); exact HO2_1.out) gb147 (Nat.le_of_eq hg.symm)) hb); have n2_ := Aside0.mk (q20 (by repeat (first | (with_reducible first | exact HB.out | apply q10 | apply q9 | apply q11) | exact HB.out)) hb); have n3_ := Aside0.mk (hbox); have n4_ := Aside0.mk ((by rw [hg]; exact (q21 (by repeat (first | (with_reducible first | exact HB.out | apply q10 | apply q9 | apply q11) | exact HB.out))) : w.heap.size ≤ gb147)); have n5_ := Aside0.mk ((by rw [hg]; exact (q21 (by repeat (first | (with_reducible first | exact HB.out | apply q10 | apply q9 | apply q11) | exact HB.out))) : w.heap.size ≤ gb147)); clear HO0; clear HO2_1; clear HB; have HO0 := n0_; have HO2_1 := n1_; have HB := n2_; have BK147 := n3_; have GW147 := n4_; have GE147 := n5_; clear n0_ n1_ n2_ n3_ n4_ n5_; clear hb hbox hg) | ((with_reducible refine q32 (N := 8) rfl ?_); refine Kd.N_lit k69 _ 69 ?hg (N' := 8) ?hd (xs := ([] : List (S69))) (inner := []) (ok := (fun k_ => ((P0_ k_ ∨ P2_1_ k_) ∨ w.heap.size ≤ k_) ∧ k_ ≠ gb147)) (okp := (fun k_ => ((P0_ k_ ∨ P2_1_ k_) ∨ w.heap.size ≤ k_) ∧ k_ ≠ gb147)) ?hr ?hp (fun _ hk => hk) ((show ∀ k_, w9.heap.size ≤ k_ → (fun k_ => ((P0_ k_ ∨ P2_1_ k_) ∨ w.heap.size ≤ k_) ∧ k_ ≠ gb147) k_ from fun k_ hk => ⟨(.inr (Nat.le_trans (q21 (by repeat (first | (with_reducible first | exact HB.out | apply q10 | apply q9 | apply q11 | refine q14 ?_ GE147.out) | exact HB.out))) hk)), Kd.freshB (g := gb147) (o := .cells #[.int .i64 a2_0, .slice A2_1 l2_1.length c2_1, .bool a2_2] 69 (0, 0)) (by (with_reducible repeat (first | refine q13 ?_ _ | refine q15 ?_ | refine q12 ?_ _)); exact BK147.out) k_ hk⟩) _ (Nat.le_refl _)) (Below.refl _ _) (Nat.le_refl _) (by simp) ?_; (case hd => rfl); (case hg => rfl); (case hr => first | (go_simp; done) | (go_simp; rfl)); (case hp => exact (Reps.none _ _)); intro v149 w10 ho11 hb hg_ hnew_; clear hg_ hnew_; (first | rw [← Ny148.out] at ho11 | (simp only [Int.reduceToNat] at ho11; rw [← Ny148.out] at ho11)); have n0_ := Aside0.mk (Kd.V_elder' (by (with_reducible repeat (first | apply Kd.V_alloc | apply Kd.V_drewN | apply Kd.V_drew)); exact HO0.out) (Kd.N_base ho11) hb); have n1_ := Aside0.mk (Kd.V_elder' (by (with_reducible repeat (first | apply Kd.V_alloc | apply Kd.V_drewN | apply Kd.V_drew)); exact HO2_1.out) (Kd.N_base ho11) hb); have n2_ := Aside0.mk (Kd.N_lower ho11 (q21 (by repeat (first | (with_reducible first | exact HB.out | apply q10 | apply q9 | apply q11 | refine q14 ?_ GE147.out) | exact HB.out)))); have n3_ := Aside0.mk (q19 (g := gb147) (o := .cells #[.int .i64 a2_0, .slice A2_1 l2_1.length c2_1, .bool a2_2] 69 (0, 0)) (by (with_reducible repeat (first | refine q13 ?_ _ | refine q15 ?_ | refine q12 ?_ _)); exact BK147.out) hb); have n4_ := Aside0.mk (q20 (by repeat (first | (with_reducible first | exact HB.out | apply q10 | apply q9 | apply q11 | refine q14 ?_ GE147.out) | exact HB.out)) hb); clear HO0; clear HO2_1; clear BK147; clear HB; have HO0 := n0_; have HO2_1 := n1_; have HO150 := n2_; have BK147 := n3_; have HB := n4_; clear n0_ n1_ n2_ n3_ n4_; clear hb ho11) | ((with_reducible refine gate_builtin (b := .append) (xs := #[.tmp 8, .tmp 9]) rfl ?_); at_builtin; refine Kd.N_append_rows k69 (w0 := w) w.heap.size rfl (.tmp 8) (.tmp 9) 53 69 (.agg #[(.int .i64 0), (.slice none 0 0), (.bool false)]) 40 rfl Try.underlying53 info69 rfl (by decide) (by omega) v149 y148 l0 _ _ _ (fun k_ => ((P0_ k_ ∨ P2_1_ k_) ∨ w.heap.size ≤ k_) ∧ k_ ≠ gb147) (fun k_ => ((fun k_ => ((P0_ k_ ∨ P2_1_ k_) ∨ w.heap.size ≤ k_) ∧ k_ ≠ gb147)) k_ ∧ some k_ ≠ (v149 : Value).ownBlock) rfl rfl ?aO ?aR (fun _ hk => hk) ?aF ?aB ?aS ?aL ?_; (case aR => exact (by skip; exact Kd.V_F (Kd.V_mono (ok' := (fun k_ => ((fun k_ => ((P0_ k_ ∨ P2_1_ k_) ∨ w.heap.size ≤ k_) ∧ k_ ≠ gb147)) k_ ∧ some k_ ≠ (v149 : Value).ownBlock)) (HO0.out) (fun k_ hk => ⟨⟨hk.1.1, hk.1.2⟩, hk.2⟩)))); (case aB => exact (by repeat (first | (with_reducible first | exact HB.out | apply q10 | apply q9 | apply q11 | refine q14 ?_ GE147.out) | exact HB.out))); (case aF => exact (fun k_ hk => ⟨(.inr (Nat.le_trans (q21 (by repeat (first | (with_reducible first | exact HB.out | apply q10 | apply q9 | apply q11 | refine q14 ?_ GE147.out) | exact HB.out))) hk)), Kd.freshB (g := gb147) (o := .cells #[.int .i64 a2_0, .slice A2_1 l2_1.length c2_1, .bool a2_2] 69 (0, 0)) (by (with_reducible repeat (first | refine q13 ?_ _ | refine q15 ?_ | refine q12 ?_ _)); exact BK147.out) k_ hk⟩)); (case aO => exact (by (with_reducible repeat (first | apply Kd.N_alloc | apply Kd.N_drewN | apply Kd.N_drew)); exact HO150.out)); (case aS => exact (q21 (by repeat (first | (with_reducible first | exact HB.out | apply q10 | apply q9 | apply q11 | refine q14 ?_ GE147.out) | exact HB.out)))); (case aL => have := LMc4.out; omega); intro v152 w12 ho hb hg hat; rw [← Ny151.out] at ho; have n0_ := Aside0.mk (Kd.V_afterv (ok := (fun k_ => ((P0_ k_ ∨ P2_1_ k_) ∨ w.heap.size ≤ k_) ∧ k_ ≠ gb147)) (by (with_reducible repeat (first | apply Kd.V_alloc | apply Kd.V_drewN | apply Kd.V_drew)); exact HO0.out) hg hat); have n1_ := Aside0.mk (Kd.V_afterv (ok := (fun k_ => ((P0_ k_ ∨ P2_1_ k_) ∨ w.heap.size ≤ k_) ∧ k_ ≠ gb147)) (by (with_reducible repeat (first | apply Kd.V_alloc | apply Kd.V_drewN | apply Kd.V_drew)); exact HO2_1.out) hg hat); have n2_ := Aside0.mk (q45 (g := gb147) (o := .cells #[.int .i64 a2_0, .slice A2_1 l2_1.length c2_1, .bool a2_2] 69 (0, 0)) (by (with_reducible repeat (first | refine q13 ?_ _ | refine q15 ?_ | refine q12 ?_ _)); exact BK147.out) hg (Kd.N_away HO150.out (fun _ hk => hk.2))); have n3_ := Aside0.mk (hb); have n4_ := Aside0.mk (ho); clear HO0; clear HO2_1; clear BK147; clear HB; clear HO150; have HO0 := n0_; have HO2_1 := n1_; have BK147 := n2_; have HB := n3_; have HO153 := n4_; clear n0_ n1_ n2_ n3_ n4_; clear ho hb hg hat; have hcz13_0 : w12.cell? ⟨gb147, 0, none⟩ = some (.int .i64 a2_0) := (q16 BK147.out 0).trans rfl; have hcz13_1 : w12.cell? ⟨gb147, 1, none⟩ = some (.slice A2_1 l2_1.length c2_1) := (q16 BK147.out 1).trans rfl; have hcz13_2 : w12.cell? ⟨gb147, 2, none⟩ = some (.bool a2_2) := (q16 BK147.out 2).trans rfl; have hfz13_0 := q0 BK147.out 0; have hfz13_1 := q0 BK147.out 1; have hfz13_2 := q0 BK147.out 2; have p8 : 0 ≤ ((ji5) : Int) := of_decide_eq_true (by first | (with_reducible assumption) | assumption); have q8 : ((ji5) : Int) < ((y151.length : Int) : Int) := of_decide_eq_true (by first | (with_reducible assumption) | assumption); obtain ⟨go8, co8, eo8, gb8, gl8, cl8, HG8⟩ := Kd.N_form HO153.out (by omega); (first | cases eo8 | (injection eo8 with ea_ en_ ec_; (first | subst ea_ | (injection ea_ with ea_; subst ea_)); subst ec_; clear en_)); have GB8 := Aside0.mk gb8; have GG8 := Aside0.mk HG8; clear gb8 gl8 HG8; obtain ⟨ce8, hcl8, hM8, hcc8, hfr8⟩ := Kd.N_elem HO153.out z69 ((ji5) : Int) p8 q8; obtain ⟨ua8_1, uc8_1, rfl, ul8_1, ge8_1⟩ := k69_openF hM8; have hx8_0 : w12.cell? ⟨go8, ((ji5) : Int).toNat * 3, none⟩ = some (.int .i64 ((q23 y151 (ji5)).f0)) := hcc8 0 _ rfl; have hx8_1 : w12.cell? ⟨go8, ((ji5) : Int).toNat * 3 + 1, none⟩ = some (.slice ua8_1 ((q23 y151 (ji5)).f1).length uc8_1) := hcc8 1 _ rfl; have hx8_2 : w12.cell? ⟨go8, ((ji5) : Int).toNat * 3 + 2, none⟩ = some (.bool ((q23 y151 (ji5)).f2)) := hcc8 2 _ rfl; have hf8_0 : w12.frozen? ⟨go8, ((ji5) : Int).toNat * 3, none⟩ = false := hfr8 0; have hf8_1 : w12.frozen? ⟨go8, ((ji5) : Int).toNat * 3 + 1, none⟩ = false := hfr8 1; have hf8_2 : w12.frozen? ⟨go8, ((ji5) : Int).toNat * 3 + 2, none⟩ = false := hfr8 2; clear hcl8 hcc8 hfr8 hM8; replace p8 := eq_true p8; replace q8 := eq_true q8; have HX14 := Aside0.mk (show Kd.N k69 69 w12 w.heap.size (fun k_ => ((P0_ k_ ∨ P2_1_ k_) ∨ w.heap.size ≤ k_) ∧ k_ ≠ gb147) (.slice (some ⟨go8, 0, none⟩) y151.length co8) y151 from (by (with_reducible repeat (first | apply Kd.N_alloc | apply Kd.N_drewN | apply Kd.N_drew)); exact HO153.out)); obtain ⟨ce14, hcl14, hM14, hcc14, hfr14⟩ := Kd.N_elem HX14.out z69 ((ji5) : Int) (of_decide_eq_true (by first | (with_reducible assumption) | assumption)) (by have h_ : ((ji5) : Int) < ((y151.length : Int) : Int) := of_decide_eq_true (by first | (with_reducible assumption) | assumption); first | exact h_ | (have e_ := (Kd.N_reads' HO153.out).1; omega) | simpa using h_); obtain ⟨ua14_1, uc14_1, rfl, ul14_1, ge14_1⟩ := k69_openF hM14; have HP14 := Kd.N_seg HX14.out ((ji5) : Int) (of_decide_eq_true (by first | (with_reducible assumption) | assumption)) (by have h_ : ((ji5) : Int) < ((y151.length : Int) : Int) := of_decide_eq_true (by first | (with_reducible assumption) | assumption); first | exact h_ | (have e_ := (Kd.N_reads' HO153.out).1; omega) | simpa using h_) (seg := [.int .i64 a2_0, .slice A2_1 l2_1.length c2_1, .bool a2_2]) (j := 0) hcl14 hcc14 (show 3 ≤ 3 from by decide) (x' := (⟨a2_0, l2_1, a2_2⟩ : S69)) (k69_mkF _ _ (⟨a2_0, l2_1, a2_2⟩ : S69) (Kd.V_reads' (Kd.V_mono (ok' := (fun k_ => ((fun k_ => ((P0_ k_ ∨ P2_1_ k_) ∨ w.heap.size ≤ k_) ∧ k_ ≠ gb147)) k_ ∧ k_ ≠ go8)) (HO2_1.out) (fun k_ hk => ⟨⟨hk.1.1, hk.1.2⟩, fun e_ => (hk.2) (by rw [e_]; rfl)⟩))).2.1 (Kd.V_F (Kd.V_mono (ok' := (fun k_ => ((fun k_ => ((P0_ k_ ∨ P2_1_ k_) ∨ w.heap.size ≤ k_) ∧ k_ ≠ gb147)) k_ ∧ k_ ≠ go8)) (HO2_1.out) (fun k_ hk => ⟨⟨hk.1.1, hk.1.2⟩, fun e_ => (hk.2) (by rw [e_]; rfl)⟩)))) (fun _ hk => hk); have hx14_0 := hcc14 0 _ rfl; (try simp only [show (k69).sz = 3 from rfl, Nat.mul_one, Nat.add_zero] at hx14_0); have hf14_0 := hfr14 0; (try simp only [show (k69).sz = 3 from rfl, Nat.mul_one, Nat.add_zero] at hf14_0); have hx14_1 := hcc14 1 _ rfl; (try simp only [show (k69).sz = 3 from rfl, Nat.mul_one, Nat.add_zero] at hx14_1); have hf14_1 := hfr14 1; (try simp only [show (k69).sz = 3 from rfl, Nat.mul_one, Nat.add_zero] at hf14_1); have hx14_2 := hcc14 2 _ rfl; (try simp only [show (k69).sz = 3 from rfl, Nat.mul_one, Nat.add_zero] at hx14_2); have hf14_2 := hfr14 2; (try simp only [show (k69).sz = 3 from rfl, Nat.mul_one, Nat.add_zero] at hf14_2); clear hcl14 hcc14 hfr14 hM14) | ((with_reducible refine gate_store (t := 69) (p := 15) rfl ?_); refine store_event (t := 69) (p := 15) (v := ?vo_w15) (w1 := (((w12.setCell ⟨go8, ((ji5) : Int).toNat * 3, none⟩ (.int .i64 a2_0)).setCell ⟨go8, ((ji5) : Int).toNat * 3 + 1, none⟩ (.slice A2_1 l2_1.length c2_1)).setCell ⟨go8, ((ji5) : Int).toNat * 3 + 2, none⟩ (.bool a2_2))) ?hg ?ho ?hn ?hr ?_; (case ho => rfl); (case hg => rfl); (case hn => rfl); (case hr => first | (go_simp; done) | (go_simp; rfl)); intro w15 hw; have hg : w12.grownBy w15 (some go8) := (by rw [hw]; exact HP14.2); have hp_ : Kd.N k69 69 w15 w.heap.size (fun k_ => ((P0_ k_ ∨ P2_1_ k_) ∨ w.heap.size ≤ k_) ∧ k_ ≠ gb147) (.slice (some ⟨go8, 0, none⟩) y151.length co8) y154 := (by rw [hw, Ny154.out]; exact HP14.1); clear HP14; have n0_ := Aside0.mk (Kd.V_afterv (v := (.slice (some ⟨go8, 0, none⟩) y151.length co8)) (v1 := (.slice (some ⟨go8, 0, none⟩) y151.length co8)) (ok := (fun k_ => ((P0_ k_ ∨ P2_1_ k_) ∨ w.heap.size ≤ k_) ∧ k_ ≠ gb147)) (by (with_reducible repeat (first | apply Kd.V_alloc | apply Kd.V_drewN | apply Kd.V_drew)); exact HO0.out) hg (.inl rfl)); have n1_ := Aside0.mk (Kd.V_afterv (v := (.slice (some ⟨go8, 0, none⟩) y151.length co8)) (v1 := (.slice (some ⟨go8, 0, none⟩) y151.length co8)) (ok := (fun k_ => ((P0_ k_ ∨ P2_1_ k_) ∨ w.heap.size ≤ k_) ∧ k_ ≠ gb147)) (by (with_reducible repeat (first | apply Kd.V_alloc | apply Kd.V_drewN | apply Kd.V_drew)); exact HO2_1.out) hg (.inl rfl)); have n2_ := Aside0.mk (q45 (g := gb147) (o := .cells #[.int .i64 a2_0, .slice A2_1 l2_1.length c2_1, .bool a2_2] 69 (0, 0)) (by (with_reducible repeat (first | refine q13 ?_ _ | refine q15 ?_ | refine q12 ?_ _)); exact BK147.out) hg (Kd.N_away HO153.out (fun _ hk => hk.2))); have n3_ := Aside0.mk (hp_); have n4_ := Aside0.mk ((by rw [hw]; exact q14 (q14 (q14 (HB.out) GB8.out) GB8.out) GB8.out : Below w.heap.size w w15)); clear HO0; clear HO2_1; clear BK147; clear HO153; clear HB; have HO0 := n0_; have HO2_1 := n1_; have BK147 := n2_; have HO153 := n3_; have HB := n4_; clear n0_ n1_ n2_ n3_ n4_; clear hg hw hp_))
    go_ret
    exact ⟨_, by first | rfl | (simp [q26, q25] <;> rfl) | (simp only [← hji5]; first | rfl | (simp [q26, q25] <;> rfl)) | (simp [*, q26, q25] <;> rfl), by (with_reducible repeat (first | apply Kd.N_alloc | apply Kd.N_drewN | apply Kd.N_drew)); exact Kd.N_mono HO153.out (fun _ hk => hk.1), by repeat (first | (with_reducible first | exact HB.out | apply q10 | apply q9 | apply q11 | refine q14 ?_ GE147.out) | exact HB.out)⟩
   ·rw [if_neg c7] at H
    exact absurd H (by simp)
  ·rw [if_neg c6] at H
   exact absurd H (by simp)
 ·rw [if_neg c4] at H
  exact absurd H (by simp)
def crosstreeref10_End.f (l0 : List (S69)) (a1 : Int) : Option ((List (S69)) × Int) := (crosstreeref10_Is.f l0 a1).bind fun t155 => (if t155 = true then (if 0 ≤ (wrap64 (a1 - 1)) then (if (wrap64 (a1 - 1)) < (l0.length : Int) then (if (q23 l0 (wrap64 (a1 - 1))).f2 = true then (some (l0, 9)) else ((crosstreeref10_with.f l0 a1 ((q23 l0 (wrap64 (a1 - 1))).f0) ((q23 l0 (wrap64 (a1 - 1))).f1) true).bind fun t159 => (some (t159, 0)))) else (none)) else (none)) else (some (l0, 9)))
set_option maxHeartbeats 8000000 in
set_option maxRecDepth 100000 in
theorem crosstreeref10_End.calls (P0_ : Nat → Prop) (A0 : Option Addr) (c0 : Nat) (l0 : List (S69)) (a1 : Int) (r1 : List (S69)) (r2 : Int) (w : World) (hs0 : Kd.V k69 69 w w.heap.size (fun k_ => P0_ k_) (.slice A0 l0.length c0) l0) (h : crosstreeref10_End.f l0 a1 = some (r1, r2)) :
  Calls Try.prog 24 #[.slice A0 l0.length c0, .int .i64 a1] w fun e w' => ∃ v0_ : Value, e = .returned (.tuple #[v0_, .int .i64 r2]) ∧ Kd.V k69 69 w' w.heap.size (fun k_ => (P0_ k_ ∨ w.heap.size ≤ k_)) v0_ r1 ∧ Below w.heap.size w w' := by
 have hu69 := Try.underlying69
 have HO0 := Aside0.mk (show Kd.V k69 69 w w.heap.size (fun k_ => (P0_ k_ ∨ w.heap.size ≤ k_)) (.slice A0 l0.length c0) l0 from Kd.V_mono hs0 (fun k_ hk => .inl hk))
 have HB := Aside0.mk (Below.refl w.heap.size w)
 have H : ((crosstreeref10_Is.f l0 a1).bind fun t155 => (if t155 = true then (if 0 ≤ (wrap64 (a1 - 1)) then (if (wrap64 (a1 - 1)) < (l0.length : Int) then (if (q23 l0 (wrap64 (a1 - 1))).f2 = true then (some (l0, 9)) else ((crosstreeref10_with.f l0 a1 ((q23 l0 (wrap64 (a1 - 1))).f0) ((q23 l0 (wrap64 (a1 - 1))).f1) true).bind fun t159 => (some (t159, 0)))) else (none)) else (none)) else (some (l0, 9)))) = some (r1, r2) := h
 clear h
 replace H := Option.bind_eq_some_iff.mp H
 obtain ⟨t155, A30, H⟩ := H
 replace H : (if t155 = true then (if 0 ≤ (wrap64 (a1 - 1)) then (if (wrap64 (a1 - 1)) < (l0.length : Int) then (if (q23 l0 (wrap64 (a1 - 1))).f2 = true then (some (l0, 9)) else ((crosstreeref10_with.f l0 a1 ((q23 l0 (wrap64 (a1 - 1))).f0) ((q23 l0 (wrap64 (a1 - 1))).f1) true).bind fun t159 => (some (t159, 0)))) else (none)) else (none)) else (some (l0, 9))) = some (r1, r2) := H
 have A3 := Aside0.mk A30
 clear A30
 by_cases c4 : t155 = true
 ·subst c4
  have H1 : (if 0 ≤ (wrap64 (a1 - 1)) then (if (wrap64 (a1 - 1)) < (l0.length : Int) then (if (q23 l0 (wrap64 (a1 - 1))).f2 = true then (some (l0, 9)) else ((crosstreeref10_with.f l0 a1 ((q23 l0 (wrap64 (a1 - 1))).f0) ((q23 l0 (wrap64 (a1 - 1))).f1) true).bind fun t159 => (some (t159, 0)))) else (none)) else (none)) = some (r1, r2) := by rw [if_pos rfl] at H; exact H
  clear H
  have H := H1
  clear H1
  obtain ⟨ji5, hji5⟩ : ∃ j_ : Int, (wrap64 (a1 - 1)) = j_ := ⟨_, rfl⟩
  replace H : (if 0 ≤ (ji5) then (if (ji5) < (l0.length : Int) then (if (q23 l0 (ji5)).f2 = true then (some (l0, 9)) else ((crosstreeref10_with.f l0 a1 ((q23 l0 (ji5)).f0) ((q23 l0 (ji5)).f1) true).bind fun t159 => (some (t159, 0)))) else (none)) else (none)) = some (r1, r2) := by first | (rw [hji5] at H; exact H) | (simp only [hji5] at H ⊢; exact H)
  (try rw [hji5] at A3)
  have hji5w : (IntKind.i64.wrap (a1 - 1)) = ji5 := (i64_w _).trans hji5
  by_cases c6 : 0 ≤ (ji5)
  ·rw [if_pos c6] at H
   have c6b0 : decide (0 ≤ (ji5)) = true := decide_eq_true c6
   clear c6
   by_cases c7 : (ji5) < (l0.length : Int)
   ·rw [if_pos c7] at H
    have c7b0 : decide ((ji5) < (l0.length : Int)) = true := decide_eq_true c7
    clear c7
    obtain ⟨bq8, hbq8⟩ : ∃ b_ : Bool, b_ = ((q23 l0 (ji5)).f2) := ⟨_, rfl⟩
    replace H : (if bq8 = true then (some (l0, 9)) else ((crosstreeref10_with.f l0 a1 ((q23 l0 (ji5)).f0) ((q23 l0 (ji5)).f1) true).bind fun t159 => (some (t159, 0)))) = some (r1, r2) := by rw [← hbq8] at H; exact H
    have Nbq8 := Aside0.mk hbq8
    clear hbq8
    by_cases c9 : bq8 = true
    ·subst c9
     have H1 : (some (l0, 9)) = some (r1, r2) := by rw [if_pos rfl] at H; exact H
     clear H
     have H := H1
     clear H1
     simp only [Option.some.injEq, Prod.mk.injEq] at H
     obtain ⟨rfl, rfl⟩ := H
     go_enter Try.func24, Try.ntmps24
     go_wp2_with (first | ((with_reducible refine q37 (f := 31) rfl ?_); refine goesL_ (some 9) rfl rfl Try.func31 (by kernel_rfl) rfl #[.slice A0 l0.length c0, .int .i64 a1] rfl (by (try simp only [List.map_toArray, List.map_cons, List.map_nil]); first | done | rfl | (simp only [List.length_drop, List.length_take]; rfl)) ?_; (with_reducible refine (crosstreeref10_Is.calls _ _ l0 a1 true _ ?side1 ?side2 A3.out).mono ?_); (case side1 => repeat (first | exact (Kd.V_reads' HO0.out).2.2 | (with_reducible refine Kd.C_alloc ?_ _) | (with_reducible refine Kd.C_drewN ?_ _) | (with_reducible refine Kd.C_drew ?_))); (case side2 => exact (Kd.V_reads' HO0.out).2.1); rintro e w' ⟨rfl, ⟨nd, rfl⟩⟩; refine ⟨_, rfl, ?_⟩; have p156 : 0 ≤ ((ji5) : Int) := of_decide_eq_true (by first | (with_reducible assumption) | assumption); have q156 : (ji5) < (l0.length : Int) := of_decide_eq_true (by first | (with_reducible assumption) | assumption); obtain ⟨ad156, A156_1, c156_1, e156, hx156_0, hx156_1, hx156_2, hl156_1, hi156_1⟩ := at_T69 (Kd.V_reads' HO0.out).2.2 (ji5) p156 q156; (try rw [← Nbq8.out] at hx156_2); cases e156; obtain ⟨ce156, hce156, hMe156, hcc156⟩ := Kd.V_get HO0.out z69 (ji5) p156 (by first | exact q156 | exact of_decide_eq_true (by first | (with_reducible assumption) | assumption) | (have e_ := (Kd.V_reads' HO0.out).1; omega)); obtain ⟨ua156_1, uc156_1, rfl, ul156_1, ge156_1⟩ := k69_openF hMe156; have hv156_1 := hcc156 1 _ rfl; rw [add_field _ _ 1 (by omega)] at hv156_1; replace hv156_1 := Option.some.inj (hv156_1.symm.trans hx156_1); injection hv156_1 with hva_ hvn_ hvc_; rw [hva_] at ge156_1; rw [hvc_] at ul156_1; have HL156_1 := Aside0.mk (show Kd.V k42 42 _ w.heap.size _ _ ((q23 l0 (ji5)).f1) from Kd.V_mk ul156_1 ge156_1); clear hva_ hvn_ hvc_ ge156_1 ul156_1; clear hcc156 hce156; have HR156_1 := Aside0.mk hi156_1; have HC156_1 := Aside0.mk hl156_1; clear hi156_1 hl156_1; replace p156 := eq_true p156; replace q156 := eq_true q156))
     go_ret2
     exact ⟨_, by first | rfl | (simp [q26, q25] <;> rfl) | (simp only [← hji5]; first | rfl | (simp [q26, q25] <;> rfl)) | (simp [*, q26, q25] <;> rfl), by (with_reducible repeat (first | apply Kd.V_alloc | apply Kd.V_drewN | apply Kd.V_drew)); exact HO0.out, by repeat (first | (with_reducible first | exact HB.out | apply q10 | apply q9 | apply q11) | exact HB.out)⟩
    ·replace c9 := Bool.eq_false_iff.mpr c9
     subst c9
     have H1 : ((crosstreeref10_with.f l0 a1 ((q23 l0 (ji5)).f0) ((q23 l0 (ji5)).f1) true).bind fun t159 => (some (t159, 0))) = some (r1, r2) := by rw [if_neg (show ¬ (false = true) by decide)] at H; exact H
     clear H
     have H := H1
     clear H1
     replace H := Option.bind_eq_some_iff.mp H
     obtain ⟨t159, A100, H⟩ := H
     replace H : (some (t159, 0)) = some (r1, r2) := H
     have A10 := Aside0.mk A100
     clear A100
     simp only [Option.some.injEq, Prod.mk.injEq] at H
     obtain ⟨rfl, rfl⟩ := H
     go_enter Try.func24, Try.ntmps24
     go_wp2_with (first | ((with_reducible refine q37 (f := 31) rfl ?_); refine goesL_ (some 9) rfl rfl Try.func31 (by kernel_rfl) rfl #[.slice A0 l0.length c0, .int .i64 a1] rfl (by (try simp only [List.map_toArray, List.map_cons, List.map_nil]); first | done | rfl | (simp only [List.length_drop, List.length_take]; rfl)) ?_; (with_reducible refine (crosstreeref10_Is.calls _ _ l0 a1 true _ ?side1 ?side2 A3.out).mono ?_); (case side1 => repeat (first | exact (Kd.V_reads' HO0.out).2.2 | (with_reducible refine Kd.C_alloc ?_ _) | (with_reducible refine Kd.C_drewN ?_ _) | (with_reducible refine Kd.C_drew ?_))); (case side2 => exact (Kd.V_reads' HO0.out).2.1); rintro e w' ⟨rfl, ⟨nd, rfl⟩⟩; refine ⟨_, rfl, ?_⟩; have p156 : 0 ≤ ((ji5) : Int) := of_decide_eq_true (by first | (with_reducible assumption) | assumption); have q156 : (ji5) < (l0.length : Int) := of_decide_eq_true (by first | (with_reducible assumption) | assumption); obtain ⟨ad156, A156_1, c156_1, e156, hx156_0, hx156_1, hx156_2, hl156_1, hi156_1⟩ := at_T69 (Kd.V_reads' HO0.out).2.2 (ji5) p156 q156; (try rw [← Nbq8.out] at hx156_2); cases e156; obtain ⟨ce156, hce156, hMe156, hcc156⟩ := Kd.V_get HO0.out z69 (ji5) p156 (by first | exact q156 | exact of_decide_eq_true (by first | (with_reducible assumption) | assumption) | (have e_ := (Kd.V_reads' HO0.out).1; omega)); obtain ⟨ua156_1, uc156_1, rfl, ul156_1, ge156_1⟩ := k69_openF hMe156; have hv156_1 := hcc156 1 _ rfl; rw [add_field _ _ 1 (by omega)] at hv156_1; replace hv156_1 := Option.some.inj (hv156_1.symm.trans hx156_1); injection hv156_1 with hva_ hvn_ hvc_; rw [hva_] at ge156_1; rw [hvc_] at ul156_1; have HL156_1 := Aside0.mk (show Kd.V k42 42 _ w.heap.size _ _ ((q23 l0 (ji5)).f1) from Kd.V_mk ul156_1 ge156_1); clear hva_ hvn_ hvc_ ge156_1 ul156_1; clear hcc156 hce156; have HR156_1 := Aside0.mk hi156_1; have HC156_1 := Aside0.mk hl156_1; clear hi156_1 hl156_1; replace p156 := eq_true p156; replace q156 := eq_true q156; have p157 : 0 ≤ ((ji5) : Int) := of_decide_eq_true (by first | (with_reducible assumption) | assumption); have q157 : (ji5) < (l0.length : Int) := of_decide_eq_true (by first | (with_reducible assumption) | assumption); obtain ⟨ad157, A157_1, c157_1, e157, hx157_0, hx157_1, hx157_2, hl157_1, hi157_1⟩ := at_T69 (Kd.V_reads' HO0.out).2.2 (ji5) p157 q157; (try rw [← Nbq8.out] at hx157_2); obtain rfl : ad156 = ad157 := (by injection e157); obtain ⟨ce157, hce157, hMe157, hcc157⟩ := Kd.V_get HO0.out z69 (ji5) p157 (by first | exact q157 | exact of_decide_eq_true (by first | (with_reducible assumption) | assumption) | (have e_ := (Kd.V_reads' HO0.out).1; omega)); obtain ⟨ua157_1, uc157_1, rfl, ul157_1, ge157_1⟩ := k69_openF hMe157; have hv157_1 := hcc157 1 _ rfl; rw [add_field _ _ 1 (by omega)] at hv157_1; replace hv157_1 := Option.some.inj (hv157_1.symm.trans hx157_1); injection hv157_1 with hva_ hvn_ hvc_; rw [hva_] at ge157_1; rw [hvc_] at ul157_1; have HL157_1 := Aside0.mk (show Kd.V k42 42 _ w.heap.size _ _ ((q23 l0 (ji5)).f1) from Kd.V_mk ul157_1 ge157_1); clear hva_ hvn_ hvc_ ge157_1 ul157_1; clear hcc157 hce157; have HR157_1 := Aside0.mk hi157_1; have HC157_1 := Aside0.mk hl157_1; clear hi157_1 hl157_1; replace p157 := eq_true p157; replace q157 := eq_true q157; have ea_ := Option.some.inj (hx156_1.symm.trans hx157_1); injection ea_ with ea_ en_ ec_; subst ea_; subst ec_; clear en_) | ((with_reducible refine q32 (N := 6) rfl ?_); refine q29 ?hg (N := 6) ?hd (cs := #[.int .i64 0, .slice none 0 0, .bool false]) (t := 69) ?hr ?_; (case hd => rfl); (case hg => rfl); (case hr => first | (go_simp; done) | (go_simp; rfl)); intro gb158 hg w11 hbox hb; have n0_ := Aside0.mk (Kd.V_below (Kd.V_elderB (by (with_reducible repeat (first | apply Kd.V_alloc | apply Kd.V_drewN | apply Kd.V_drew)); exact HO0.out) gb158 (Nat.le_of_eq hg.symm)) hb); have n1_ := Aside0.mk (Kd.V_below (Kd.V_elderB (by (with_reducible repeat (first | apply Kd.V_alloc | apply Kd.V_drewN | apply Kd.V_drew)); exact HL156_1.out) gb158 (Nat.le_of_eq hg.symm)) hb); have n2_ := Aside0.mk (Kd.V_below (Kd.V_elderB (by (with_reducible repeat (first | apply Kd.V_alloc | apply Kd.V_drewN | apply Kd.V_drew)); exact HL157_1.out) gb158 (Nat.le_of_eq hg.symm)) hb); have n3_ := Aside0.mk (Kd.C_below (by repeat (first | (with_reducible exact HR156_1.out) | (with_reducible refine Kd.C_alloc ?_ _) | (with_reducible refine Kd.C_drewN ?_ _) | (with_reducible refine Kd.C_drew ?_) | exact HR156_1.out)) hb); have n4_ := Aside0.mk (Kd.C_below (by repeat (first | (with_reducible exact HR157_1.out) | (with_reducible refine Kd.C_alloc ?_ _) | (with_reducible refine Kd.C_drewN ?_ _) | (with_reducible refine Kd.C_drew ?_) | exact HR157_1.out)) hb); have n5_ := Aside0.mk (q20 (by repeat (first | (with_reducible first | exact HB.out | apply q10 | apply q9 | apply q11) | exact HB.out)) hb); have n6_ := Aside0.mk (hbox); have n7_ := Aside0.mk ((by rw [hg]; exact (q21 (by repeat (first | (with_reducible first | exact HB.out | apply q10 | apply q9 | apply q11) | exact HB.out))) : w.heap.size ≤ gb158)); have n8_ := Aside0.mk ((by rw [hg]; exact (q21 (by repeat (first | (with_reducible first | exact HB.out | apply q10 | apply q9 | apply q11) | exact HB.out))) : w.heap.size ≤ gb158)); clear HO0; clear HL156_1; clear HL157_1; clear HR156_1; clear HR157_1; clear HB; have HO0 := n0_; have HL156_1 := n1_; have HL157_1 := n2_; have HR156_1 := n3_; have HR157_1 := n4_; have HB := n5_; have BK158 := n6_; have GW158 := n7_; have GE158 := n8_; clear n0_ n1_ n2_ n3_ n4_ n5_ n6_ n7_ n8_; clear hb hbox hg; have hcz12_0 : w11.cell? ⟨gb158, 0, none⟩ = some (.int .i64 0) := (q16 BK158.out 0).trans rfl; have hcz12_1 : w11.cell? ⟨gb158, 1, none⟩ = some (.slice none 0 0) := (q16 BK158.out 1).trans rfl; have hcz12_2 : w11.cell? ⟨gb158, 2, none⟩ = some (.bool false) := (q16 BK158.out 2).trans rfl; have hfz12_0 := q0 BK158.out 0; have hfz12_1 := q0 BK158.out 1; have hfz12_2 := q0 BK158.out 2) | ((with_reducible refine gate_store (t := 69) (p := 6) rfl ?_); refine store_event (t := 69) (p := 6) (v := ?vo_w13) (w1 := (((w11.setCell ⟨gb158, 0, none⟩ (.int .i64 ((q23 l0 (ji5)).f0))).setCell ⟨gb158, 1, none⟩ (.slice A156_1 ((q23 l0 (ji5)).f1).length c156_1)).setCell ⟨gb158, 2, none⟩ (.bool false))) ?hg ?ho ?hn ?hr ?_; (case ho => rfl); (case hg => rfl); (case hn => rfl); (case hr => first | (go_simp; done) | (go_simp; rfl)); intro w13 hw; have n0_ : Aside0 (Kd.V k69 69 w13 w.heap.size (fun k_ => (P0_ k_ ∨ w.heap.size ≤ k_) ∧ k_ ≠ gb158) (.slice (some ad156) l0.length c0) l0) := ⟨(by rw [hw]; exact (by (with_reducible repeat (first | apply Kd.V_alloc | apply Kd.V_drewN | apply Kd.V_drew)); exact Kd.V_mono (Kd.V_far (p := ⟨gb158, 2, none⟩) (Kd.V_far (p := ⟨gb158, 1, none⟩) (Kd.V_far (p := ⟨gb158, 0, none⟩) (Kd.V_mono HO0.out (fun k_ hk => (⟨hk, hk.2⟩ : _ ∧ k_ ≠ gb158))) (fun _ hk => hk.2) (.int .i64 ((q23 l0 (ji5)).f0))) (fun _ hk => hk.2) (.slice A156_1 ((q23 l0 (ji5)).f1).length c156_1)) (fun _ hk => hk.2) (.bool false)) (fun _ hk => ⟨hk.1.1, hk.1.2⟩)))⟩; have n1_ : Aside0 (Kd.V k42 42 w13 w.heap.size (fun k_ => (P0_ k_ ∨ w.heap.size ≤ k_) ∧ k_ ≠ gb158) (.slice A156_1 ((q23 l0 (ji5)).f1).length c156_1) ((q23 l0 (ji5)).f1)) := ⟨(by rw [hw]; exact (by (with_reducible repeat (first | apply Kd.V_alloc | apply Kd.V_drewN | apply Kd.V_drew)); exact Kd.V_mono (Kd.V_far (p := ⟨gb158, 2, none⟩) (Kd.V_far (p := ⟨gb158, 1, none⟩) (Kd.V_far (p := ⟨gb158, 0, none⟩) (Kd.V_mono HL156_1.out (fun k_ hk => (⟨hk, hk.2⟩ : _ ∧ k_ ≠ gb158))) (fun _ hk => hk.2) (.int .i64 ((q23 l0 (ji5)).f0))) (fun _ hk => hk.2) (.slice A156_1 ((q23 l0 (ji5)).f1).length c156_1)) (fun _ hk => hk.2) (.bool false)) (fun _ hk => ⟨hk.1.1, hk.1.2⟩)))⟩; have n2_ : Aside0 (Kd.V k42 42 w13 w.heap.size (fun k_ => (P0_ k_ ∨ w.heap.size ≤ k_) ∧ k_ ≠ gb158) (.slice A156_1 ((q23 l0 (ji5)).f1).length c156_1) ((q23 l0 (ji5)).f1)) := ⟨(by rw [hw]; exact (by (with_reducible repeat (first | apply Kd.V_alloc | apply Kd.V_drewN | apply Kd.V_drew)); exact Kd.V_mono (Kd.V_far (p := ⟨gb158, 2, none⟩) (Kd.V_far (p := ⟨gb158, 1, none⟩) (Kd.V_far (p := ⟨gb158, 0, none⟩) (Kd.V_mono HL157_1.out (fun k_ hk => (⟨hk, hk.2⟩ : _ ∧ k_ ≠ gb158))) (fun _ hk => hk.2) (.int .i64 ((q23 l0 (ji5)).f0))) (fun _ hk => hk.2) (.slice A156_1 ((q23 l0 (ji5)).f1).length c156_1)) (fun _ hk => hk.2) (.bool false)) (fun _ hk => ⟨hk.1.1, hk.1.2⟩)))⟩; have n3_ : Aside0 (w13.heap[gb158]? = some (.cells #[.int .i64 ((q23 l0 (ji5)).f0), .slice A156_1 ((q23 l0 (ji5)).f1).length c156_1, .bool false] 69 (0, 0))) := ⟨(by rw [hw]; exact (by (with_reducible repeat (first | refine q13 ?_ _ | refine q15 ?_ | refine q12 ?_ _)); refine q28 (cs := #[.int .i64 ((q23 l0 (ji5)).f0), .slice A156_1 ((q23 l0 (ji5)).f1).length c156_1, .bool false]) ?_ 2 _ rfl; (with_reducible repeat (first | refine q13 ?_ _ | refine q15 ?_ | refine q12 ?_ _)); refine q28 (cs := #[.int .i64 ((q23 l0 (ji5)).f0), .slice none 0 0, .bool false]) ?_ 1 _ rfl; (with_reducible repeat (first | refine q13 ?_ _ | refine q15 ?_ | refine q12 ?_ _)); refine q28 (cs := #[.int .i64 0, .slice none 0 0, .bool false]) ?_ 0 _ rfl; (with_reducible repeat (first | refine q13 ?_ _ | refine q15 ?_ | refine q12 ?_ _)); exact BK158.out))⟩; have n4_ : Aside0 (Below w.heap.size w w13) := ⟨(by rw [hw]; exact (by repeat (first | (with_reducible first | exact HB.out | apply q10 | apply q9 | apply q11 | refine q14 ?_ GE158.out) | exact HB.out)))⟩; clear hw; clear HO0; clear HL156_1; clear HL157_1; clear BK158; clear HB; have HO0 := n0_; have HL156_1 := n1_; have HL157_1 := n2_; have BK158 := n3_; have HB := n4_; clear n0_ n1_ n2_ n3_ n4_; have hcz14_0 : w13.cell? ⟨gb158, 0, none⟩ = some (.int .i64 ((q23 l0 (ji5)).f0)) := (q16 BK158.out 0).trans rfl; have hcz14_1 : w13.cell? ⟨gb158, 1, none⟩ = some (.slice A156_1 ((q23 l0 (ji5)).f1).length c156_1) := (q16 BK158.out 1).trans rfl; have hcz14_2 : w13.cell? ⟨gb158, 2, none⟩ = some (.bool false) := (q16 BK158.out 2).trans rfl; have hfz14_0 := q0 BK158.out 0; have hfz14_1 := q0 BK158.out 1; have hfz14_2 := q0 BK158.out 2) | ((with_reducible refine gate_store (t := 4) (p := 25) rfl ?_); refine store_event (t := 4) (p := 25) (v := ?vo_w15) (w1 := (w13.setCell ⟨gb158, 2, none⟩ (.bool true))) ?hg ?ho ?hn ?hr ?_; (case ho => rfl); (case hg => rfl); (case hn => rfl); (case hr => first | (go_simp; done) | (go_simp; rfl)); intro w15 hw; have n0_ : Aside0 (Kd.V k69 69 w15 w.heap.size (fun k_ => (P0_ k_ ∨ w.heap.size ≤ k_) ∧ k_ ≠ gb158) (.slice (some ad156) l0.length c0) l0) := ⟨(by rw [hw]; exact (by (with_reducible repeat (first | apply Kd.V_alloc | apply Kd.V_drewN | apply Kd.V_drew)); exact Kd.V_mono (Kd.V_far (p := ⟨gb158, 2, none⟩) (Kd.V_mono HO0.out (fun k_ hk => (⟨hk, hk.2⟩ : _ ∧ k_ ≠ gb158))) (fun _ hk => hk.2) (.bool true)) (fun _ hk => ⟨hk.1.1, hk.1.2⟩)))⟩; have n1_ : Aside0 (Kd.V k42 42 w15 w.heap.size (fun k_ => (P0_ k_ ∨ w.heap.size ≤ k_) ∧ k_ ≠ gb158) (.slice A156_1 ((q23 l0 (ji5)).f1).length c156_1) ((q23 l0 (ji5)).f1)) := ⟨(by rw [hw]; exact (by (with_reducible repeat (first | apply Kd.V_alloc | apply Kd.V_drewN | apply Kd.V_drew)); exact Kd.V_mono (Kd.V_far (p := ⟨gb158, 2, none⟩) (Kd.V_mono HL156_1.out (fun k_ hk => (⟨hk, hk.2⟩ : _ ∧ k_ ≠ gb158))) (fun _ hk => hk.2) (.bool true)) (fun _ hk => ⟨hk.1.1, hk.1.2⟩)))⟩; have n2_ : Aside0 (Kd.V k42 42 w15 w.heap.size (fun k_ => (P0_ k_ ∨ w.heap.size ≤ k_) ∧ k_ ≠ gb158) (.slice A156_1 ((q23 l0 (ji5)).f1).length c156_1) ((q23 l0 (ji5)).f1)) := ⟨(by rw [hw]; exact (by (with_reducible repeat (first | apply Kd.V_alloc | apply Kd.V_drewN | apply Kd.V_drew)); exact Kd.V_mono (Kd.V_far (p := ⟨gb158, 2, none⟩) (Kd.V_mono HL157_1.out (fun k_ hk => (⟨hk, hk.2⟩ : _ ∧ k_ ≠ gb158))) (fun _ hk => hk.2) (.bool true)) (fun _ hk => ⟨hk.1.1, hk.1.2⟩)))⟩; have n3_ : Aside0 (w15.heap[gb158]? = some (.cells #[.int .i64 ((q23 l0 (ji5)).f0), .slice A156_1 ((q23 l0 (ji5)).f1).length c156_1, .bool true] 69 (0, 0))) := ⟨(by rw [hw]; exact (by (with_reducible repeat (first | refine q13 ?_ _ | refine q15 ?_ | refine q12 ?_ _)); refine q28 (cs := #[.int .i64 ((q23 l0 (ji5)).f0), .slice A156_1 ((q23 l0 (ji5)).f1).length c156_1, .bool false]) ?_ 2 _ rfl; (with_reducible repeat (first | refine q13 ?_ _ | refine q15 ?_ | refine q12 ?_ _)); exact BK158.out))⟩; have n4_ : Aside0 (Below w.heap.size w w15) := ⟨(by rw [hw]; exact (by repeat (first | (with_reducible first | exact HB.out | apply q10 | apply q9 | apply q11 | refine q14 ?_ GE158.out) | exact HB.out)))⟩; clear hw; clear HO0; clear HL156_1; clear HL157_1; clear BK158; clear HB; have HO0 := n0_; have HL156_1 := n1_; have HL157_1 := n2_; have BK158 := n3_; have HB := n4_; clear n0_ n1_ n2_ n3_ n4_; have hcz16_0 : w15.cell? ⟨gb158, 0, none⟩ = some (.int .i64 ((q23 l0 (ji5)).f0)) := (q16 BK158.out 0).trans rfl; have hcz16_1 : w15.cell? ⟨gb158, 1, none⟩ = some (.slice A156_1 ((q23 l0 (ji5)).f1).length c156_1) := (q16 BK158.out 1).trans rfl; have hcz16_2 : w15.cell? ⟨gb158, 2, none⟩ = some (.bool true) := (q16 BK158.out 2).trans rfl; have hfz16_0 := q0 BK158.out 0; have hfz16_1 := q0 BK158.out 1; have hfz16_2 := q0 BK158.out 2))
     (with_reducible refine (crosstreeref10_with.calls (fun k_ => ((P0_ k_ ∨ w.heap.size ≤ k_) ∧ k_ ≠ gb158)) _ _ l0 a1 ((q23 l0 (ji5)).f0) (fun k_ => ((P0_ k_ ∨ w.heap.size ≤ k_) ∧ k_ ≠ gb158)) _ _ ((q23 l0 (ji5)).f1) true t159 _ ?side1 ?side2 A10.out).mono ?_)
     case side1 => exact HO0.out
     case side2 => exact HL157_1.out
     rintro e w17 ⟨v160, rfl, ho0, hb⟩
     have n0_ := Aside0.mk (Kd.V_elder' (by (with_reducible repeat (first | apply Kd.V_alloc | apply Kd.V_drewN | apply Kd.V_drew)); exact HO0.out) (Kd.N_base ho0) hb)
     have n1_ := Aside0.mk (Kd.V_elder' (by (with_reducible repeat (first | apply Kd.V_alloc | apply Kd.V_drewN | apply Kd.V_drew)); exact HL156_1.out) (Kd.N_base ho0) hb)
     have n2_ := Aside0.mk (Kd.V_elder' (by (with_reducible repeat (first | apply Kd.V_alloc | apply Kd.V_drewN | apply Kd.V_drew)); exact HL157_1.out) (Kd.N_base ho0) hb)
     have n3_ := Aside0.mk (Kd.N_lower (Kd.N_mono (ok' := fun k_ => (P0_ k_ ∨ w.heap.size ≤ k_) ∧ k_ ≠ gb158) ho0 (fun k_ hk_ => ⟨Or.elim hk_ (fun hs_ => Or.elim hs_ (fun hs_ => hs_.1) (fun hs_ => hs_.1)) (fun hn_ => (.inr (Nat.le_trans (q21 (by repeat (first | (with_reducible first | exact HB.out | apply q10 | apply q9 | apply q11 | refine q14 ?_ GE158.out) | exact HB.out))) hn_))), Or.elim hk_ (fun hs_ => Or.elim hs_ (fun hs_ => hs_.2) (fun hs_ => hs_.2)) (fun hn_ => (Kd.freshB (g := gb158) (o := .cells #[.int .i64 ((q23 l0 (ji5)).f0), .slice A156_1 ((q23 l0 (ji5)).f1).length c156_1, .bool true] 69 (0, 0)) (by (with_reducible repeat (first | refine q13 ?_ _ | refine q15 ?_ | refine q12 ?_ _)); exact BK158.out) k_ hn_))⟩)) (q21 (by repeat (first | (with_reducible first | exact HB.out | apply q10 | apply q9 | apply q11 | refine q14 ?_ GE158.out) | exact HB.out))))
     skip
     have n6_ := Aside0.mk (q19 (g := gb158) (o := .cells #[.int .i64 ((q23 l0 (ji5)).f0), .slice A156_1 ((q23 l0 (ji5)).f1).length c156_1, .bool true] 69 (0, 0)) (by (with_reducible repeat (first | refine q13 ?_ _ | refine q15 ?_ | refine q12 ?_ _)); exact BK158.out) hb)
     have n7_ := Aside0.mk (q20 (by repeat (first | (with_reducible first | exact HB.out | apply q10 | apply q9 | apply q11 | refine q14 ?_ GE158.out) | exact HB.out)) hb)
     clear HO0
     clear HL156_1
     clear HL157_1
     skip
     skip
     clear BK158
     clear HB
     have HO0 := n0_
     have HL156_1 := n1_
     have HL157_1 := n2_
     have HO161 := n3_
     skip
     skip
     have BK158 := n6_
     have HB := n7_
     clear n0_ n1_ n2_ n3_ n6_ n7_
     (try clear hb)
     (try clear hb2)
     (try clear hk)
     (try clear hi)
     (try clear ho0)
     go_wp2_with (fail)
     go_ret2
     exact ⟨_, by first | rfl | (simp [q26, q25] <;> rfl) | (simp only [← hji5]; first | rfl | (simp [q26, q25] <;> rfl)) | (simp [*, q26, q25] <;> rfl), Kd.N_V (by (with_reducible repeat (first | apply Kd.N_alloc | apply Kd.N_drewN | apply Kd.N_drew)); exact Kd.N_mono HO161.out (fun _ hk => hk.1)), by repeat (first | (with_reducible first | exact HB.out | apply q10 | apply q9 | apply q11 | refine q14 ?_ GE158.out) | exact HB.out)⟩
   ·rw [if_neg c7] at H
    exact absurd H (by simp)
  ·rw [if_neg c6] at H
   exact absurd H (by simp)
 ·replace c4 := Bool.eq_false_iff.mpr c4
  subst c4
  have H1 : (some (l0, 9)) = some (r1, r2) := by rw [if_neg (show ¬ (false = true) by decide)] at H; exact H
  clear H
  have H := H1
  clear H1
  simp only [Option.some.injEq, Prod.mk.injEq] at H
  obtain ⟨rfl, rfl⟩ := H
  go_enter Try.func24, Try.ntmps24
  go_wp2_with (first | ((with_reducible refine q37 (f := 31) rfl ?_); refine goesL_ (some 9) rfl rfl Try.func31 (by kernel_rfl) rfl #[.slice A0 l0.length c0, .int .i64 a1] rfl (by (try simp only [List.map_toArray, List.map_cons, List.map_nil]); first | done | rfl | (simp only [List.length_drop, List.length_take]; rfl)) ?_; (with_reducible refine (crosstreeref10_Is.calls _ _ l0 a1 false _ ?side1 ?side2 A3.out).mono ?_); (case side1 => repeat (first | exact (Kd.V_reads' HO0.out).2.2 | (with_reducible refine Kd.C_alloc ?_ _) | (with_reducible refine Kd.C_drewN ?_ _) | (with_reducible refine Kd.C_drew ?_))); (case side2 => exact (Kd.V_reads' HO0.out).2.1); rintro e w' ⟨rfl, ⟨nd, rfl⟩⟩; refine ⟨_, rfl, ?_⟩))
  go_ret2
  exact ⟨_, by first | rfl | (simp [q26, q25] <;> rfl) | (simp [*, q26, q25] <;> rfl), by (with_reducible repeat (first | apply Kd.V_alloc | apply Kd.V_drewN | apply Kd.V_drew)); exact HO0.out, by repeat (first | (with_reducible first | exact HB.out | apply q10 | apply q9 | apply q11) | exact HB.out)⟩
def crosstreeref10_Pointer.f (a0_0 : Int) (a0_1 : Int) (a0_2 : Int) : Option (Bool) := if a0_1 > 0 then (some (a0_2 == 0)) else (some false)
set_option maxHeartbeats 8000000 in
set_option maxRecDepth 100000 in
theorem crosstreeref10_Pointer.calls (a0_0 : Int) (a0_1 : Int) (a0_2 : Int) (r : Bool) (w : World) (h : crosstreeref10_Pointer.f a0_0 a0_1 a0_2 = some r) :
  Calls Try.prog 40 #[.agg #[.int .i64 a0_0, .int .i64 a0_1, .int .i64 a0_2]] w fun e w' => e = .returned (.bool r) ∧ Below w.heap.size w w' := by
 have hu23 := Try.underlying23
 have HB := Aside0.mk (Below.refl w.heap.size w)
 have H : (if a0_1 > 0 then (some (a0_2 == 0)) else (some false)) = some r := h
 clear h
 by_cases c2 : a0_1 > 0
 ·rw [if_pos c2] at H
  have c2b0 : decide (0 < a0_1) = true := decide_eq_true c2
  clear c2
  obtain rfl := Option.some.inj H
  go_enter Try.func40, Try.ntmps40
  go_wp2_with (first | ((with_reducible refine q32 (N := 1) rfl ?_); refine q29 ?hg (N := 1) ?hd (cs := #[.int .i64 a0_0, .int .i64 a0_1, .int .i64 a0_2]) (t := 23) ?hr ?_; (case hd => rfl); (case hg => rfl); (case hr => first | (go_simp; done) | (go_simp; rfl)); intro gb162 hg w3 hbox hb; have n0_ := Aside0.mk (q20 (by repeat (first | (with_reducible first | exact HB.out | apply q10 | apply q9 | apply q11) | exact HB.out)) hb); have n1_ := Aside0.mk (hbox); have n2_ := Aside0.mk ((by rw [hg]; exact (q21 (by repeat (first | (with_reducible first | exact HB.out | apply q10 | apply q9 | apply q11) | exact HB.out))) : w.heap.size ≤ gb162)); have n3_ := Aside0.mk ((by rw [hg]; exact (q21 (by repeat (first | (with_reducible first | exact HB.out | apply q10 | apply q9 | apply q11) | exact HB.out))) : w.heap.size ≤ gb162)); clear HB; have HB := n0_; have BK162 := n1_; have GW162 := n2_; have GE162 := n3_; clear n0_ n1_ n2_ n3_; clear hb hbox hg; have hcz4_0 : w3.cell? ⟨gb162, 0, none⟩ = some (.int .i64 a0_0) := (q16 BK162.out 0).trans rfl; have hcz4_1 : w3.cell? ⟨gb162, 1, none⟩ = some (.int .i64 a0_1) := (q16 BK162.out 1).trans rfl; have hcz4_2 : w3.cell? ⟨gb162, 2, none⟩ = some (.int .i64 a0_2) := (q16 BK162.out 2).trans rfl; have hfz4_0 := q0 BK162.out 0; have hfz4_1 := q0 BK162.out 1; have hfz4_2 := q0 BK162.out 2))
  go_ret
  exact ⟨by first | rfl | (simp [q26, q25] <;> rfl) | (simp [*, q26, q25] <;> rfl), by repeat (first | (with_reducible first | exact HB.out | apply q10 | apply q9 | apply q11 | refine q14 ?_ GE162.out) | exact HB.out)⟩
 ·rw [if_neg c2] at H
  have c2b0 : decide (0 < a0_1) = false := decide_eq_false c2
  clear c2
  obtain rfl := Option.some.inj H
  go_enter Try.func40, Try.ntmps40
  go_wp2_with (first | ((with_reducible refine q32 (N := 1) rfl ?_); refine q29 ?hg (N := 1) ?hd (cs := #[.int .i64 a0_0, .int .i64 a0_1, .int .i64 a0_2]) (t := 23) ?hr ?_; (case hd => rfl); (case hg => rfl); (case hr => first | (go_simp; done) | (go_simp; rfl)); intro gb162 hg w5 hbox hb; have n0_ := Aside0.mk (q20 (by repeat (first | (with_reducible first | exact HB.out | apply q10 | apply q9 | apply q11) | exact HB.out)) hb); have n1_ := Aside0.mk (hbox); have n2_ := Aside0.mk ((by rw [hg]; exact (q21 (by repeat (first | (with_reducible first | exact HB.out | apply q10 | apply q9 | apply q11) | exact HB.out))) : w.heap.size ≤ gb162)); have n3_ := Aside0.mk ((by rw [hg]; exact (q21 (by repeat (first | (with_reducible first | exact HB.out | apply q10 | apply q9 | apply q11) | exact HB.out))) : w.heap.size ≤ gb162)); clear HB; have HB := n0_; have BK162 := n1_; have GW162 := n2_; have GE162 := n3_; clear n0_ n1_ n2_ n3_; clear hb hbox hg; have hcz6_0 : w5.cell? ⟨gb162, 0, none⟩ = some (.int .i64 a0_0) := (q16 BK162.out 0).trans rfl; have hcz6_1 : w5.cell? ⟨gb162, 1, none⟩ = some (.int .i64 a0_1) := (q16 BK162.out 1).trans rfl; have hcz6_2 : w5.cell? ⟨gb162, 2, none⟩ = some (.int .i64 a0_2) := (q16 BK162.out 2).trans rfl; have hfz6_0 := q0 BK162.out 0; have hfz6_1 := q0 BK162.out 1; have hfz6_2 := q0 BK162.out 2))
  go_ret
  exact ⟨by first | rfl | (simp [q26, q25] <;> rfl) | (simp [*, q26, q25] <;> rfl), by repeat (first | (with_reducible first | exact HB.out | apply q10 | apply q9 | apply q11 | refine q14 ?_ GE162.out) | exact HB.out)⟩
end Go.Proofs.Yteogfjhmjlelnaa.H
namespace Go.Proofs.Yteogfjhmjlelnaa.H
open Go.RowKit Go.Proofs.YteogfjhmjlelnaaW.PrintWords Go.Proofs.YteogfjhmjlelnaaW.PrintLast Go.Proofs.YteogfjhmjlelnaaW.PrintMore
attribute [local go_sem] max2_int min2_int max_two min_two max_three min_three max_four min_four
set_option linter.unusedVariables false
set_option linter.unusedSimpArgs false
def crosstreeref10_May.f (l0 : List (S69)) (a1_0 : Int) (a1_1 : Int) (a1_2 : Int) (a2 : Int) : Option (Bool) := (crosstreeref10_Pointer.f a1_0 a1_1 a1_2).bind fun t164 => (if t164 = true then ((crosstreeref10_Is.f l0 a1_1).bind fun t165 => (if t165 = true then (if 0 ≤ (wrap64 (a1_1 - 1)) then (if (wrap64 (a1_1 - 1)) < (l0.length : Int) then (if (q23 l0 (wrap64 (a1_1 - 1))).f2 = true then (some false) else (if a2 ≥ 0 then (if a2 ≤ (((q23 l0 (wrap64 (a1_1 - 1))).f1).length : Int) then (if a1_0 ≥ 0 then (if a1_0 ≤ (((q23 l0 (wrap64 (a1_1 - 1))).f1).length : Int) then (some (decide ((wrap64 (a1_0 + a2)) ≤ (((q23 l0 (wrap64 (a1_1 - 1))).f1).length : Int)))) else (some false)) else (some false)) else (some false)) else (some false))) else (none)) else (none)) else (some false))) else (some false))
set_option maxHeartbeats 8000000 in
set_option maxRecDepth 100000 in
theorem crosstreeref10_May.calls (A0 : Option Addr) (c0 : Nat) (l0 : List (S69)) (a1_0 : Int) (a1_1 : Int) (a1_2 : Int) (a2 : Int) (r : Bool) (w : World) (hr0 : Kd.C k69 w A0 l0.length l0) (hc0 : l0.length ≤ c0) (h : crosstreeref10_May.f l0 a1_0 a1_1 a1_2 a2 = some r) :
  Calls Try.prog 42 #[.slice A0 l0.length c0, .agg #[.int .i64 a1_0, .int .i64 a1_1, .int .i64 a1_2], .int .i64 a2] w fun e w' => e = .returned (.bool r) ∧ Below w.heap.size w w' := by
 have hu23 := Try.underlying23
 have HR0 := Aside0.mk hr0
 have HC0 := Aside0.mk hc0
 clear hr0 hc0
 have HB := Aside0.mk (Below.refl w.heap.size w)
 have H : ((crosstreeref10_Pointer.f a1_0 a1_1 a1_2).bind fun t164 => (if t164 = true then ((crosstreeref10_Is.f l0 a1_1).bind fun t165 => (if t165 = true then (if 0 ≤ (wrap64 (a1_1 - 1)) then (if (wrap64 (a1_1 - 1)) < (l0.length : Int) then (if (q23 l0 (wrap64 (a1_1 - 1))).f2 = true then (some false) else (if a2 ≥ 0 then (if a2 ≤ (((q23 l0 (wrap64 (a1_1 - 1))).f1).length : Int) then (if a1_0 ≥ 0 then (if a1_0 ≤ (((q23 l0 (wrap64 (a1_1 - 1))).f1).length : Int) then (some (decide ((wrap64 (a1_0 + a2)) ≤ (((q23 l0 (wrap64 (a1_1 - 1))).f1).length : Int)))) else (some false)) else (some false)) else (some false)) else (some false))) else (none)) else (none)) else (some false))) else (some false))) = some r := h
 clear h
 replace H := Option.bind_eq_some_iff.mp H
 obtain ⟨t164, A40, H⟩ := H
 replace H : (if t164 = true then ((crosstreeref10_Is.f l0 a1_1).bind fun t165 => (if t165 = true then (if 0 ≤ (wrap64 (a1_1 - 1)) then (if (wrap64 (a1_1 - 1)) < (l0.length : Int) then (if (q23 l0 (wrap64 (a1_1 - 1))).f2 = true then (some false) else (if a2 ≥ 0 then (if a2 ≤ (((q23 l0 (wrap64 (a1_1 - 1))).f1).length : Int) then (if a1_0 ≥ 0 then (if a1_0 ≤ (((q23 l0 (wrap64 (a1_1 - 1))).f1).length : Int) then (some (decide ((wrap64 (a1_0 + a2)) ≤ (((q23 l0 (wrap64 (a1_1 - 1))).f1).length : Int)))) else (some false)) else (some false)) else (some false)) else (some false))) else (none)) else (none)) else (some false))) else (some false)) = some r := H
 have A4 := Aside0.mk A40
 clear A40
 by_cases c5 : t164 = true
 ·subst c5
  have H1 : ((crosstreeref10_Is.f l0 a1_1).bind fun t165 => (if t165 = true then (if 0 ≤ (wrap64 (a1_1 - 1)) then (if (wrap64 (a1_1 - 1)) < (l0.length : Int) then (if (q23 l0 (wrap64 (a1_1 - 1))).f2 = true then (some false) else (if a2 ≥ 0 then (if a2 ≤ (((q23 l0 (wrap64 (a1_1 - 1))).f1).length : Int) then (if a1_0 ≥ 0 then (if a1_0 ≤ (((q23 l0 (wrap64 (a1_1 - 1))).f1).length : Int) then (some (decide ((wrap64 (a1_0 + a2)) ≤ (((q23 l0 (wrap64 (a1_1 - 1))).f1).length : Int)))) else (some false)) else (some false)) else (some false)) else (some false))) else (none)) else (none)) else (some false))) = some r := by rw [if_pos rfl] at H; exact H
  clear H
  have H := H1
  clear H1
  replace H := Option.bind_eq_some_iff.mp H
  obtain ⟨t165, A60, H⟩ := H
  replace H : (if t165 = true then (if 0 ≤ (wrap64 (a1_1 - 1)) then (if (wrap64 (a1_1 - 1)) < (l0.length : Int) then (if (q23 l0 (wrap64 (a1_1 - 1))).f2 = true then (some false) else (if a2 ≥ 0 then (if a2 ≤ (((q23 l0 (wrap64 (a1_1 - 1))).f1).length : Int) then (if a1_0 ≥ 0 then (if a1_0 ≤ (((q23 l0 (wrap64 (a1_1 - 1))).f1).length : Int) then (some (decide ((wrap64 (a1_0 + a2)) ≤ (((q23 l0 (wrap64 (a1_1 - 1))).f1).length : Int)))) else (some false)) else (some false)) else (some false)) else (some false))) else (none)) else (none)) else (some false)) = some r := H
  have A6 := Aside0.mk A60
  clear A60
  by_cases c7 : t165 = true
  ·subst c7
   have H1 : (if 0 ≤ (wrap64 (a1_1 - 1)) then (if (wrap64 (a1_1 - 1)) < (l0.length : Int) then (if (q23 l0 (wrap64 (a1_1 - 1))).f2 = true then (some false) else (if a2 ≥ 0 then (if a2 ≤ (((q23 l0 (wrap64 (a1_1 - 1))).f1).length : Int) then (if a1_0 ≥ 0 then (if a1_0 ≤ (((q23 l0 (wrap64 (a1_1 - 1))).f1).length : Int) then (some (decide ((wrap64 (a1_0 + a2)) ≤ (((q23 l0 (wrap64 (a1_1 - 1))).f1).length : Int)))) else (some false)) else (some false)) else (some false)) else (some false))) else (none)) else (none)) = some r := by rw [if_pos rfl] at H; exact H
   clear H
   have H := H1
   clear H1
   obtain ⟨ji8, hji8⟩ : ∃ j_ : Int, (wrap64 (a1_1 - 1)) = j_ := ⟨_, rfl⟩
   replace H : (if 0 ≤ (ji8) then (if (ji8) < (l0.length : Int) then (if (q23 l0 (ji8)).f2 = true then (some false) else (if a2 ≥ 0 then (if a2 ≤ (((q23 l0 (ji8)).f1).length : Int) then (if a1_0 ≥ 0 then (if a1_0 ≤ (((q23 l0 (ji8)).f1).length : Int) then (some (decide ((wrap64 (a1_0 + a2)) ≤ (((q23 l0 (ji8)).f1).length : Int)))) else (some false)) else (some false)) else (some false)) else (some false))) else (none)) else (none)) = some r := by first | (rw [hji8] at H; exact H) | (simp only [hji8] at H ⊢; exact H)
   (try rw [hji8] at A4)
   (try rw [hji8] at A6)
   have hji8w : (IntKind.i64.wrap (a1_1 - 1)) = ji8 := (i64_w _).trans hji8
   by_cases c9 : 0 ≤ (ji8)
   ·rw [if_pos c9] at H
    have c9b0 : decide (0 ≤ (ji8)) = true := decide_eq_true c9
    clear c9
    by_cases c10 : (ji8) < (l0.length : Int)
    ·rw [if_pos c10] at H
     have c10b0 : decide ((ji8) < (l0.length : Int)) = true := decide_eq_true c10
     clear c10
     obtain ⟨bq11, hbq11⟩ : ∃ b_ : Bool, b_ = ((q23 l0 (ji8)).f2) := ⟨_, rfl⟩
     replace H : (if bq11 = true then (some false) else (if a2 ≥ 0 then (if a2 ≤ (((q23 l0 (ji8)).f1).length : Int) then (if a1_0 ≥ 0 then (if a1_0 ≤ (((q23 l0 (ji8)).f1).length : Int) then (some (decide ((wrap64 (a1_0 + a2)) ≤ (((q23 l0 (ji8)).f1).length : Int)))) else (some false)) else (some false)) else (some false)) else (some false))) = some r := by rw [← hbq11] at H; exact H
     have Nbq11 := Aside0.mk hbq11
     clear hbq11
     by_cases c12 : bq11 = true
     ·subst c12
      have H1 : (some false) = some r := by rw [if_pos rfl] at H; exact H
      clear H
      have H := H1
      clear H1
      obtain rfl := Option.some.inj H
      go_enter Try.func42, Try.ntmps42
      go_wp2_with (first | ((with_reducible refine q32 (N := 4) rfl ?_); refine q29 ?hg (N := 4) ?hd (cs := #[.int .i64 a1_0, .int .i64 a1_1, .int .i64 a1_2]) (t := 23) ?hr ?_; (case hd => rfl); (case hg => rfl); (case hr => first | (go_simp; done) | (go_simp; rfl)); intro gb163 hg w13 hbox hb; have n0_ := Aside0.mk (q20 (by repeat (first | (with_reducible first | exact HB.out | apply q10 | apply q9 | apply q11) | exact HB.out)) hb); have n1_ := Aside0.mk (hbox); have n2_ := Aside0.mk ((by rw [hg]; exact (q21 (by repeat (first | (with_reducible first | exact HB.out | apply q10 | apply q9 | apply q11) | exact HB.out))) : w.heap.size ≤ gb163)); have n3_ := Aside0.mk ((by rw [hg]; exact (q21 (by repeat (first | (with_reducible first | exact HB.out | apply q10 | apply q9 | apply q11) | exact HB.out))) : w.heap.size ≤ gb163)); clear HB; have HB := n0_; have BK163 := n1_; have GW163 := n2_; have GE163 := n3_; clear n0_ n1_ n2_ n3_; clear hb hbox hg; have hcz14_0 : w13.cell? ⟨gb163, 0, none⟩ = some (.int .i64 a1_0) := (q16 BK163.out 0).trans rfl; have hcz14_1 : w13.cell? ⟨gb163, 1, none⟩ = some (.int .i64 a1_1) := (q16 BK163.out 1).trans rfl; have hcz14_2 : w13.cell? ⟨gb163, 2, none⟩ = some (.int .i64 a1_2) := (q16 BK163.out 2).trans rfl; have hfz14_0 := q0 BK163.out 0; have hfz14_1 := q0 BK163.out 1; have hfz14_2 := q0 BK163.out 2) | ((with_reducible refine q37 (f := 40) rfl ?_); refine goesL_ (some 9) rfl rfl Try.func40 (by kernel_rfl) rfl #[.agg #[.int .i64 a1_0, .int .i64 a1_1, .int .i64 a1_2]] rfl (by (try simp only [List.map_toArray, List.map_cons, List.map_nil]); first | done | rfl | (simp only [List.length_drop, List.length_take]; rfl)) ?_; (with_reducible refine (crosstreeref10_Pointer.calls a1_0 a1_1 a1_2 true _ A4.out).mono ?_); rintro e w15 ⟨rfl, hb⟩; refine ⟨_, rfl, ?_⟩; have n0_ := Aside0.mk (q19 (g := gb163) (o := .cells #[.int .i64 a1_0, .int .i64 a1_1, .int .i64 a1_2] 23 (0, 0)) (by (with_reducible repeat (first | refine q13 ?_ _ | refine q15 ?_ | refine q12 ?_ _)); exact BK163.out) hb); have n1_ := Aside0.mk (q20 (by repeat (first | (with_reducible first | exact HB.out | apply q10 | apply q9 | apply q11 | refine q14 ?_ GE163.out) | exact HB.out)) hb); clear BK163; clear HB; have BK163 := n0_; have HB := n1_; clear n0_ n1_; (try clear hb); (try clear hb2); (try clear hk); (try clear hi); have hcz16_0 : w15.cell? ⟨gb163, 0, none⟩ = some (.int .i64 a1_0) := (q16 BK163.out 0).trans rfl; have hcz16_1 : w15.cell? ⟨gb163, 1, none⟩ = some (.int .i64 a1_1) := (q16 BK163.out 1).trans rfl; have hcz16_2 : w15.cell? ⟨gb163, 2, none⟩ = some (.int .i64 a1_2) := (q16 BK163.out 2).trans rfl; have hfz16_0 := q0 BK163.out 0; have hfz16_1 := q0 BK163.out 1; have hfz16_2 := q0 BK163.out 2) | (go_at_call 31; (with_reducible refine (crosstreeref10_Is.calls _ _ l0 a1_1 true _ ?side1 ?side2 A6.out).mono ?_); (case side1 => repeat (first | exact (Kd.C_below HR0.out HB.out) | (with_reducible refine Kd.C_alloc ?_ _) | (with_reducible refine Kd.C_drewN ?_ _) | (with_reducible refine Kd.C_drew ?_))); (case side2 => exact HC0.out); rintro e w' ⟨rfl, ⟨nd, rfl⟩⟩; have p166 : 0 ≤ ((ji8) : Int) := of_decide_eq_true (by first | (with_reducible assumption) | assumption); have q166 : (ji8) < (l0.length : Int) := of_decide_eq_true (by first | (with_reducible assumption) | assumption); obtain ⟨ad166, A166_1, c166_1, e166, hx166_0, hx166_1, hx166_2, hl166_1, hi166_1⟩ := at_T69 HR0.out (ji8) p166 q166; (try rw [← Nbq11.out] at hx166_2); cases e166; replace hx166_0 := (HB.out.cell (World.block_lt_of_cell? w _ hx166_0)).trans hx166_0; replace hx166_1 := (HB.out.cell (World.block_lt_of_cell? w _ hx166_1)).trans hx166_1; replace hx166_2 := (HB.out.cell (World.block_lt_of_cell? w _ hx166_2)).trans hx166_2; have HR166_1 := Aside0.mk hi166_1; have HC166_1 := Aside0.mk hl166_1; clear hi166_1 hl166_1; replace p166 := eq_true p166; replace q166 := eq_true q166))
      go_ret
      exact ⟨by first | rfl | (simp [q26, q25] <;> rfl) | (simp only [← hji8]; first | rfl | (simp [q26, q25] <;> rfl)) | (simp [*, q26, q25] <;> rfl), by repeat (first | (with_reducible first | exact HB.out | apply q10 | apply q9 | apply q11 | refine q14 ?_ GE163.out) | exact HB.out)⟩
     ·replace c12 := Bool.eq_false_iff.mpr c12
      subst c12
      have H1 : (if a2 ≥ 0 then (if a2 ≤ (((q23 l0 (ji8)).f1).length : Int) then (if a1_0 ≥ 0 then (if a1_0 ≤ (((q23 l0 (ji8)).f1).length : Int) then (some (decide ((wrap64 (a1_0 + a2)) ≤ (((q23 l0 (ji8)).f1).length : Int)))) else (some false)) else (some false)) else (some false)) else (some false)) = some r := by rw [if_neg (show ¬ (false = true) by decide)] at H; exact H
      clear H
      have H := H1
      clear H1
      by_cases c17 : a2 ≥ 0
      ·rw [if_pos c17] at H
       have c17b0 : decide (0 ≤ a2) = true := decide_eq_true c17
       clear c17
       by_cases c18 : a2 ≤ (((q23 l0 (ji8)).f1).length : Int)
       ·rw [if_pos c18] at H
        have c18b0 : decide (a2 ≤ (((q23 l0 (ji8)).f1).length : Int)) = true := decide_eq_true c18
        clear c18
        by_cases c19 : a1_0 ≥ 0
        ·rw [if_pos c19] at H
         have c19b0 : decide (0 ≤ a1_0) = true := decide_eq_true c19
         clear c19
         by_cases c20 : a1_0 ≤ (((q23 l0 (ji8)).f1).length : Int)
         ·rw [if_pos c20] at H
          have c20b0 : decide (a1_0 ≤ (((q23 l0 (ji8)).f1).length : Int)) = true := decide_eq_true c20
          clear c20
          obtain rfl := Option.some.inj H
          go_enter Try.func42, Try.ntmps42
          go_wp2_with (first | ((with_reducible refine q32 (N := 4) rfl ?_); refine q29 ?hg (N := 4) ?hd (cs := #[.int .i64 a1_0, .int .i64 a1_1, .int .i64 a1_2]) (t := 23) ?hr ?_; (case hd => rfl); (case hg => rfl); (case hr => first | (go_simp; done) | (go_simp; rfl)); intro gb163 hg w21 hbox hb; have n0_ := Aside0.mk (q20 (by repeat (first | (with_reducible first | exact HB.out | apply q10 | apply q9 | apply q11) | exact HB.out)) hb); have n1_ := Aside0.mk (hbox); have n2_ := Aside0.mk ((by rw [hg]; exact (q21 (by repeat (first | (with_reducible first | exact HB.out | apply q10 | apply q9 | apply q11) | exact HB.out))) : w.heap.size ≤ gb163)); have n3_ := Aside0.mk ((by rw [hg]; exact (q21 (by repeat (first | (with_reducible first | exact HB.out | apply q10 | apply q9 | apply q11) | exact HB.out))) : w.heap.size ≤ gb163)); clear HB; have HB := n0_; have BK163 := n1_; have GW163 := n2_; have GE163 := n3_; clear n0_ n1_ n2_ n3_; clear hb hbox hg; have hcz22_0 : w21.cell? ⟨gb163, 0, none⟩ = some (.int .i64 a1_0) := (q16 BK163.out 0).trans rfl; have hcz22_1 : w21.cell? ⟨gb163, 1, none⟩ = some (.int .i64 a1_1) := (q16 BK163.out 1).trans rfl; have hcz22_2 : w21.cell? ⟨gb163, 2, none⟩ = some (.int .i64 a1_2) := (q16 BK163.out 2).trans rfl; have hfz22_0 := q0 BK163.out 0; have hfz22_1 := q0 BK163.out 1; have hfz22_2 := q0 BK163.out 2) | ((with_reducible refine q37 (f := 40) rfl ?_); refine goesL_ (some 9) rfl rfl Try.func40 (by kernel_rfl) rfl #[.agg #[.int .i64 a1_0, .int .i64 a1_1, .int .i64 a1_2]] rfl (by (try simp only [List.map_toArray, List.map_cons, List.map_nil]); first | done | rfl | (simp only [List.length_drop, List.length_take]; rfl)) ?_; (with_reducible refine (crosstreeref10_Pointer.calls a1_0 a1_1 a1_2 true _ A4.out).mono ?_); rintro e w23 ⟨rfl, hb⟩; refine ⟨_, rfl, ?_⟩; have n0_ := Aside0.mk (q19 (g := gb163) (o := .cells #[.int .i64 a1_0, .int .i64 a1_1, .int .i64 a1_2] 23 (0, 0)) (by (with_reducible repeat (first | refine q13 ?_ _ | refine q15 ?_ | refine q12 ?_ _)); exact BK163.out) hb); have n1_ := Aside0.mk (q20 (by repeat (first | (with_reducible first | exact HB.out | apply q10 | apply q9 | apply q11 | refine q14 ?_ GE163.out) | exact HB.out)) hb); clear BK163; clear HB; have BK163 := n0_; have HB := n1_; clear n0_ n1_; (try clear hb); (try clear hb2); (try clear hk); (try clear hi); have hcz24_0 : w23.cell? ⟨gb163, 0, none⟩ = some (.int .i64 a1_0) := (q16 BK163.out 0).trans rfl; have hcz24_1 : w23.cell? ⟨gb163, 1, none⟩ = some (.int .i64 a1_1) := (q16 BK163.out 1).trans rfl; have hcz24_2 : w23.cell? ⟨gb163, 2, none⟩ = some (.int .i64 a1_2) := (q16 BK163.out 2).trans rfl; have hfz24_0 := q0 BK163.out 0; have hfz24_1 := q0 BK163.out 1; have hfz24_2 := q0 BK163.out 2) | (go_at_call 31; (with_reducible refine (crosstreeref10_Is.calls _ _ l0 a1_1 true _ ?side1 ?side2 A6.out).mono ?_); (case side1 => repeat (first | exact (Kd.C_below HR0.out HB.out) | (with_reducible refine Kd.C_alloc ?_ _) | (with_reducible refine Kd.C_drewN ?_ _) | (with_reducible refine Kd.C_drew ?_))); (case side2 => exact HC0.out); rintro e w' ⟨rfl, ⟨nd, rfl⟩⟩; have p166 : 0 ≤ ((ji8) : Int) := of_decide_eq_true (by first | (with_reducible assumption) | assumption); have q166 : (ji8) < (l0.length : Int) := of_decide_eq_true (by first | (with_reducible assumption) | assumption); obtain ⟨ad166, A166_1, c166_1, e166, hx166_0, hx166_1, hx166_2, hl166_1, hi166_1⟩ := at_T69 HR0.out (ji8) p166 q166; (try rw [← Nbq11.out] at hx166_2); cases e166; replace hx166_0 := (HB.out.cell (World.block_lt_of_cell? w _ hx166_0)).trans hx166_0; replace hx166_1 := (HB.out.cell (World.block_lt_of_cell? w _ hx166_1)).trans hx166_1; replace hx166_2 := (HB.out.cell (World.block_lt_of_cell? w _ hx166_2)).trans hx166_2; have HR166_1 := Aside0.mk hi166_1; have HC166_1 := Aside0.mk hl166_1; clear hi166_1 hl166_1; replace p166 := eq_true p166; replace q166 := eq_true q166; have p167 : 0 ≤ ((ji8) : Int) := of_decide_eq_true (by first | (with_reducible assumption) | assumption); have q167 : (ji8) < (l0.length : Int) := of_decide_eq_true (by first | (with_reducible assumption) | assumption); obtain ⟨ad167, A167_1, c167_1, e167, hx167_0, hx167_1, hx167_2, hl167_1, hi167_1⟩ := at_T69 HR0.out (ji8) p167 q167; (try rw [← Nbq11.out] at hx167_2); obtain rfl : ad166 = ad167 := (by injection e167); replace hx167_0 := (HB.out.cell (World.block_lt_of_cell? w _ hx167_0)).trans hx167_0; replace hx167_1 := (HB.out.cell (World.block_lt_of_cell? w _ hx167_1)).trans hx167_1; replace hx167_2 := (HB.out.cell (World.block_lt_of_cell? w _ hx167_2)).trans hx167_2; have HR167_1 := Aside0.mk hi167_1; have HC167_1 := Aside0.mk hl167_1; clear hi167_1 hl167_1; replace p167 := eq_true p167; replace q167 := eq_true q167; have ea_ := Option.some.inj (hx166_1.symm.trans hx167_1); injection ea_ with ea_ en_ ec_; subst ea_; subst ec_; clear en_))
          go_ret
          exact ⟨by first | rfl | (simp [q26, q25] <;> rfl) | (simp only [← hji8]; first | rfl | (simp [q26, q25] <;> rfl)) | (simp [*, q26, q25] <;> rfl), by repeat (first | (with_reducible first | exact HB.out | apply q10 | apply q9 | apply q11 | refine q14 ?_ GE163.out) | exact HB.out)⟩
         ·rw [if_neg c20] at H
          have c20b0 : decide (a1_0 ≤ (((q23 l0 (ji8)).f1).length : Int)) = false := decide_eq_false c20
          clear c20
          obtain rfl := Option.some.inj H
          go_enter Try.func42, Try.ntmps42
          go_wp2_with (first | ((with_reducible refine q32 (N := 4) rfl ?_); refine q29 ?hg (N := 4) ?hd (cs := #[.int .i64 a1_0, .int .i64 a1_1, .int .i64 a1_2]) (t := 23) ?hr ?_; (case hd => rfl); (case hg => rfl); (case hr => first | (go_simp; done) | (go_simp; rfl)); intro gb163 hg w25 hbox hb; have n0_ := Aside0.mk (q20 (by repeat (first | (with_reducible first | exact HB.out | apply q10 | apply q9 | apply q11) | exact HB.out)) hb); have n1_ := Aside0.mk (hbox); have n2_ := Aside0.mk ((by rw [hg]; exact (q21 (by repeat (first | (with_reducible first | exact HB.out | apply q10 | apply q9 | apply q11) | exact HB.out))) : w.heap.size ≤ gb163)); have n3_ := Aside0.mk ((by rw [hg]; exact (q21 (by repeat (first | (with_reducible first | exact HB.out | apply q10 | apply q9 | apply q11) | exact HB.out))) : w.heap.size ≤ gb163)); clear HB; have HB := n0_; have BK163 := n1_; have GW163 := n2_; have GE163 := n3_; clear n0_ n1_ n2_ n3_; clear hb hbox hg; have hcz26_0 : w25.cell? ⟨gb163, 0, none⟩ = some (.int .i64 a1_0) := (q16 BK163.out 0).trans rfl; have hcz26_1 : w25.cell? ⟨gb163, 1, none⟩ = some (.int .i64 a1_1) := (q16 BK163.out 1).trans rfl; have hcz26_2 : w25.cell? ⟨gb163, 2, none⟩ = some (.int .i64 a1_2) := (q16 BK163.out 2).trans rfl; have hfz26_0 := q0 BK163.out 0; have hfz26_1 := q0 BK163.out 1; have hfz26_2 := q0 BK163.out 2) | ((with_reducible refine q37 (f := 40) rfl ?_); refine goesL_ (some 9) rfl rfl Try.func40 (by kernel_rfl) rfl #[.agg #[.int .i64 a1_0, .int .i64 a1_1, .int .i64 a1_2]] rfl (by (try simp only [List.map_toArray, List.map_cons, List.map_nil]); first | done | rfl | (simp only [List.length_drop, List.length_take]; rfl)) ?_; (with_reducible refine (crosstreeref10_Pointer.calls a1_0 a1_1 a1_2 true _ A4.out).mono ?_); rintro e w27 ⟨rfl, hb⟩; refine ⟨_, rfl, ?_⟩; have n0_ := Aside0.mk (q19 (g := gb163) (o := .cells #[.int .i64 a1_0, .int .i64 a1_1, .int .i64 a1_2] 23 (0, 0)) (by (with_reducible repeat (first | refine q13 ?_ _ | refine q15 ?_ | refine q12 ?_ _)); exact BK163.out) hb); have n1_ := Aside0.mk (q20 (by repeat (first | (with_reducible first | exact HB.out | apply q10 | apply q9 | apply q11 | refine q14 ?_ GE163.out) | exact HB.out)) hb); clear BK163; clear HB; have BK163 := n0_; have HB := n1_; clear n0_ n1_; (try clear hb); (try clear hb2); (try clear hk); (try clear hi); have hcz28_0 : w27.cell? ⟨gb163, 0, none⟩ = some (.int .i64 a1_0) := (q16 BK163.out 0).trans rfl; have hcz28_1 : w27.cell? ⟨gb163, 1, none⟩ = some (.int .i64 a1_1) := (q16 BK163.out 1).trans rfl; have hcz28_2 : w27.cell? ⟨gb163, 2, none⟩ = some (.int .i64 a1_2) := (q16 BK163.out 2).trans rfl; have hfz28_0 := q0 BK163.out 0; have hfz28_1 := q0 BK163.out 1; have hfz28_2 := q0 BK163.out 2) | (go_at_call 31; (with_reducible refine (crosstreeref10_Is.calls _ _ l0 a1_1 true _ ?side1 ?side2 A6.out).mono ?_); (case side1 => repeat (first | exact (Kd.C_below HR0.out HB.out) | (with_reducible refine Kd.C_alloc ?_ _) | (with_reducible refine Kd.C_drewN ?_ _) | (with_reducible refine Kd.C_drew ?_))); (case side2 => exact HC0.out); rintro e w' ⟨rfl, ⟨nd, rfl⟩⟩; have p166 : 0 ≤ ((ji8) : Int) := of_decide_eq_true (by first | (with_reducible assumption) | assumption); have q166 : (ji8) < (l0.length : Int) := of_decide_eq_true (by first | (with_reducible assumption) | assumption); obtain ⟨ad166, A166_1, c166_1, e166, hx166_0, hx166_1, hx166_2, hl166_1, hi166_1⟩ := at_T69 HR0.out (ji8) p166 q166; (try rw [← Nbq11.out] at hx166_2); cases e166; replace hx166_0 := (HB.out.cell (World.block_lt_of_cell? w _ hx166_0)).trans hx166_0; replace hx166_1 := (HB.out.cell (World.block_lt_of_cell? w _ hx166_1)).trans hx166_1; replace hx166_2 := (HB.out.cell (World.block_lt_of_cell? w _ hx166_2)).trans hx166_2; have HR166_1 := Aside0.mk hi166_1; have HC166_1 := Aside0.mk hl166_1; clear hi166_1 hl166_1; replace p166 := eq_true p166; replace q166 := eq_true q166; have p167 : 0 ≤ ((ji8) : Int) := of_decide_eq_true (by first | (with_reducible assumption) | assumption); have q167 : (ji8) < (l0.length : Int) := of_decide_eq_true (by first | (with_reducible assumption) | assumption); obtain ⟨ad167, A167_1, c167_1, e167, hx167_0, hx167_1, hx167_2, hl167_1, hi167_1⟩ := at_T69 HR0.out (ji8) p167 q167; (try rw [← Nbq11.out] at hx167_2); obtain rfl : ad166 = ad167 := (by injection e167); replace hx167_0 := (HB.out.cell (World.block_lt_of_cell? w _ hx167_0)).trans hx167_0; replace hx167_1 := (HB.out.cell (World.block_lt_of_cell? w _ hx167_1)).trans hx167_1; replace hx167_2 := (HB.out.cell (World.block_lt_of_cell? w _ hx167_2)).trans hx167_2; have HR167_1 := Aside0.mk hi167_1; have HC167_1 := Aside0.mk hl167_1; clear hi167_1 hl167_1; replace p167 := eq_true p167; replace q167 := eq_true q167; have ea_ := Option.some.inj (hx166_1.symm.trans hx167_1); injection ea_ with ea_ en_ ec_; subst ea_; subst ec_; clear en_))
          go_ret
          exact ⟨by first | rfl | (simp [q26, q25] <;> rfl) | (simp only [← hji8]; first | rfl | (simp [q26, q25] <;> rfl)) | (simp [*, q26, q25] <;> rfl), by repeat (first | (with_reducible first | exact HB.out | apply q10 | apply q9 | apply q11 | refine q14 ?_ GE163.out) | exact HB.out)⟩
        ·rw [if_neg c19] at H
         have c19b0 : decide (0 ≤ a1_0) = false := decide_eq_false c19
         clear c19
         obtain rfl := Option.some.inj H
         go_enter Try.func42, Try.ntmps42
         go_wp2_with (first | ((with_reducible refine q32 (N := 4) rfl ?_); refine q29 ?hg (N := 4) ?hd (cs := #[.int .i64 a1_0, .int .i64 a1_1, .int .i64 a1_2]) (t := 23) ?hr ?_; (case hd => rfl); (case hg => rfl); (case hr => first | (go_simp; done) | (go_simp; rfl)); intro gb163 hg w29 hbox hb; have n0_ := Aside0.mk (q20 (by repeat (first | (with_reducible first | exact HB.out | apply q10 | apply q9 | apply q11) | exact HB.out)) hb); have n1_ := Aside0.mk (hbox); have n2_ := Aside0.mk ((by rw [hg]; exact (q21 (by repeat (first | (with_reducible first | exact HB.out | apply q10 | apply q9 | apply q11) | exact HB.out))) : w.heap.size ≤ gb163)); have n3_ := Aside0.mk ((by rw [hg]; exact (q21 (by repeat (first | (with_reducible first | exact HB.out | apply q10 | apply q9 | apply q11) | exact HB.out))) : w.heap.size ≤ gb163)); clear HB; have HB := n0_; have BK163 := n1_; have GW163 := n2_; have GE163 := n3_; clear n0_ n1_ n2_ n3_; clear hb hbox hg; have hcz30_0 : w29.cell? ⟨gb163, 0, none⟩ = some (.int .i64 a1_0) := (q16 BK163.out 0).trans rfl; have hcz30_1 : w29.cell? ⟨gb163, 1, none⟩ = some (.int .i64 a1_1) := (q16 BK163.out 1).trans rfl; have hcz30_2 : w29.cell? ⟨gb163, 2, none⟩ = some (.int .i64 a1_2) := (q16 BK163.out 2).trans rfl; have hfz30_0 := q0 BK163.out 0; have hfz30_1 := q0 BK163.out 1; have hfz30_2 := q0 BK163.out 2) | ((with_reducible refine q37 (f := 40) rfl ?_); refine goesL_ (some 9) rfl rfl Try.func40 (by kernel_rfl) rfl #[.agg #[.int .i64 a1_0, .int .i64 a1_1, .int .i64 a1_2]] rfl (by (try simp only [List.map_toArray, List.map_cons, List.map_nil]); first | done | rfl | (simp only [List.length_drop, List.length_take]; rfl)) ?_; (with_reducible refine (crosstreeref10_Pointer.calls a1_0 a1_1 a1_2 true _ A4.out).mono ?_); rintro e w31 ⟨rfl, hb⟩; refine ⟨_, rfl, ?_⟩; have n0_ := Aside0.mk (q19 (g := gb163) (o := .cells #[.int .i64 a1_0, .int .i64 a1_1, .int .i64 a1_2] 23 (0, 0)) (by (with_reducible repeat (first | refine q13 ?_ _ | refine q15 ?_ | refine q12 ?_ _)); exact BK163.out) hb); have n1_ := Aside0.mk (q20 (by repeat (first | (with_reducible first | exact HB.out | apply q10 | apply q9 | apply q11 | refine q14 ?_ GE163.out) | exact HB.out)) hb); clear BK163; clear HB; have BK163 := n0_; have HB := n1_; clear n0_ n1_; (try clear hb); (try clear hb2); (try clear hk); (try clear hi); have hcz32_0 : w31.cell? ⟨gb163, 0, none⟩ = some (.int .i64 a1_0) := (q16 BK163.out 0).trans rfl; have hcz32_1 : w31.cell? ⟨gb163, 1, none⟩ = some (.int .i64 a1_1) := (q16 BK163.out 1).trans rfl; have hcz32_2 : w31.cell? ⟨gb163, 2, none⟩ = some (.int .i64 a1_2) := (q16 BK163.out 2).trans rfl; have hfz32_0 := q0 BK163.out 0; have hfz32_1 := q0 BK163.out 1; have hfz32_2 := q0 BK163.out 2) | (go_at_call 31; (with_reducible refine (crosstreeref10_Is.calls _ _ l0 a1_1 true _ ?side1 ?side2 A6.out).mono ?_); (case side1 => repeat (first | exact (Kd.C_below HR0.out HB.out) | (with_reducible refine Kd.C_alloc ?_ _) | (with_reducible refine Kd.C_drewN ?_ _) | (with_reducible refine Kd.C_drew ?_))); (case side2 => exact HC0.out); rintro e w' ⟨rfl, ⟨nd, rfl⟩⟩; have p166 : 0 ≤ ((ji8) : Int) := of_decide_eq_true (by first | (with_reducible assumption) | assumption); have q166 : (ji8) < (l0.length : Int) := of_decide_eq_true (by first | (with_reducible assumption) | assumption); obtain ⟨ad166, A166_1, c166_1, e166, hx166_0, hx166_1, hx166_2, hl166_1, hi166_1⟩ := at_T69 HR0.out (ji8) p166 q166; (try rw [← Nbq11.out] at hx166_2); cases e166; replace hx166_0 := (HB.out.cell (World.block_lt_of_cell? w _ hx166_0)).trans hx166_0; replace hx166_1 := (HB.out.cell (World.block_lt_of_cell? w _ hx166_1)).trans hx166_1; replace hx166_2 := (HB.out.cell (World.block_lt_of_cell? w _ hx166_2)).trans hx166_2; have HR166_1 := Aside0.mk hi166_1; have HC166_1 := Aside0.mk hl166_1; clear hi166_1 hl166_1; replace p166 := eq_true p166; replace q166 := eq_true q166; have p167 : 0 ≤ ((ji8) : Int) := of_decide_eq_true (by first | (with_reducible assumption) | assumption); have q167 : (ji8) < (l0.length : Int) := of_decide_eq_true (by first | (with_reducible assumption) | assumption); obtain ⟨ad167, A167_1, c167_1, e167, hx167_0, hx167_1, hx167_2, hl167_1, hi167_1⟩ := at_T69 HR0.out (ji8) p167 q167; (try rw [← Nbq11.out] at hx167_2); obtain rfl : ad166 = ad167 := (by injection e167); replace hx167_0 := (HB.out.cell (World.block_lt_of_cell? w _ hx167_0)).trans hx167_0; replace hx167_1 := (HB.out.cell (World.block_lt_of_cell? w _ hx167_1)).trans hx167_1; replace hx167_2 := (HB.out.cell (World.block_lt_of_cell? w _ hx167_2)).trans hx167_2; have HR167_1 := Aside0.mk hi167_1; have HC167_1 := Aside0.mk hl167_1; clear hi167_1 hl167_1; replace p167 := eq_true p167; replace q167 := eq_true q167; have ea_ := Option.some.inj (hx166_1.symm.trans hx167_1); injection ea_ with ea_ en_ ec_; subst ea_; subst ec_; clear en_))
         go_ret
         exact ⟨by first | rfl | (simp [q26, q25] <;> rfl) | (simp only [← hji8]; first | rfl | (simp [q26, q25] <;> rfl)) | (simp [*, q26, q25] <;> rfl), by repeat (first | (with_reducible first | exact HB.out | apply q10 | apply q9 | apply q11 | refine q14 ?_ GE163.out) | exact HB.out)⟩
       ·rw [if_neg c18] at H
        have c18b0 : decide (a2 ≤ (((q23 l0 (ji8)).f1).length : Int)) = false := decide_eq_false c18
        clear c18
        obtain rfl := Option.some.inj H
        go_enter Try.func42, Try.ntmps42
        go_wp2_with (first | ((with_reducible refine q32 (N := 4) rfl ?_); refine q29 ?hg (N := 4) ?hd (cs := #[.int .i64 a1_0, .int .i64 a1_1, .int .i64 a1_2]) (t := 23) ?hr ?_; (case hd => rfl); (case hg => rfl); (case hr => first | (go_simp; done) | (go_simp; rfl)); intro gb163 hg w33 hbox hb; have n0_ := Aside0.mk (q20 (by repeat (first | (with_reducible first | exact HB.out | apply q10 | apply q9 | apply q11) | exact HB.out)) hb); have n1_ := Aside0.mk (hbox); have n2_ := Aside0.mk ((by rw [hg]; exact (q21 (by repeat (first | (with_reducible first | exact HB.out | apply q10 | apply q9 | apply q11) | exact HB.out))) : w.heap.size ≤ gb163)); have n3_ := Aside0.mk ((by rw [hg]; exact (q21 (by repeat (first | (with_reducible first | exact HB.out | apply q10 | apply q9 | apply q11) | exact HB.out))) : w.heap.size ≤ gb163)); clear HB; have HB := n0_; have BK163 := n1_; have GW163 := n2_; have GE163 := n3_; clear n0_ n1_ n2_ n3_; clear hb hbox hg; have hcz34_0 : w33.cell? ⟨gb163, 0, none⟩ = some (.int .i64 a1_0) := (q16 BK163.out 0).trans rfl; have hcz34_1 : w33.cell? ⟨gb163, 1, none⟩ = some (.int .i64 a1_1) := (q16 BK163.out 1).trans rfl; have hcz34_2 : w33.cell? ⟨gb163, 2, none⟩ = some (.int .i64 a1_2) := (q16 BK163.out 2).trans rfl; have hfz34_0 := q0 BK163.out 0; have hfz34_1 := q0 BK163.out 1; have hfz34_2 := q0 BK163.out 2) | ((with_reducible refine q37 (f := 40) rfl ?_); refine goesL_ (some 9) rfl rfl Try.func40 (by kernel_rfl) rfl #[.agg #[.int .i64 a1_0, .int .i64 a1_1, .int .i64 a1_2]] rfl (by (try simp only [List.map_toArray, List.map_cons, List.map_nil]); first | done | rfl | (simp only [List.length_drop, List.length_take]; rfl)) ?_; (with_reducible refine (crosstreeref10_Pointer.calls a1_0 a1_1 a1_2 true _ A4.out).mono ?_); rintro e w35 ⟨rfl, hb⟩; refine ⟨_, rfl, ?_⟩; have n0_ := Aside0.mk (q19 (g := gb163) (o := .cells #[.int .i64 a1_0, .int .i64 a1_1, .int .i64 a1_2] 23 (0, 0)) (by (with_reducible repeat (first | refine q13 ?_ _ | refine q15 ?_ | refine q12 ?_ _)); exact BK163.out) hb); have n1_ := Aside0.mk (q20 (by repeat (first | (with_reducible first | exact HB.out | apply q10 | apply q9 | apply q11 | refine q14 ?_ GE163.out) | exact HB.out)) hb); clear BK163; clear HB; have BK163 := n0_; have HB := n1_; clear n0_ n1_; (try clear hb); (try clear hb2); (try clear hk); (try clear hi); have hcz36_0 : w35.cell? ⟨gb163, 0, none⟩ = some (.int .i64 a1_0) := (q16 BK163.out 0).trans rfl; have hcz36_1 : w35.cell? ⟨gb163, 1, none⟩ = some (.int .i64 a1_1) := (q16 BK163.out 1).trans rfl; have hcz36_2 : w35.cell? ⟨gb163, 2, none⟩ = some (.int .i64 a1_2) := (q16 BK163.out 2).trans rfl; have hfz36_0 := q0 BK163.out 0; have hfz36_1 := q0 BK163.out 1; have hfz36_2 := q0 BK163.out 2) | (go_at_call 31; (with_reducible refine (crosstreeref10_Is.calls _ _ l0 a1_1 true _ ?side1 ?side2 A6.out).mono ?_); (case side1 => repeat (first | exact (Kd.C_below HR0.out HB.out) | (with_reducible refine Kd.C_alloc ?_ _) | (with_reducible refine Kd.C_drewN ?_ _) | (with_reducible refine Kd.C_drew ?_))); (case side2 => exact HC0.out); rintro e w' ⟨rfl, ⟨nd, rfl⟩⟩; have p166 : 0 ≤ ((ji8) : Int) := of_decide_eq_true (by first | (with_reducible assumption) | assumption); have q166 : (ji8) < (l0.length : Int) := of_decide_eq_true (by first | (with_reducible assumption) | assumption); obtain ⟨ad166, A166_1, c166_1, e166, hx166_0, hx166_1, hx166_2, hl166_1, hi166_1⟩ := at_T69 HR0.out (ji8) p166 q166; (try rw [← Nbq11.out] at hx166_2); cases e166; replace hx166_0 := (HB.out.cell (World.block_lt_of_cell? w _ hx166_0)).trans hx166_0; replace hx166_1 := (HB.out.cell (World.block_lt_of_cell? w _ hx166_1)).trans hx166_1; replace hx166_2 := (HB.out.cell (World.block_lt_of_cell? w _ hx166_2)).trans hx166_2; have HR166_1 := Aside0.mk hi166_1; have HC166_1 := Aside0.mk hl166_1; clear hi166_1 hl166_1; replace p166 := eq_true p166; replace q166 := eq_true q166; have p167 : 0 ≤ ((ji8) : Int) := of_decide_eq_true (by first | (with_reducible assumption) | assumption); have q167 : (ji8) < (l0.length : Int) := of_decide_eq_true (by first | (with_reducible assumption) | assumption); obtain ⟨ad167, A167_1, c167_1, e167, hx167_0, hx167_1, hx167_2, hl167_1, hi167_1⟩ := at_T69 HR0.out (ji8) p167 q167; (try rw [← Nbq11.out] at hx167_2); obtain rfl : ad166 = ad167 := (by injection e167); replace hx167_0 := (HB.out.cell (World.block_lt_of_cell? w _ hx167_0)).trans hx167_0; replace hx167_1 := (HB.out.cell (World.block_lt_of_cell? w _ hx167_1)).trans hx167_1; replace hx167_2 := (HB.out.cell (World.block_lt_of_cell? w _ hx167_2)).trans hx167_2; have HR167_1 := Aside0.mk hi167_1; have HC167_1 := Aside0.mk hl167_1; clear hi167_1 hl167_1; replace p167 := eq_true p167; replace q167 := eq_true q167; have ea_ := Option.some.inj (hx166_1.symm.trans hx167_1); injection ea_ with ea_ en_ ec_; subst ea_; subst ec_; clear en_))
        go_ret
        exact ⟨by first | rfl | (simp [q26, q25] <;> rfl) | (simp only [← hji8]; first | rfl | (simp [q26, q25] <;> rfl)) | (simp [*, q26, q25] <;> rfl), by repeat (first | (with_reducible first | exact HB.out | apply q10 | apply q9 | apply q11 | refine q14 ?_ GE163.out) | exact HB.out)⟩
      ·rw [if_neg c17] at H
       have c17b0 : decide (0 ≤ a2) = false := decide_eq_false c17
       clear c17
       obtain rfl := Option.some.inj H
       go_enter Try.func42, Try.ntmps42
       go_wp2_with (first | ((with_reducible refine q32 (N := 4) rfl ?_); refine q29 ?hg (N := 4) ?hd (cs := #[.int .i64 a1_0, .int .i64 a1_1, .int .i64 a1_2]) (t := 23) ?hr ?_; (case hd => rfl); (case hg => rfl); (case hr => first | (go_simp; done) | (go_simp; rfl)); intro gb163 hg w37 hbox hb; have n0_ := Aside0.mk (q20 (by repeat (first | (with_reducible first | exact HB.out | apply q10 | apply q9 | apply q11) | exact HB.out)) hb); have n1_ := Aside0.mk (hbox); have n2_ := Aside0.mk ((by rw [hg]; exact (q21 (by repeat (first | (with_reducible first | exact HB.out | apply q10 | apply q9 | apply q11) | exact HB.out))) : w.heap.size ≤ gb163)); have n3_ := Aside0.mk ((by rw [hg]; exact (q21 (by repeat (first | (with_reducible first | exact HB.out | apply q10 | apply q9 | apply q11) | exact HB.out))) : w.heap.size ≤ gb163)); clear HB; have HB := n0_; have BK163 := n1_; have GW163 := n2_; have GE163 := n3_; clear n0_ n1_ n2_ n3_; clear hb hbox hg; have hcz38_0 : w37.cell? ⟨gb163, 0, none⟩ = some (.int .i64 a1_0) := (q16 BK163.out 0).trans rfl; have hcz38_1 : w37.cell? ⟨gb163, 1, none⟩ = some (.int .i64 a1_1) := (q16 BK163.out 1).trans rfl; have hcz38_2 : w37.cell? ⟨gb163, 2, none⟩ = some (.int .i64 a1_2) := (q16 BK163.out 2).trans rfl; have hfz38_0 := q0 BK163.out 0; have hfz38_1 := q0 BK163.out 1; have hfz38_2 := q0 BK163.out 2) | ((with_reducible refine q37 (f := 40) rfl ?_); refine goesL_ (some 9) rfl rfl Try.func40 (by kernel_rfl) rfl #[.agg #[.int .i64 a1_0, .int .i64 a1_1, .int .i64 a1_2]] rfl (by (try simp only [List.map_toArray, List.map_cons, List.map_nil]); first | done | rfl | (simp only [List.length_drop, List.length_take]; rfl)) ?_; (with_reducible refine (crosstreeref10_Pointer.calls a1_0 a1_1 a1_2 true _ A4.out).mono ?_); rintro e w39 ⟨rfl, hb⟩; refine ⟨_, rfl, ?_⟩; have n0_ := Aside0.mk (q19 (g := gb163) (o := .cells #[.int .i64 a1_0, .int .i64 a1_1, .int .i64 a1_2] 23 (0, 0)) (by (with_reducible repeat (first | refine q13 ?_ _ | refine q15 ?_ | refine q12 ?_ _)); exact BK163.out) hb); have n1_ := Aside0.mk (q20 (by repeat (first | (with_reducible first | exact HB.out | apply q10 | apply q9 | apply q11 | refine q14 ?_ GE163.out) | exact HB.out)) hb); clear BK163; clear HB; have BK163 := n0_; have HB := n1_; clear n0_ n1_; (try clear hb); (try clear hb2); (try clear hk); (try clear hi); have hcz40_0 : w39.cell? ⟨gb163, 0, none⟩ = some (.int .i64 a1_0) := (q16 BK163.out 0).trans rfl; have hcz40_1 : w39.cell? ⟨gb163, 1, none⟩ = some (.int .i64 a1_1) := (q16 BK163.out 1).trans rfl; have hcz40_2 : w39.cell? ⟨gb163, 2, none⟩ = some (.int .i64 a1_2) := (q16 BK163.out 2).trans rfl; have hfz40_0 := q0 BK163.out 0; have hfz40_1 := q0 BK163.out 1; have hfz40_2 := q0 BK163.out 2) | (go_at_call 31; (with_reducible refine (crosstreeref10_Is.calls _ _ l0 a1_1 true _ ?side1 ?side2 A6.out).mono ?_); (case side1 => repeat (first | exact (Kd.C_below HR0.out HB.out) | (with_reducible refine Kd.C_alloc ?_ _) | (with_reducible refine Kd.C_drewN ?_ _) | (with_reducible refine Kd.C_drew ?_))); (case side2 => exact HC0.out); rintro e w' ⟨rfl, ⟨nd, rfl⟩⟩; have p166 : 0 ≤ ((ji8) : Int) := of_decide_eq_true (by first | (with_reducible assumption) | assumption); have q166 : (ji8) < (l0.length : Int) := of_decide_eq_true (by first | (with_reducible assumption) | assumption); obtain ⟨ad166, A166_1, c166_1, e166, hx166_0, hx166_1, hx166_2, hl166_1, hi166_1⟩ := at_T69 HR0.out (ji8) p166 q166; (try rw [← Nbq11.out] at hx166_2); cases e166; replace hx166_0 := (HB.out.cell (World.block_lt_of_cell? w _ hx166_0)).trans hx166_0; replace hx166_1 := (HB.out.cell (World.block_lt_of_cell? w _ hx166_1)).trans hx166_1; replace hx166_2 := (HB.out.cell (World.block_lt_of_cell? w _ hx166_2)).trans hx166_2; have HR166_1 := Aside0.mk hi166_1; have HC166_1 := Aside0.mk hl166_1; clear hi166_1 hl166_1; replace p166 := eq_true p166; replace q166 := eq_true q166; have p167 : 0 ≤ ((ji8) : Int) := of_decide_eq_true (by first | (with_reducible assumption) | assumption); have q167 : (ji8) < (l0.length : Int) := of_decide_eq_true (by first | (with_reducible assumption) | assumption); obtain ⟨ad167, A167_1, c167_1, e167, hx167_0, hx167_1, hx167_2, hl167_1, hi167_1⟩ := at_T69 HR0.out (ji8) p167 q167; (try rw [← Nbq11.out] at hx167_2); obtain rfl : ad166 = ad167 := (by injection e167); replace hx167_0 := (HB.out.cell (World.block_lt_of_cell? w _ hx167_0)).trans hx167_0; replace hx167_1 := (HB.out.cell (World.block_lt_of_cell? w _ hx167_1)).trans hx167_1; replace hx167_2 := (HB.out.cell (World.block_lt_of_cell? w _ hx167_2)).trans hx167_2; have HR167_1 := Aside0.mk hi167_1; have HC167_1 := Aside0.mk hl167_1; clear hi167_1 hl167_1; replace p167 := eq_true p167; replace q167 := eq_true q167; have ea_ := Option.some.inj (hx166_1.symm.trans hx167_1); injection ea_ with ea_ en_ ec_; subst ea_; subst ec_; clear en_))
       go_ret
       exact ⟨by first | rfl | (simp [q26, q25] <;> rfl) | (simp only [← hji8]; first | rfl | (simp [q26, q25] <;> rfl)) | (simp [*, q26, q25] <;> rfl), by repeat (first | (with_reducible first | exact HB.out | apply q10 | apply q9 | apply q11 | refine q14 ?_ GE163.out) | exact HB.out)⟩
    ·rw [if_neg c10] at H
     exact absurd H (by simp)
   ·rw [if_neg c9] at H
    exact absurd H (by simp)
  ·replace c7 := Bool.eq_false_iff.mpr c7
   subst c7
   have H1 : (some false) = some r := by rw [if_neg (show ¬ (false = true) by decide)] at H; exact H
   clear H
   have H := H1
   clear H1
   obtain rfl := Option.some.inj H
   go_enter Try.func42, Try.ntmps42
   go_wp2_with (first | ((with_reducible refine q32 (N := 4) rfl ?_); refine q29 ?hg (N := 4) ?hd (cs := #[.int .i64 a1_0, .int .i64 a1_1, .int .i64 a1_2]) (t := 23) ?hr ?_; (case hd => rfl); (case hg => rfl); (case hr => first | (go_simp; done) | (go_simp; rfl)); intro gb163 hg w41 hbox hb; have n0_ := Aside0.mk (q20 (by repeat (first | (with_reducible first | exact HB.out | apply q10 | apply q9 | apply q11) | exact HB.out)) hb); have n1_ := Aside0.mk (hbox); have n2_ := Aside0.mk ((by rw [hg]; exact (q21 (by repeat (first | (with_reducible first | exact HB.out | apply q10 | apply q9 | apply q11) | exact HB.out))) : w.heap.size ≤ gb163)); have n3_ := Aside0.mk ((by rw [hg]; exact (q21 (by repeat (first | (with_reducible first | exact HB.out | apply q10 | apply q9 | apply q11) | exact HB.out))) : w.heap.size ≤ gb163)); clear HB; have HB := n0_; have BK163 := n1_; have GW163 := n2_; have GE163 := n3_; clear n0_ n1_ n2_ n3_; clear hb hbox hg; have hcz42_0 : w41.cell? ⟨gb163, 0, none⟩ = some (.int .i64 a1_0) := (q16 BK163.out 0).trans rfl; have hcz42_1 : w41.cell? ⟨gb163, 1, none⟩ = some (.int .i64 a1_1) := (q16 BK163.out 1).trans rfl; have hcz42_2 : w41.cell? ⟨gb163, 2, none⟩ = some (.int .i64 a1_2) := (q16 BK163.out 2).trans rfl; have hfz42_0 := q0 BK163.out 0; have hfz42_1 := q0 BK163.out 1; have hfz42_2 := q0 BK163.out 2) | ((with_reducible refine q37 (f := 40) rfl ?_); refine goesL_ (some 9) rfl rfl Try.func40 (by kernel_rfl) rfl #[.agg #[.int .i64 a1_0, .int .i64 a1_1, .int .i64 a1_2]] rfl (by (try simp only [List.map_toArray, List.map_cons, List.map_nil]); first | done | rfl | (simp only [List.length_drop, List.length_take]; rfl)) ?_; (with_reducible refine (crosstreeref10_Pointer.calls a1_0 a1_1 a1_2 true _ A4.out).mono ?_); rintro e w43 ⟨rfl, hb⟩; refine ⟨_, rfl, ?_⟩; have n0_ := Aside0.mk (q19 (g := gb163) (o := .cells #[.int .i64 a1_0, .int .i64 a1_1, .int .i64 a1_2] 23 (0, 0)) (by (with_reducible repeat (first | refine q13 ?_ _ | refine q15 ?_ | refine q12 ?_ _)); exact BK163.out) hb); have n1_ := Aside0.mk (q20 (by repeat (first | (with_reducible first | exact HB.out | apply q10 | apply q9 | apply q11 | refine q14 ?_ GE163.out) | exact HB.out)) hb); clear BK163; clear HB; have BK163 := n0_; have HB := n1_; clear n0_ n1_; (try clear hb); (try clear hb2); (try clear hk); (try clear hi); have hcz44_0 : w43.cell? ⟨gb163, 0, none⟩ = some (.int .i64 a1_0) := (q16 BK163.out 0).trans rfl; have hcz44_1 : w43.cell? ⟨gb163, 1, none⟩ = some (.int .i64 a1_1) := (q16 BK163.out 1).trans rfl; have hcz44_2 : w43.cell? ⟨gb163, 2, none⟩ = some (.int .i64 a1_2) := (q16 BK163.out 2).trans rfl; have hfz44_0 := q0 BK163.out 0; have hfz44_1 := q0 BK163.out 1; have hfz44_2 := q0 BK163.out 2) | (go_at_call 31; (with_reducible refine (crosstreeref10_Is.calls _ _ l0 a1_1 false _ ?side1 ?side2 A6.out).mono ?_); (case side1 => repeat (first | exact (Kd.C_below HR0.out HB.out) | (with_reducible refine Kd.C_alloc ?_ _) | (with_reducible refine Kd.C_drewN ?_ _) | (with_reducible refine Kd.C_drew ?_))); (case side2 => exact HC0.out); rintro e w' ⟨rfl, ⟨nd, rfl⟩⟩))
   go_ret
   exact ⟨by first | rfl | (simp [q26, q25] <;> rfl) | (simp [*, q26, q25] <;> rfl), by repeat (first | (with_reducible first | exact HB.out | apply q10 | apply q9 | apply q11 | refine q14 ?_ GE163.out) | exact HB.out)⟩
 ·replace c5 := Bool.eq_false_iff.mpr c5
  subst c5
  have H1 : (some false) = some r := by rw [if_neg (show ¬ (false = true) by decide)] at H; exact H
  clear H
  have H := H1
  clear H1
  obtain rfl := Option.some.inj H
  go_enter Try.func42, Try.ntmps42
  go_wp2_with (first | ((with_reducible refine q32 (N := 4) rfl ?_); refine q29 ?hg (N := 4) ?hd (cs := #[.int .i64 a1_0, .int .i64 a1_1, .int .i64 a1_2]) (t := 23) ?hr ?_; (case hd => rfl); (case hg => rfl); (case hr => first | (go_simp; done) | (go_simp; rfl)); intro gb163 hg w45 hbox hb; have n0_ := Aside0.mk (q20 (by repeat (first | (with_reducible first | exact HB.out | apply q10 | apply q9 | apply q11) | exact HB.out)) hb); have n1_ := Aside0.mk (hbox); have n2_ := Aside0.mk ((by rw [hg]; exact (q21 (by repeat (first | (with_reducible first | exact HB.out | apply q10 | apply q9 | apply q11) | exact HB.out))) : w.heap.size ≤ gb163)); have n3_ := Aside0.mk ((by rw [hg]; exact (q21 (by repeat (first | (with_reducible first | exact HB.out | apply q10 | apply q9 | apply q11) | exact HB.out))) : w.heap.size ≤ gb163)); clear HB; have HB := n0_; have BK163 := n1_; have GW163 := n2_; have GE163 := n3_; clear n0_ n1_ n2_ n3_; clear hb hbox hg; have hcz46_0 : w45.cell? ⟨gb163, 0, none⟩ = some (.int .i64 a1_0) := (q16 BK163.out 0).trans rfl; have hcz46_1 : w45.cell? ⟨gb163, 1, none⟩ = some (.int .i64 a1_1) := (q16 BK163.out 1).trans rfl; have hcz46_2 : w45.cell? ⟨gb163, 2, none⟩ = some (.int .i64 a1_2) := (q16 BK163.out 2).trans rfl; have hfz46_0 := q0 BK163.out 0; have hfz46_1 := q0 BK163.out 1; have hfz46_2 := q0 BK163.out 2) | ((with_reducible refine q37 (f := 40) rfl ?_); refine goesL_ (some 9) rfl rfl Try.func40 (by kernel_rfl) rfl #[.agg #[.int .i64 a1_0, .int .i64 a1_1, .int .i64 a1_2]] rfl (by (try simp only [List.map_toArray, List.map_cons, List.map_nil]); first | done | rfl | (simp only [List.length_drop, List.length_take]; rfl)) ?_; (with_reducible refine (crosstreeref10_Pointer.calls a1_0 a1_1 a1_2 false _ A4.out).mono ?_); rintro e w47 ⟨rfl, hb⟩; refine ⟨_, rfl, ?_⟩; have n0_ := Aside0.mk (q19 (g := gb163) (o := .cells #[.int .i64 a1_0, .int .i64 a1_1, .int .i64 a1_2] 23 (0, 0)) (by (with_reducible repeat (first | refine q13 ?_ _ | refine q15 ?_ | refine q12 ?_ _)); exact BK163.out) hb); have n1_ := Aside0.mk (q20 (by repeat (first | (with_reducible first | exact HB.out | apply q10 | apply q9 | apply q11 | refine q14 ?_ GE163.out) | exact HB.out)) hb); clear BK163; clear HB; have BK163 := n0_; have HB := n1_; clear n0_ n1_; (try clear hb); (try clear hb2); (try clear hk); (try clear hi)))
  go_ret
  exact ⟨by first | rfl | (simp [q26, q25] <;> rfl) | (simp [*, q26, q25] <;> rfl), by repeat (first | (with_reducible first | exact HB.out | apply q10 | apply q9 | apply q11 | refine q14 ?_ GE163.out) | exact HB.out)⟩
def crosstreeref10_access.j0 : Nat → List (S69) → Int → Bool → Int → Int → Int → Option (Int)
 | 0, _, _, _, _, _, _ => none
 | k + 1, x0, x2, x16, x169000, x169001, x169002 => if x16 = true then (some 1) else ((crosstreeref10_May.f x0 x169000 x169001 x169002 x2).bind fun t169 => (if t169 = true then (some 0) else (some 9)))
def crosstreeref10_access.f (k : Nat) (l0 : List (S69)) (a1_0 : Int) (a1_1 : Int) (a1_2 : Int) (a2 : Int) : Option (Int) := if a2 = 1 then (crosstreeref10_access.j0 k l0 a2 false a1_0 a1_1 a1_2) else (if a2 = 4 then (crosstreeref10_access.j0 k l0 a2 false a1_0 a1_1 a1_2) else (crosstreeref10_access.j0 k l0 a2 (a2 != 8) a1_0 a1_1 a1_2))
theorem crosstreeref10_access.mono_l : ∀ k, (∀ y0 y1 y2 y3 y4 y5, LeO (crosstreeref10_access.j0 k y0 y1 y2 y3 y4 y5) (crosstreeref10_access.j0 (k + 1) y0 y1 y2 y3 y4 y5))
 | 0 => fun _ _ _ _ _ _ r h => by simp [crosstreeref10_access.j0] at h
 | k + 1 => by
  have ih0 := crosstreeref10_access.mono_l k
  ·intro y0 y1 y2 y3 y4 y5
   unfold crosstreeref10_access.j0
   repeat' first
   | (with_reducible exact ih0 _ _ _ _ _ _)
   | (with_reducible exact LeO.refl _)
   | (with_reducible exact LeO.none _)
   | (with_reducible refine LeO.ite ?_ ?_)
   | (with_reducible refine LeO.bind ?_ (fun _ => ?_))
   | exact ih0 _ _ _ _ _ _
   | exact LeO.none _
   | refine LeO.ite ?_ ?_
   | refine LeO.bind ?_ (fun _ => ?_)
theorem crosstreeref10_access.mono : ∀ a0 a1 a2 a3 a4 k, LeO (crosstreeref10_access.f k a0 a1 a2 a3 a4) (crosstreeref10_access.f (k + 1) a0 a1 a2 a3 a4) := by
 intro a0 a1 a2 a3 a4 k
 have ih0 := crosstreeref10_access.mono_l k
 unfold crosstreeref10_access.f
 repeat' first
   | (with_reducible exact ih0 _ _ _ _ _ _)
   | (with_reducible exact LeO.refl _)
   | (with_reducible exact LeO.none _)
   | (with_reducible refine LeO.ite ?_ ?_)
   | (with_reducible refine LeO.bind ?_ (fun _ => ?_))
   | exact ih0 _ _ _ _ _ _
   | exact LeO.none _
   | refine LeO.ite ?_ ?_
   | refine LeO.bind ?_ (fun _ => ?_)
set_option maxHeartbeats 8000000 in
set_option maxRecDepth 100000 in
theorem crosstreeref10_access.calls (k : Nat) (A0 : Option Addr) (c0 : Nat) (l0 : List (S69)) (a1_0 : Int) (a1_1 : Int) (a1_2 : Int) (a2 : Int) (r : Int) (w : World) (hr0 : Kd.C k69 w A0 l0.length l0) (hc0 : l0.length ≤ c0) (h : crosstreeref10_access.f k l0 a1_0 a1_1 a1_2 a2 = some r) :
  Calls Try.prog 39 #[.slice A0 l0.length c0, .agg #[.int .i64 a1_0, .int .i64 a1_1, .int .i64 a1_2], .int .i64 a2] w fun e w' => e = .returned (.int .i64 r) ∧ Below w.heap.size w w' := by
 have hu23 := Try.underlying23
 have HR0 := Aside0.mk hr0
 have HC0 := Aside0.mk hc0
 clear hr0 hc0
 have HB := Aside0.mk (Below.refl w.heap.size w)
 have H : (if a2 = 1 then (crosstreeref10_access.j0 k l0 a2 false a1_0 a1_1 a1_2) else (if a2 = 4 then (crosstreeref10_access.j0 k l0 a2 false a1_0 a1_1 a1_2) else (crosstreeref10_access.j0 k l0 a2 (a2 != 8) a1_0 a1_1 a1_2))) = some r := h
 clear h
 have HC4 := Aside0.mk H
 clear H
 go_enter Try.func39, Try.ntmps39
 go_upto_region 1 with (first | ((with_reducible refine q32 (N := 4) rfl ?_); refine q29 ?hg (N := 4) ?hd (cs := #[.int .i64 a1_0, .int .i64 a1_1, .int .i64 a1_2]) (t := 23) ?hr ?_; (case hd => rfl); (case hg => rfl); (case hr => first | (go_simp; done) | (go_simp; rfl)); intro gb168 hg w5 hbox hb; have n0_ := Aside0.mk (q20 (by repeat (first | (with_reducible first | exact HB.out | apply q10 | apply q9 | apply q11) | exact HB.out)) hb); have n1_ := Aside0.mk (hbox); have n2_ := Aside0.mk ((by rw [hg]; exact (q21 (by repeat (first | (with_reducible first | exact HB.out | apply q10 | apply q9 | apply q11) | exact HB.out))) : w.heap.size ≤ gb168)); have n3_ := Aside0.mk ((by rw [hg]; exact (q21 (by repeat (first | (with_reducible first | exact HB.out | apply q10 | apply q9 | apply q11) | exact HB.out))) : w.heap.size ≤ gb168)); clear HB; have HB := n0_; have BK168 := n1_; have GW168 := n2_; have GE168 := n3_; clear n0_ n1_ n2_ n3_; clear hb hbox hg))
 (try simp only [Act.put, List.setIfInBounds_toArray, List.set_cons_zero, List.set_cons_succ])
 go_cut [16] (fun v16 wc => ∃ (kq : Nat) (x16_3 : Bool), v16 = .bool x16_3 ∧ Aside0 (crosstreeref10_access.j0 kq l0 a2 x16_3 a1_0 a1_1 a1_2 = some r) ∧ Aside0 (kq ≤ k) ∧ Aside0 (wc.heap[gb168]? = some (.cells #[.int .i64 a1_0, .int .i64 a1_1, .int .i64 a1_2] 23 (0, 0))) ∧ Aside0 (Below w.heap.size w wc))
 case first =>
  have H := HC4.out
  clear HC4
  by_cases c6 : a2 = 1
  ·rw [if_pos c6] at H
   have c6b0 : (a2 == 1) = true := beq_iff_eq.mpr c6
   have c6b1 : (a2 != 1) = false := bne_eq_false_iff_eq.mpr c6
   clear c6
   (first | rw [c6b0] | (simp only [i64_w, i32_w]; rw [c6b0]) | skip)
   have H' := Aside0.mk H
   clear H
   go_wp2
   go_meet
   case rel => exact ⟨_, (false), (by first | rfl | (simp; done) | (simp [*]; done)), H', ⟨by first | omega | exact Nat.le_refl _⟩, ⟨by (with_reducible repeat (first | refine q13 ?_ _ | refine q15 ?_ | refine q12 ?_ _)); exact BK168.out⟩, ⟨by repeat (first | (with_reducible first | exact HB.out | apply q10 | apply q9 | apply q11 | refine q14 ?_ GE168.out) | exact HB.out)⟩⟩
  ·rw [if_neg c6] at H
   have c6b0 : (a2 == 1) = false := beq_eq_false_iff_ne.mpr c6
   have c6b1 : (a2 != 1) = true := bne_iff_ne.mpr c6
   (first | rw [c6b0] | (simp only [i64_w, i32_w]; rw [c6b0]) | skip)
   by_cases c7 : a2 = 4
   ·rw [if_pos c7] at H
    have c7b0 : (a2 == 4) = true := beq_iff_eq.mpr c7
    have c7b1 : (a2 != 4) = false := bne_eq_false_iff_eq.mpr c7
    clear c7
    have H' := Aside0.mk H
    clear H
    go_wp2
    go_meet
    case rel => exact ⟨_, (false), (by first | rfl | (simp; done) | (simp [*]; done)), H', ⟨by first | omega | exact Nat.le_refl _⟩, ⟨by (with_reducible repeat (first | refine q13 ?_ _ | refine q15 ?_ | refine q12 ?_ _)); exact BK168.out⟩, ⟨by repeat (first | (with_reducible first | exact HB.out | apply q10 | apply q9 | apply q11 | refine q14 ?_ GE168.out) | exact HB.out)⟩⟩
   ·rw [if_neg c7] at H
    have c7b0 : (a2 == 4) = false := beq_eq_false_iff_ne.mpr c7
    have c7b1 : (a2 != 4) = true := bne_iff_ne.mpr c7
    have H' := Aside0.mk H
    clear H
    go_wp2
    go_meet
    case rel => exact ⟨_, ((a2 != 8)), (by first | rfl | (simp; done) | (simp [*]; done)), H', ⟨by first | omega | exact Nat.le_refl _⟩, ⟨by (with_reducible repeat (first | refine q13 ?_ _ | refine q15 ?_ | refine q12 ?_ _)); exact BK168.out⟩, ⟨by repeat (first | (with_reducible first | exact HB.out | apply q10 | apply q9 | apply q11 | refine q14 ?_ GE168.out) | exact HB.out)⟩⟩
 case rest =>
  clear HC4
  try clear p2
  try clear c3
  try clear c6
  try clear c6b0
  try clear c6b1
  try clear c7
  try clear c7b0
  try clear c7b1
  obtain ⟨kq, x16_3, rfl, HA, HJ3, BK168, HB⟩ := hcut
  cases kq with
  | zero => exact absurd HA.out (by simp [crosstreeref10_access.j0])
  | succ kj3 =>
   have H := HA.out
   clear HA
   simp only [crosstreeref10_access.j0] at H
   by_cases c8 : x16_3 = true
   ·subst c8
    have H1 : (some 1) = some r := by rw [if_pos rfl] at H; exact H
    clear H
    have H := H1
    clear H1
    obtain rfl := Option.some.inj H
    go_wp2
    go_ret
    exact ⟨by first | rfl | (simp [q26, q25] <;> rfl) | (simp [*, q26, q25] <;> rfl), by repeat (first | (with_reducible first | exact HB.out | apply q10 | apply q9 | apply q11 | refine q14 ?_ GE168.out) | exact HB.out)⟩
   ·replace c8 := Bool.eq_false_iff.mpr c8
    subst c8
    have H1 : ((crosstreeref10_May.f l0 a1_0 a1_1 a1_2 a2).bind fun t169 => (if t169 = true then (some 0) else (some 9))) = some r := by rw [if_neg (show ¬ (false = true) by decide)] at H; exact H
    clear H
    have H := H1
    clear H1
    replace H := Option.bind_eq_some_iff.mp H
    obtain ⟨t169, A90, H⟩ := H
    replace H : (if t169 = true then (some 0) else (some 9)) = some r := H
    have A9 := Aside0.mk A90
    clear A90
    by_cases c10 : t169 = true
    ·subst c10
     have H1 : (some 0) = some r := by rw [if_pos rfl] at H; exact H
     clear H
     have H := H1
     clear H1
     obtain rfl := Option.some.inj H
     have hcz11_0 : wc.cell? ⟨gb168, 0, none⟩ = some (.int .i64 a1_0) := (q16 BK168.out 0).trans rfl
     have hcz11_1 : wc.cell? ⟨gb168, 1, none⟩ = some (.int .i64 a1_1) := (q16 BK168.out 1).trans rfl
     have hcz11_2 : wc.cell? ⟨gb168, 2, none⟩ = some (.int .i64 a1_2) := (q16 BK168.out 2).trans rfl
     have hfz11_0 := q0 BK168.out 0
     have hfz11_1 := q0 BK168.out 1
     have hfz11_2 := q0 BK168.out 2
     go_wp2_with (first | ((with_reducible refine q37 (f := 42) rfl ?_); refine goesL_ (some 20) rfl rfl Try.func42 (by kernel_rfl) rfl #[.slice A0 l0.length c0, .agg #[.int .i64 a1_0, .int .i64 a1_1, .int .i64 a1_2], .int .i64 a2] rfl (by (try simp only [List.map_toArray, List.map_cons, List.map_nil]); first | done | rfl | (simp only [List.length_drop, List.length_take]; rfl)) ?_; (with_reducible refine (crosstreeref10_May.calls _ _ l0 a1_0 a1_1 a1_2 a2 true _ ?side1 ?side2 A9.out).mono ?_); (case side1 => repeat (first | exact (Kd.C_below HR0.out HB.out) | (with_reducible refine Kd.C_alloc ?_ _) | (with_reducible refine Kd.C_drewN ?_ _) | (with_reducible refine Kd.C_drew ?_))); (case side2 => exact HC0.out); rintro e w12 ⟨rfl, hb⟩; refine ⟨_, rfl, ?_⟩; have n0_ := Aside0.mk (q19 (g := gb168) (o := .cells #[.int .i64 a1_0, .int .i64 a1_1, .int .i64 a1_2] 23 (0, 0)) (by (with_reducible repeat (first | refine q13 ?_ _ | refine q15 ?_ | refine q12 ?_ _)); exact BK168.out) hb); have n1_ := Aside0.mk (q20 (by repeat (first | (with_reducible first | exact HB.out | apply q10 | apply q9 | apply q11 | refine q14 ?_ GE168.out) | exact HB.out)) hb); clear BK168; clear HB; have BK168 := n0_; have HB := n1_; clear n0_ n1_; (try clear hb); (try clear hb2); (try clear hk); (try clear hi)))
     go_ret
     exact ⟨by first | rfl | (simp [q26, q25] <;> rfl) | (simp [*, q26, q25] <;> rfl), by repeat (first | (with_reducible first | exact HB.out | apply q10 | apply q9 | apply q11 | refine q14 ?_ GE168.out) | exact HB.out)⟩
    ·replace c10 := Bool.eq_false_iff.mpr c10
     subst c10
     have H1 : (some 9) = some r := by rw [if_neg (show ¬ (false = true) by decide)] at H; exact H
     clear H
     have H := H1
     clear H1
     obtain rfl := Option.some.inj H
     have hcz13_0 : wc.cell? ⟨gb168, 0, none⟩ = some (.int .i64 a1_0) := (q16 BK168.out 0).trans rfl
     have hcz13_1 : wc.cell? ⟨gb168, 1, none⟩ = some (.int .i64 a1_1) := (q16 BK168.out 1).trans rfl
     have hcz13_2 : wc.cell? ⟨gb168, 2, none⟩ = some (.int .i64 a1_2) := (q16 BK168.out 2).trans rfl
     have hfz13_0 := q0 BK168.out 0
     have hfz13_1 := q0 BK168.out 1
     have hfz13_2 := q0 BK168.out 2
     go_wp2_with (first | ((with_reducible refine q37 (f := 42) rfl ?_); refine goesL_ (some 20) rfl rfl Try.func42 (by kernel_rfl) rfl #[.slice A0 l0.length c0, .agg #[.int .i64 a1_0, .int .i64 a1_1, .int .i64 a1_2], .int .i64 a2] rfl (by (try simp only [List.map_toArray, List.map_cons, List.map_nil]); first | done | rfl | (simp only [List.length_drop, List.length_take]; rfl)) ?_; (with_reducible refine (crosstreeref10_May.calls _ _ l0 a1_0 a1_1 a1_2 a2 false _ ?side1 ?side2 A9.out).mono ?_); (case side1 => repeat (first | exact (Kd.C_below HR0.out HB.out) | (with_reducible refine Kd.C_alloc ?_ _) | (with_reducible refine Kd.C_drewN ?_ _) | (with_reducible refine Kd.C_drew ?_))); (case side2 => exact HC0.out); rintro e w14 ⟨rfl, hb⟩; refine ⟨_, rfl, ?_⟩; have n0_ := Aside0.mk (q19 (g := gb168) (o := .cells #[.int .i64 a1_0, .int .i64 a1_1, .int .i64 a1_2] 23 (0, 0)) (by (with_reducible repeat (first | refine q13 ?_ _ | refine q15 ?_ | refine q12 ?_ _)); exact BK168.out) hb); have n1_ := Aside0.mk (q20 (by repeat (first | (with_reducible first | exact HB.out | apply q10 | apply q9 | apply q11 | refine q14 ?_ GE168.out) | exact HB.out)) hb); clear BK168; clear HB; have BK168 := n0_; have HB := n1_; clear n0_ n1_; (try clear hb); (try clear hb2); (try clear hk); (try clear hi)))
     go_ret
     exact ⟨by first | rfl | (simp [q26, q25] <;> rfl) | (simp [*, q26, q25] <;> rfl), by repeat (first | (with_reducible first | exact HB.out | apply q10 | apply q9 | apply q11 | refine q14 ?_ GE168.out) | exact HB.out)⟩
end Go.Proofs.Yteogfjhmjlelnaa.H
