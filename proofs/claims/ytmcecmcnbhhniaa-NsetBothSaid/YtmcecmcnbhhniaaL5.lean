/- The law NsetBoth of nset is true: its walk. No condition. -/
import Derived.Test.YtmcecmcnbhhniaaL4
set_option linter.unusedVariables false
set_option linter.unusedSimpArgs false
namespace Go.Proofs.Ytmcecmcnbhhniaa.G
open Go.RowKit Go.Proofs.Ytmcecmcnbhhniaa.B Go.Proofs.YtmcecmcnbhhniaaW.PrintWords Go.Proofs.YtmcecmcnbhhniaaW.PrintLast Go.Proofs.YtmcecmcnbhhniaaW.PrintMore

theorem union_same {s t : List Sp} (hs : WF s) (ht : WF t) (he : s = t) : (unionS s t).1 = s := by
  subst he
  refine (union_spec hs ht).1.only hs (fun n => ?_)
  rw [(union_spec hs ht).2.1 n]
  exact or_self_iff
set_option maxRecDepth 100000 in
set_option maxHeartbeats 8000000 in
theorem NsetBoth_walk (xs : List Int) (A0 : Option Addr) (c0 : Nat) (ys : List Int) (A1 : Option Addr) (c1 : Nat) (w : World) (hC : Kd.C (Kd.int .i64) w A0 xs.length xs) (hn : xs.length ≤ c0) (hC2 : Kd.C (Kd.int .i64) w A1 ys.length ys) (hn2 : ys.length ≤ c1) :
    Calls Try.prog 8 #[.slice A0 xs.length c0, .slice A1 ys.length c1] w fun e w' => e = .returned (.bool true) ∧ Below w.heap.size w w' := by
  have HC0 := Aside0.mk (And.intro hC hn)
  have HC1 := Aside0.mk (And.intro hC2 hn2)
  clear hC hn hC2 hn2
  have hwl := newS_wf (few xs)
  have hwm := newS_wf (few ys)
  have hU := (union_spec hwl hwm).1
  have hV := (union_spec hwm hwl).1
  have HE1 := Aside0.mk (union_comm hwl hwm)
  have HE2 := Aside0.mk (minus_union hwl hwm)
  have HE3 := Aside0.mk (union_again hwl hwm)
  have HE4 := Aside0.mk (both_len hwl hwm)
  have HU1 := Aside0.mk (list_len_le hU)
  have HB1 := Aside0.mk (And.intro (lenS_le (minus_spec hwl hwm).1) (lenS_le hwm))
  have HE5 : Aside0 ((unionS (unionS (newS (few xs)) (newS (few ys))).1 (unionS (newS (few ys)) (newS (few xs))).1).1 = (unionS (newS (few xs)) (newS (few ys))).1) := Aside0.mk (union_same hU hV (union_comm hwl hwm))
  clear hwl hwm hU hV
  go_enter Try.func8, Try.ntmps8
  go_upto_region 6 with (first | (go_at_call 10; with_reducible refine (shown_calls _).mono ?_; rintro e wn ⟨rfl, hk⟩; have HS := Aside0.mk (Sets.nil hk); have HQ := Aside0.mk (Rows_.nil wn); clear hk) | (go_at_call 17; with_reducible refine (few_calls (Kd.C_below HC0.out.1 HS.out.below) HC0.out.2).mono ?_; rintro e wn ⟨rfl, _, hw2⟩; obtain rfl := hw2.symm) | (go_at_call 17; with_reducible refine (few_calls (Kd.C_below HC1.out.1 HS.out.below) HC1.out.2).mono ?_; rintro e wn ⟨rfl, _, hw2⟩; obtain rfl := hw2.symm) | (go_at_call 11; with_reducible refine (new_calls (few_C (Kd.C_below HC0.out.1 HS.out.below)) (few_le _)).mono ?_; rintro e wn ⟨ga, rfl, Rga, hM⟩; replace HQ := Aside0.mk (HQ.out.low hM.below); replace HS := Aside0.mk (HS.out.push hM); clear hM) | (go_at_call 11; with_reducible refine (new_calls (few_C (Kd.C_below HC1.out.1 HS.out.below)) (few_le _)).mono ?_; rintro e wn ⟨gb, rfl, Rgb, hM⟩; replace HQ := Aside0.mk (HQ.out.low hM.below); replace HS := Aside0.mk (HS.out.push hM); clear hM))
  go_upto_region 7 with (first | (go_at_call 17; with_reducible refine (few_calls (Kd.C_below HC0.out.1 HS.out.below) HC0.out.2).mono ?_; rintro e wn ⟨rfl, _, hw2⟩; obtain rfl := hw2.symm) | (go_at_call 17; with_reducible refine (few_calls (Kd.C_below HC1.out.1 HS.out.below) HC1.out.2).mono ?_; rintro e wn ⟨rfl, _, hw2⟩; obtain rfl := hw2.symm) | (go_at_call 11; with_reducible refine (new_calls (few_C (Kd.C_below HC1.out.1 HS.out.below)) (few_le _)).mono ?_; rintro e wn ⟨g2, rfl, Rg2, hM⟩; replace HQ := Aside0.mk (HQ.out.low hM.below); replace HS := Aside0.mk (HS.out.push hM); clear hM) | (go_at_call 22; with_reducible refine (union_calls (HS.out.set 0 rfl) HS.out.below.size (HS.out.wf 0 rfl) (HS.out.set 2 rfl) (HS.out.wf 2 rfl)).mono ?_; rintro e wn ⟨rfl, hL⟩; obtain ⟨Rg1, hS⟩ := HS.out.left 0 rfl hL (union_spec (HS.out.wf 0 rfl) (HS.out.wf 2 rfl)).1; replace HQ := Aside0.mk (Rows_.nil wn); replace HS := Aside0.mk hS; clear hL hS))
  go_upto_region 8 with (first | (go_at_call 17; with_reducible refine (few_calls (Kd.C_below HC0.out.1 HS.out.below) HC0.out.2).mono ?_; rintro e wn ⟨rfl, _, hw2⟩; obtain rfl := hw2.symm) | (go_at_call 17; with_reducible refine (few_calls (Kd.C_below HC1.out.1 HS.out.below) HC1.out.2).mono ?_; rintro e wn ⟨rfl, _, hw2⟩; obtain rfl := hw2.symm) | (go_at_call 11; with_reducible refine (new_calls (few_C (Kd.C_below HC0.out.1 HS.out.below)) (few_le _)).mono ?_; rintro e wn ⟨g3, rfl, Rg3, hM⟩; replace HQ := Aside0.mk (HQ.out.low hM.below); replace HS := Aside0.mk (HS.out.push hM); clear hM) | (go_at_call 22; with_reducible refine (union_calls (HS.out.set 1 rfl) HS.out.below.size (HS.out.wf 1 rfl) (HS.out.set 3 rfl) (HS.out.wf 3 rfl)).mono ?_; rintro e wn ⟨rfl, hL⟩; obtain ⟨Rg2, hS⟩ := HS.out.left 1 rfl hL (union_spec (HS.out.wf 1 rfl) (HS.out.wf 3 rfl)).1; replace HQ := Aside0.mk (Rows_.nil wn); replace HS := Aside0.mk hS; clear hL hS))
  go_upto_region 9 with (first | (go_at_call 17; with_reducible refine (few_calls (Kd.C_below HC0.out.1 HS.out.below) HC0.out.2).mono ?_; rintro e wn ⟨rfl, _, hw2⟩; obtain rfl := hw2.symm) | (go_at_call 17; with_reducible refine (few_calls (Kd.C_below HC1.out.1 HS.out.below) HC1.out.2).mono ?_; rintro e wn ⟨rfl, _, hw2⟩; obtain rfl := hw2.symm) | (go_at_call 11; with_reducible refine (new_calls (few_C (Kd.C_below HC0.out.1 HS.out.below)) (few_le _)).mono ?_; rintro e wn ⟨g4, rfl, Rg4, hM⟩; replace HQ := Aside0.mk (HQ.out.low hM.below); replace HS := Aside0.mk (HS.out.push hM); clear hM) | (go_at_call 11; with_reducible refine (new_calls (few_C (Kd.C_below HC1.out.1 HS.out.below)) (few_le _)).mono ?_; rintro e wn ⟨g5, rfl, Rg5, hM⟩; replace HQ := Aside0.mk (HQ.out.low hM.below); replace HS := Aside0.mk (HS.out.push hM); clear hM) | (go_at_call 23; with_reducible refine (minus_calls (HS.out.set 4 rfl) (HS.out.wf 4 rfl) (HS.out.may 5 rfl)).mono ?_; rintro e wn ⟨g6, rfl, Rg6, hM⟩; replace HQ := Aside0.mk (HQ.out.low hM.below); replace HS := Aside0.mk (HS.out.push hM); clear hM))
  go_upto_region 10 with (first | (go_at_call 15; with_reducible refine (len_calls (HS.out.set 6 rfl) (HS.out.wf 6 rfl)).mono ?_; rintro e wn ⟨rfl, hk⟩; replace HS := Aside0.mk (HS.out.low hk); replace HQ := Aside0.mk (HQ.out.low hk); clear hk))
  go_upto_region 11 with (first | (go_at_call 11; with_reducible refine (new_calls (few_C (Kd.C_below HC1.out.1 HS.out.below)) (few_le _)).mono ?_; rintro e wn ⟨g7, rfl, Rg7, hM⟩; replace HQ := Aside0.mk (HQ.out.low hM.below); replace HS := Aside0.mk (HS.out.push hM); clear hM) | (go_at_call 22; with_reducible refine (union_calls (HS.out.set 6 rfl) HS.out.below.size (HS.out.wf 6 rfl) (HS.out.set 7 rfl) (HS.out.wf 7 rfl)).mono ?_; rintro e wn ⟨rfl, hL⟩; obtain ⟨Rg8, hS⟩ := HS.out.left 6 rfl hL (union_spec (HS.out.wf 6 rfl) (HS.out.wf 7 rfl)).1; replace HQ := Aside0.mk (Rows_.nil wn); replace HS := Aside0.mk hS; clear hL hS))
  go_upto_region 12 with (first | (go_at_call 22; with_reducible refine (union_calls (HS.out.set 0 rfl) HS.out.below.size (HS.out.wf 0 rfl) (HS.out.set 1 rfl) (HS.out.wf 1 rfl)).mono ?_; rintro e wn ⟨rfl, hL⟩; obtain ⟨Rg9, hS⟩ := HS.out.left 0 rfl hL (union_spec (HS.out.wf 0 rfl) (HS.out.wf 1 rfl)).1; replace HQ := Aside0.mk (Rows_.nil wn); replace HS := Aside0.mk hS; clear hL hS))
  rw [HE2.out, HE5.out] at HS
  rw [HE3.out]
  generalize newS (few xs) = l at HS HE1 HE2 HE3 HE4 HU1 HB1 HE5 ⊢
  generalize hm : newS (few ys) = m at HS HE1 HE2 HE3 HE4 HU1 HB1 HE5 ⊢
  have HMM := Aside0.mk hm
  clear hm
  have hw1 : IntKind.i64.wrap (lenS (minusS l m) + lenS m) = lenS (minusS l m) + lenS m := by have := HB1.out; rw [IntKind.wrap_i64]; omega
  have hw2 : wrap64 (lenS (minusS l m) + lenS m) = lenS (minusS l m) + lenS m := by have := HB1.out; unfold wrap64; omega
  have HWR := Aside0.mk (And.intro hw1 hw2)
  clear hw1 hw2
  go_wp2_with (first | (go_at_call 19; with_reducible refine (list_calls (HS.out.set 0 rfl) (HS.out.wf 0 rfl)).mono ?_; rintro e wn ⟨Aq, cq, rfl, hR, hk⟩; replace HS := Aside0.mk (HS.out.low hk); replace HQ := Aside0.mk ((HQ.out.low hk).push hR.rd); clear hR hk) | (go_at_call 19; with_reducible refine (list_calls (HS.out.set 1 rfl) (HS.out.wf 1 rfl)).mono ?_; rintro e wn ⟨Aq, cq, rfl, hR, hk⟩; replace HS := Aside0.mk (HS.out.low hk); replace HQ := Aside0.mk ((HQ.out.low hk).push hR.rd); clear hR hk) | (go_at_call 13; with_reducible refine (ints_rd (HQ.out.get 0 rfl) (HQ.out.get 1 rfl) (congrArg listS HE1.out) (by rw [← HE1.out]; exact HU1.out)).mono ?_; rintro e wn ⟨rfl, hk⟩; replace HS := Aside0.mk (HS.out.low hk); replace HQ := Aside0.mk (HQ.out.low hk); clear hk) | (go_at_call 19; with_reducible refine (list_calls (HS.out.set 6 rfl) (HS.out.wf 6 rfl)).mono ?_; rintro e wn ⟨Aq, cq, rfl, hR, hk⟩; replace HS := Aside0.mk (HS.out.low hk); replace HQ := Aside0.mk ((HQ.out.low hk).push hR.rd); clear hR hk) | (go_at_call 13; with_reducible refine (ints_rd (HQ.out.get 2 rfl) (HQ.out.get 3 rfl) rfl HU1.out).mono ?_; rintro e wn ⟨rfl, hk⟩; replace HS := Aside0.mk (HS.out.low hk); replace HQ := Aside0.mk (HQ.out.low hk); clear hk) | (go_at_call 15; with_reducible refine (len_calls (HS.out.set 0 rfl) (HS.out.wf 0 rfl)).mono ?_; rintro e wn ⟨rfl, hk⟩; rw [HE4.out]; replace HS := Aside0.mk (HS.out.low hk); replace HQ := Aside0.mk (HQ.out.low hk); clear hk) | (go_at_call 11; with_reducible refine (new_calls (few_C (Kd.C_below HC1.out.1 HS.out.below)) (few_le _)).mono ?_; rintro e wn ⟨g10, rfl, Rg10, hM⟩; replace HQ := Aside0.mk (HQ.out.low hM.below); rw [HMM.out] at hM; replace HS := Aside0.mk (HS.out.push hM); clear hM) | (go_at_call 15; with_reducible refine (len_calls (HS.out.set 8 rfl) (HS.out.wf 8 rfl)).mono ?_; rintro e wn ⟨rfl, hk⟩; replace HS := Aside0.mk (HS.out.low hk); replace HQ := Aside0.mk (HQ.out.low hk); clear hk))
  go_ret
  refine ⟨?_, HS.out.below⟩
  show Ending.returned (.bool (lenS (minusS l m) + lenS m == wrap64 (lenS (minusS l m) + lenS m))) = _
  rw [HWR.out.2, beq_self_eq_true]
end Go.Proofs.Ytmcecmcnbhhniaa.G
