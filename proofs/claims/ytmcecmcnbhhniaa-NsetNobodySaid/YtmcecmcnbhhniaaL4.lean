/- The law NsetUnions of nset is true: its walk. No condition. -/
import Derived.Test.YtmcecmcnbhhniaaL3
set_option linter.unusedVariables false
set_option linter.unusedSimpArgs false
namespace Go.Proofs.Ytmcecmcnbhhniaa.G
open Go.RowKit Go.Proofs.Ytmcecmcnbhhniaa.B Go.Proofs.YtmcecmcnbhhniaaW.PrintWords Go.Proofs.YtmcecmcnbhhniaaW.PrintLast Go.Proofs.YtmcecmcnbhhniaaW.PrintMore

theorem few_cap {xs : List Int} {c : Nat} (h : xs.length ≤ c) : (few xs).length ≤ c := by unfold few; rw [List.length_take]; omega
theorem few_2000 (xs : List Int) : (few xs).length ≤ 2000 := by have := few_len xs; omega
set_option maxRecDepth 100000 in
set_option maxHeartbeats 8000000 in
theorem NsetUnions_walk (xs : List Int) (A0 : Option Addr) (c0 : Nat) (ys : List Int) (A1 : Option Addr) (c1 : Nat) (w : World) (hC : Kd.C (Kd.int .i64) w A0 xs.length xs) (hn : xs.length ≤ c0) (hC2 : Kd.C (Kd.int .i64) w A1 ys.length ys) (hn2 : ys.length ≤ c1) :
    Calls Try.prog 7 #[.slice A0 xs.length c0, .slice A1 ys.length c1] w fun e w' => e = .returned (.bool true) ∧ Below w.heap.size w w' := by
  have HC0 := Aside0.mk (And.intro hC hn)
  have HC1 := Aside0.mk (And.intro hC2 hn2)
  clear hC hn hC2 hn2
  have hwl := newS_wf (few xs)
  have hwm := newS_wf (few ys)
  have HWL := Aside0.mk hwl
  have HWM := Aside0.mk hwm
  have HWU := Aside0.mk (union_spec hwl hwm).1
  have HWD := Aside0.mk (minus_spec hwl hwm).1
  have HU1 := Aside0.mk (list_len_le HWU.out)
  have HU2 := Aside0.mk (spans_len_le HWU.out)
  have HM1 := Aside0.mk (list_len_le hwm)
  have HD1 := Aside0.mk (list_len_le HWD.out)
  have HD2 := Aside0.mk (spans_len_le HWD.out)
  clear hwl hwm
  go_enter Try.func7, Try.ntmps7
  go_upto_region 11 with (first | (go_at_call 10; with_reducible refine (shown_calls _).mono ?_; rintro e wn ⟨rfl, hk⟩; have HS := Aside0.mk (Sets.nil hk); have HQ := Aside0.mk (Rows_.nil wn); clear hk) | (go_at_call 17; with_reducible refine (few_calls (Kd.C_below HC0.out.1 HS.out.below) HC0.out.2).mono ?_; rintro e wn ⟨rfl, _, hw2⟩; obtain rfl := hw2.symm) | (go_at_call 17; with_reducible refine (few_calls (Kd.C_below HC1.out.1 HS.out.below) HC1.out.2).mono ?_; rintro e wn ⟨rfl, _, hw2⟩; obtain rfl := hw2.symm) | (go_at_call 11; with_reducible refine (new_calls (few_C (Kd.C_below HC0.out.1 HS.out.below)) (few_le _)).mono ?_; rintro e wn ⟨g1, rfl, Rg1, hM⟩; replace HQ := Aside0.mk (HQ.out.low hM.below); replace HS := Aside0.mk (HS.out.push hM); clear hM) | (go_at_call 11; with_reducible refine (new_calls (few_C (Kd.C_below HC1.out.1 HS.out.below)) (few_le _)).mono ?_; rintro e wn ⟨g2, rfl, Rg2, hM⟩; replace HQ := Aside0.mk (HQ.out.low hM.below); replace HS := Aside0.mk (HS.out.push hM); clear hM) | (go_at_call 24; with_reducible refine (r_of (few_C (Kd.C_below HC0.out.1 HS.out.below)) (few_cap HC0.out.2) (few_2000 _)).mono ?_; rintro e wn ⟨Aa, ca, rfl, hR, hk⟩; (try replace HRa := Aside0.mk (HRa.out.below hk)); replace HS := Aside0.mk (HS.out.low hk); replace HQ := Aside0.mk (HQ.out.low hk); have HRa := Aside0.mk hR; clear hR hk) | (go_at_call 24; with_reducible refine (r_of (few_C (Kd.C_below HC1.out.1 HS.out.below)) (few_cap HC1.out.2) (few_2000 _)).mono ?_; rintro e wn ⟨Ab, cb, rfl, hR, hk⟩; (try replace HRa := Aside0.mk (HRa.out.below hk)); replace HS := Aside0.mk (HS.out.low hk); replace HQ := Aside0.mk (HQ.out.low hk); have HRb := Aside0.mk hR; clear hR hk) | (go_at_call 23; with_reducible refine (minus_calls (HS.out.set 0 rfl) (HS.out.wf 0 rfl) (HS.out.may 1 rfl)).mono ?_; rintro e wn ⟨g3, rfl, Rg3, hM⟩; replace HRa := Aside0.mk (HRa.out.below hM.below); replace HRb := Aside0.mk (HRb.out.below hM.below); replace HQ := Aside0.mk (HQ.out.low hM.below); replace HS := Aside0.mk (HS.out.push hM); clear hM) | (go_at_call 22; with_reducible refine (union_calls (HS.out.set 0 rfl) HS.out.below.size (HS.out.wf 0 rfl) (HS.out.set 1 rfl) (HS.out.wf 1 rfl)).mono ?_; rintro e wn ⟨rfl, hL⟩; obtain ⟨Rg1, hS⟩ := HS.out.left 0 rfl hL (union_spec (HS.out.wf 0 rfl) (HS.out.wf 1 rfl)).1; replace HRa := Aside0.mk (HRa.out.left (HS.out.set 0 rfl) hL); replace HRb := Aside0.mk (HRb.out.left (HS.out.set 0 rfl) hL); clear HQ; have HQ := Aside0.mk (((Rows_.nil _).push HRa.out.rd).push HRb.out.rd); clear HRa HRb; replace HS := Aside0.mk hS; clear hL hS) | (go_at_call 25; with_reducible refine (union2_calls (HQ.out.get 0 rfl) HWL.out (HQ.out.get 1 rfl) HWM.out).mono ?_; rintro e wn ⟨v2, rfl, hR, hk⟩; obtain ⟨Au, cu, hv⟩ := RdI.sl hR; subst hv; replace HS := Aside0.mk (HS.out.low hk); replace HQ := Aside0.mk ((HQ.out.low hk).push hR); clear hR hk))
  generalize newS (few xs) = l at HS HQ HWL HWM HWU HWD HU1 HU2 HM1 HD1 HD2 ⊢
  generalize newS (few ys) = m at HS HQ HWL HWM HWU HWD HU1 HU2 HM1 HD1 HD2 ⊢
  generalize hb : (unionS l m).2 = b
  cases b
  all_goals (
    clear hb
    go_wp2_with (first | (go_at_call 19; with_reducible refine (list_calls (HS.out.set 0 rfl) (HS.out.wf 0 rfl)).mono ?_; rintro e wn ⟨Aq, cq, rfl, hR, hk⟩; replace HS := Aside0.mk (HS.out.low hk); replace HQ := Aside0.mk ((HQ.out.low hk).push hR.rd); clear hR hk) | (go_at_call 13; with_reducible refine (ints_rd (HQ.out.get 3 rfl) (HQ.out.get 2 rfl) rfl HU1.out).mono ?_; rintro e wn ⟨rfl, hk⟩; replace HS := Aside0.mk (HS.out.low hk); replace HQ := Aside0.mk (HQ.out.low hk); clear hk) | (go_at_call 14; with_reducible refine (spans_calls (HS.out.set 0 rfl) (HS.out.wf 0 rfl)).mono ?_; rintro e wn ⟨Aq, cq, rfl, hR, hk⟩; replace HS := Aside0.mk (HS.out.low hk); replace HQ := Aside0.mk ((HQ.out.low hk).push hR.rd); clear hR hk) | (go_at_call 20; with_reducible refine (rspans_rd (HQ.out.get 2 rfl) HWU.out).mono ?_; rintro e wn ⟨Aq, cq, rfl, hR, hk⟩; replace HS := Aside0.mk (HS.out.low hk); replace HQ := Aside0.mk ((HQ.out.low hk).push hR.rd); clear hR hk) | (go_at_call 13; with_reducible refine (ints_rd (HQ.out.get 4 rfl) (HQ.out.get 5 rfl) rfl HU2.out).mono ?_; rintro e wn ⟨rfl, hk⟩; replace HS := Aside0.mk (HS.out.low hk); replace HQ := Aside0.mk (HQ.out.low hk); clear hk) | (go_at_call 19; with_reducible refine (list_calls (HS.out.set 1 rfl) (HS.out.wf 1 rfl)).mono ?_; rintro e wn ⟨Aq, cq, rfl, hR, hk⟩; replace HS := Aside0.mk (HS.out.low hk); replace HQ := Aside0.mk ((HQ.out.low hk).push hR.rd); clear hR hk) | (go_at_call 13; with_reducible refine (ints_rd (HQ.out.get 6 rfl) (HQ.out.get 1 rfl) rfl HM1.out).mono ?_; rintro e wn ⟨rfl, hk⟩; replace HS := Aside0.mk (HS.out.low hk); replace HQ := Aside0.mk (HQ.out.low hk); clear hk) | (go_at_call 19; with_reducible refine (list_calls (HS.out.set 2 rfl) (HS.out.wf 2 rfl)).mono ?_; rintro e wn ⟨Aq, cq, rfl, hR, hk⟩; replace HS := Aside0.mk (HS.out.low hk); replace HQ := Aside0.mk ((HQ.out.low hk).push hR.rd); clear hR hk) | (go_at_call 26; with_reducible refine (rminus_rd (HQ.out.get 0 rfl) (HQ.out.get 1 rfl) HWL.out HWM.out).mono ?_; rintro e wn ⟨Aq, cq, rfl, hR, hk⟩; replace HS := Aside0.mk (HS.out.low hk); replace HQ := Aside0.mk ((HQ.out.low hk).push hR.rd); clear hR hk) | (go_at_call 13; with_reducible refine (ints_rd (HQ.out.get 7 rfl) (HQ.out.get 8 rfl) rfl HD1.out).mono ?_; rintro e wn ⟨rfl, hk⟩; replace HS := Aside0.mk (HS.out.low hk); replace HQ := Aside0.mk (HQ.out.low hk); clear hk) | (go_at_call 14; with_reducible refine (spans_calls (HS.out.set 2 rfl) (HS.out.wf 2 rfl)).mono ?_; rintro e wn ⟨Aq, cq, rfl, hR, hk⟩; replace HS := Aside0.mk (HS.out.low hk); replace HQ := Aside0.mk ((HQ.out.low hk).push hR.rd); clear hR hk) | (go_at_call 20; with_reducible refine (rspans_rd (HQ.out.get 10 rfl) HWD.out).mono ?_; rintro e wn ⟨Aq, cq, rfl, hR, hk⟩; replace HS := Aside0.mk (HS.out.low hk); replace HQ := Aside0.mk ((HQ.out.low hk).push hR.rd); clear hR hk) | (go_at_call 13; with_reducible refine (ints_rd (HQ.out.get 9 rfl) (HQ.out.get 11 rfl) rfl HD2.out).mono ?_; rintro e wn ⟨rfl, hk⟩; replace HS := Aside0.mk (HS.out.low hk); replace HQ := Aside0.mk (HQ.out.low hk); clear hk))
    go_ret
    exact ⟨rfl, HS.out.below⟩)
end Go.Proofs.Ytmcecmcnbhhniaa.G
