/- The law NsetNobody of nset is true: its walk. No condition. -/
import Derived.Test.YtmcecmcnbhhniaaL4
set_option linter.unusedVariables false
set_option linter.unusedSimpArgs false
namespace Go.Proofs.Ytmcecmcnbhhniaa.G
open Go.RowKit Go.Proofs.Ytmcecmcnbhhniaa.B Go.Proofs.YtmcecmcnbhhniaaW.PrintWords Go.Proofs.YtmcecmcnbhhniaaW.PrintLast Go.Proofs.YtmcecmcnbhhniaaW.PrintMore

set_option maxRecDepth 100000 in
set_option maxHeartbeats 8000000 in
theorem NsetNobody_walk (n : Int) (w : World) :
    Calls Try.prog 9 #[.int .i64 n] w fun e w' => e = .returned (.bool true) ∧ Below w.heap.size w w' := by
  go_enter Try.func9, Try.ntmps9
  go_upto_region 3 with (first | (go_at_call 10; with_reducible refine (shown_calls _).mono ?_; rintro e wn ⟨rfl, hk⟩; have HS := Aside0.mk (Sets.nil hk); have HQ := Aside0.mk (Rows_.nil wn); clear hk))
  clear HQ
  go_wp2_with (first | (go_at_call 12; with_reducible refine (add_nil n _).mono ?_; rintro e wn ⟨rfl, hw2⟩; obtain rfl := hw2.symm) | (go_at_call 16; with_reducible refine (has_nil n _).mono ?_; rintro e wn ⟨rfl, hk⟩; replace HS := Aside0.mk (HS.out.low hk); clear hk) | (go_at_call 15; with_reducible refine (len_nil _).mono ?_; rintro e wn ⟨rfl, hk⟩; replace HS := Aside0.mk (HS.out.low hk); clear hk) | (go_at_call 19; with_reducible refine (list_nil _).mono ?_; rintro e wn ⟨rfl, hk⟩; replace HS := Aside0.mk (HS.out.low hk); clear hk) | (go_at_call 11; with_reducible refine (new_one _).mono ?_; rintro e wn ⟨gn, rfl, Rn, hM⟩; replace HS := Aside0.mk (HS.out.push hM); clear hM) | (go_at_call 22; with_reducible refine (union_nobody _ _).mono ?_; rintro e wn ⟨rfl, hw2⟩; obtain rfl := hw2.symm) | (go_at_call 14; with_reducible refine (spans_nil _).mono ?_; rintro e wn ⟨rfl, hk⟩; replace HS := Aside0.mk (HS.out.low hk); clear hk) | (go_at_call 23; with_reducible refine (minus_calls (HS.out.set 1 rfl) (HS.out.wf 1 rfl) (may_nil _)).mono ?_; rintro e wn ⟨gq, rfl, Rq, hM⟩; rw [show minusS [⟨1, 1⟩] [] = [⟨1, 1⟩] from rfl] at hM; replace HS := Aside0.mk (HS.out.push hM); clear hM) | (go_at_call 15; with_reducible refine (len_calls (HS.out.set 2 rfl) (HS.out.wf 2 rfl)).mono ?_; rintro e wn ⟨rfl, hk⟩; replace HS := Aside0.mk (HS.out.low hk); clear hk) | (go_at_call 23; with_reducible refine (minus_nobody _ _).mono ?_; rintro e wn ⟨gq, rfl, Rq, hM⟩; replace HS := Aside0.mk (HS.out.push hM); clear hM) | (go_at_call 15; with_reducible refine (len_calls (HS.out.set 3 rfl) (HS.out.wf 3 rfl)).mono ?_; rintro e wn ⟨rfl, hk⟩; replace HS := Aside0.mk (HS.out.low hk); clear hk))
  go_ret
  exact ⟨rfl, HS.out.below⟩
end Go.Proofs.Ytmcecmcnbhhniaa.G
