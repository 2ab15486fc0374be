/- The law SccReaches of scc is true where the points to begin with are at most 1000000000: its walk. -/
import Derived.Test.YtdobjmbfkdfdcaaRb
import Derived.Test.YtdobjmbfkdfdcaaOp
set_option linter.unusedVariables false
set_option linter.unusedSimpArgs false
namespace Go.Proofs.Ytdobjmbfkdfdcaa.G
open Go.RowKit Go.Proofs.Ytdobjmbfkdfdcaa.B Go.Proofs.YtdobjmbfkdfdcaaW.PrintWords Go.Proofs.YtdobjmbfkdfdcaaW.PrintLast Go.Proofs.YtdobjmbfkdfdcaaW.PrintMore

set_option maxRecDepth 100000 in
set_option maxHeartbeats 8000000 in
theorem SccReaches_walk (n : Int) (l : List S33) (A : Option Addr) (c : Nat) (fr : List Int) (A2 : Option Addr) (c2 : Nat) (w : World) (hlc : l.length ≤ c) (hC : Kd.C k33 w A l.length l) (hlc2 : fr.length ≤ c2) (hC2 : Kd.C (Kd.int .i64) w A2 fr.length fr) (hfl : fr.length ≤ 1000000000) :
    Calls Try.prog 4 #[.int .i64 n, .slice A l.length c, .slice A2 fr.length c2] w fun e w' => e = .returned (.bool true) ∧ Below w.heap.size w w' := by
  obtain ⟨m, l2, hm, hl2, hF⟩ := few_e n l A c w hC hlc
  have HF := Aside0.mk hF
  have HFR := Aside0.mk (And.intro hC2 (And.intro hlc2 hfl))
  have hll : l2.length ≤ 1000000 := by rw [hl2, List.length_take]; omega
  obtain ⟨s, hs⟩ := ROk.exists_ (sizeN m) (sizeN_le m) l2 hll fr hfl
  have HS := Aside0.mk hs
  have hsl := hs.len
  have HL := Aside0.mk (show s.length ≤ 1000000 by have := sizeN_le m; omega)
  clear hC hlc hF hm hl2 hC2 hlc2 hfl hll hs hsl
  go_enter Try.func4, Try.ntmps4
  go_wp2_with (first
    | (go_at_call 9; with_reducible refine (shown_c _).mono ?_; rintro e w1 ⟨rfl, hk⟩; have HB := Aside0.mk hk; clear hk)
    | (go_at_call 10; with_reducible refine (HF.out _ HB.out).mono ?_; rintro e w2 ⟨rfl, hE, hk⟩; have HE := Aside0.mk hE; have HB2 := Aside0.mk hk; clear hE hk)
    | (go_at_call 16; with_reducible refine (reach_d _ _ _ _ fr A2 c2 _ HE.out (Kd.C_below HFR.out.1 HB2.out) HFR.out.2.2 s HS.out).mono ?_; rintro e w3 ⟨A3, c3, rfl, h3, hb3⟩; have HE3 := Aside0.mk (HE.out.below hb3); have HA3 := Aside0.mk h3; have HB3 := Aside0.mk (below_step HB2.out hb3); clear h3 hb3)
    | (go_at_call 17; with_reducible refine (refReach_d _ _ _ _ fr A2 c2 _ HE3.out (Kd.C_below HFR.out.1 HB3.out) HFR.out.2.1 HFR.out.2.2 s HS.out).mono ?_; rintro e w4 ⟨A4, c4, rfl, h4, hb4⟩; have HA3' := Aside0.mk (HA3.out.below hb4); have HA4 := Aside0.mk h4; have HB4 := Aside0.mk (below_step HB3.out hb4); clear h4 hb4)
    | (go_at_call 11; with_reducible refine (ints_d _ _ _ _ _ _ HA3'.out HA4.out HL.out).mono ?_; rintro e w5 ⟨rfl, hb5⟩; have HB5 := Aside0.mk (below_step HB4.out hb5); clear hb5))
  go_ret
  exact ⟨rfl, HB5.out⟩
end Go.Proofs.Ytdobjmbfkdfdcaa.G
