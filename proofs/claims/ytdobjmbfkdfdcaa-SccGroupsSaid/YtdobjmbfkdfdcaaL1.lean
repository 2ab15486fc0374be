/- The law SccGroups of scc is true: its walk. No condition. -/
import Derived.Test.YtdobjmbfkdfdcaaRb
import Derived.Test.YtdobjmbfkdfdcaaOp
set_option linter.unusedVariables false
set_option linter.unusedSimpArgs false
namespace Go.Proofs.Ytdobjmbfkdfdcaa.G
open Go.RowKit Go.Proofs.Ytdobjmbfkdfdcaa.B Go.Proofs.YtdobjmbfkdfdcaaW.PrintWords Go.Proofs.YtdobjmbfkdfdcaaW.PrintLast Go.Proofs.YtdobjmbfkdfdcaaW.PrintMore

set_option maxRecDepth 100000 in
set_option maxHeartbeats 8000000 in
theorem SccGroups_walk (n : Int) (l : List S33) (A : Option Addr) (c : Nat) (w : World) (hlc : l.length ≤ c) (hC : Kd.C k33 w A l.length l) :
    Calls Try.prog 3 #[.int .i64 n, .slice A l.length c] w fun e w' => e = .returned (.bool true) ∧ Below w.heap.size w w' := by
  obtain ⟨m, l2, hm, hl2, hF⟩ := few_e n l A c w hC hlc
  clear hm hl2
  have HF := Aside0.mk hF
  clear hC hlc hF
  go_enter Try.func3, Try.ntmps3
  go_upto_region 3 with (first
    | (go_at_call 9; with_reducible refine (shown_c _).mono ?_; rintro e w1 ⟨rfl, hk⟩; have HB := Aside0.mk hk; clear hk)
    | (go_at_call 10; with_reducible refine (HF.out _ HB.out).mono ?_; rintro e w2 ⟨rfl, hE, hk⟩; have HE := Aside0.mk hE; replace HB := Aside0.mk hk; clear hE hk))
  obtain ⟨s, _, hr0⟩ := groups_ok (sizeN m) l2 (sizeN_le m)
  generalize s.out = r at hr0
  have HG := Aside0.mk hr0
  obtain ⟨R, hR0⟩ := greedy_start (sizeN m) l2 r
  have HR := Aside0.mk hR0
  have hrl : r.length ≤ 1000000 := by have := HG.out.1; have := sizeN_le m; omega
  have hRl : R.length ≤ 1000000 := by
    have h := order_ok HG.out R hR0
    have h1 := List.Nodup.length_le_of_subset h.nodup (l₂ := List.range (sizeN m)) (fun v hv => List.mem_range.2 (h.head v hv).1)
    rw [List.length_range] at h1
    have := sizeN_le m
    omega
  have HL := Aside0.mk (And.intro hrl hRl)
  clear hr0 hR0 hrl hRl
  go_wp2_with (first
    | (go_at_call 12; with_reducible refine (groups_d _ _ _ _ _ HE.out r HG.out).mono ?_; rintro e w3 ⟨A3, c3, rfl, h3, hb3⟩; have HE3 := Aside0.mk (HE.out.below hb3); have HA3 := Aside0.mk h3; have HB3 := Aside0.mk (below_step HB.out hb3); clear h3 hb3)
    | (go_at_call 13; with_reducible refine (refGroups_d _ _ _ _ _ HE3.out r HG.out).mono ?_; rintro e w4 ⟨A4, c4, rfl, h4, hb4⟩; have HE4 := Aside0.mk (HE3.out.below hb4); have HA3' := Aside0.mk (HA3.out.below hb4); have HA4 := Aside0.mk h4; have HB4 := Aside0.mk (below_step HB3.out hb4); clear h4 hb4)
    | (go_at_call 11; with_reducible refine (ints_d _ _ _ _ _ _ HA3'.out HA4.out HL.out.1).mono ?_; rintro e w5 ⟨rfl, hb5⟩; have HE5 := Aside0.mk (HE4.out.below hb5); have HB5 := Aside0.mk (below_step HB4.out hb5); clear hb5)
    | (go_at_call 14; with_reducible refine (order_d _ _ _ _ _ HE5.out r R HG.out HR.out).mono ?_; rintro e w6 ⟨A6, c6, rfl, h6, hb6⟩; have HE6 := Aside0.mk (HE5.out.below hb6); have HA6 := Aside0.mk h6; have HB6 := Aside0.mk (below_step HB5.out hb6); clear h6 hb6)
    | (go_at_call 15; with_reducible refine (refOrder_d _ _ _ _ _ HE6.out r R HG.out HR.out).mono ?_; rintro e w7 ⟨A7, c7, rfl, h7, hb7⟩; have HA6' := Aside0.mk (HA6.out.below hb7); have HA7 := Aside0.mk h7; have HB7 := Aside0.mk (below_step HB6.out hb7); clear h7 hb7)
    | (go_at_call 11; with_reducible refine (ints_d _ _ _ _ _ _ HA6'.out HA7.out HL.out.2).mono ?_; rintro e w8 ⟨rfl, hb8⟩; have HB8 := Aside0.mk (below_step HB7.out hb8); clear hb8))
  go_ret
  exact ⟨rfl, HB8.out⟩
end Go.Proofs.Ytdobjmbfkdfdcaa.G
