/- The law MemNobody of mem is true: its walk. No condition. -/
import Derived.Test.YteogfjhmjlelnaaMs
set_option linter.unusedVariables false
set_option linter.unusedSimpArgs false
namespace Go.Proofs.Yteogfjhmjlelnaa.G
open Go.RowKit Go.Proofs.Yteogfjhmjlelnaa.B Go.Proofs.YteogfjhmjlelnaaW.PrintWords Go.Proofs.YteogfjhmjlelnaaW.PrintLast Go.Proofs.YteogfjhmjlelnaaW.PrintMore

set_option maxHeartbeats 4000000 in
theorem MemNobody_calls (p : Vl) (w : World) : Calls Try.prog 7 #[.agg #[.int .i64 p.n, .int .i64 p.b, .int .i64 p.f]] w fun e w' => e = .returned (.bool true) ∧ Below w.heap.size w w' := by
  have HB0 := Aside0.mk (below_alloc (Below.refl w.heap.size w) (.cells #[.int .i64 p.n, .int .i64 p.b, .int .i64 p.f] 23))
  have HX0 := Aside0.mk (blk_new w (.cells #[.int .i64 p.n, .int .i64 p.b, .int .i64 p.f] 23))
  go_enter Try.func7, Try.ntmps7
  go_upto_region 1 with (fail)
  generalize w.alloc (.cells #[.int .i64 p.n, .int .i64 p.b, .int .i64 p.f] 23) = W at HB0 HX0 ⊢
  go_upto_region 4 with (first | (go_at_call 10; refine (shown_calls _).mono ?_; rintro e w1 ⟨rfl, hb1⟩; have HB1 := Aside0.mk (below_step HB0.out hb1); have HX1 := Aside0.mk (blk_below HX0.out hb1); clear hb1) | (go_at_call 12; refine (alloc_nil 0 8 true _).mono ?_; rintro e w2 ⟨rfl, rfl⟩))
  have hx := cell3 HX1.out
  clear HB0 HX0
  go_upto_region 5 with (first | (go_at_call 14; refine (load_nil ⟨p.n, p.b, 0⟩ _).mono ?_; rintro e w2 ⟨rfl, hb2⟩; have HB2 := Aside0.mk (below_alloc (below_step HB1.out hb2) (.cells #[.int .i64 0, .int .i64 0, .int .i64 0] 23)); have HX2 := Aside0.mk (blk_alloc (blk_below HX1.out hb2) (.cells #[.int .i64 0, .int .i64 0, .int .i64 0] 23)); clear hb2))
  generalize w2.alloc (.cells #[.int .i64 0, .int .i64 0, .int .i64 0] 23) = w3 at HB2 HX2 ⊢
  clear hx HB1 HX1
  have hx := cell3 HX2.out
  go_upto_region 6 with (first | (go_at_call 20; refine (block_nil _ _).mono ?_; rintro e w4 ⟨rfl, rfl⟩))
  go_wp2_with (first | (go_at_call 17; refine (bytes_nil _ _).mono ?_; rintro e w4 ⟨rfl, rfl⟩) | (go_at_call 21; refine (end_nil _ _).mono ?_; rintro e w4 ⟨rfl, rfl⟩))
  go_ret
  exact ⟨rfl, HB2.out⟩
end Go.Proofs.Yteogfjhmjlelnaa.G
