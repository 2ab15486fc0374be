/- Mem.Store where it may not be. -/
import Derived.Test.YteogfjhmjlelnaaMh
set_option linter.unusedVariables false
set_option linter.unusedSimpArgs false
namespace Go.Proofs.Yteogfjhmjlelnaa.G
open Go.RowKit Go.Proofs.Yteogfjhmjlelnaa.B Go.Proofs.YteogfjhmjlelnaaW.PrintWords Go.Proofs.YteogfjhmjlelnaaW.PrintLast Go.Proofs.YteogfjhmjlelnaaW.PrintMore

theorem store_err (p x : Vl) (k : Int) (q : Value) (er : Int) (w : World) (he : (er != 0) = true)
    (hW : ∀ W, Below w.heap.size w W → Calls Try.prog 32 #[q, .agg #[.int .i64 p.n, .int .i64 p.b, .int .i64 p.f], .int .i64 k] W fun e w' => e = .returned (.tuple #[.slice none 0 0, .int .i64 er]) ∧ Below W.heap.size W w') :
    Calls Try.prog 16 #[q, .agg #[.int .i64 p.n, .int .i64 p.b, .int .i64 p.f], .int .i64 k, .agg #[.int .i64 x.n, .int .i64 x.b, .int .i64 x.f]] w fun e w' => e = .returned (.int .i64 er) ∧ Below w.heap.size w w' := by
  have HW := Aside0.mk hW
  clear hW
  have hB := Aside0.mk (below_alloc (below_alloc (Below.refl w.heap.size w) (.cells #[.int .i64 p.n, .int .i64 p.b, .int .i64 p.f] 23)) (.cells #[.int .i64 x.n, .int .i64 x.b, .int .i64 x.f] 23))
  have hX := Aside0.mk (blk_alloc (blk_new w (.cells #[.int .i64 p.n, .int .i64 p.b, .int .i64 p.f] 23)) (.cells #[.int .i64 x.n, .int .i64 x.b, .int .i64 x.f] 23))
  go_enter Try.func16, Try.ntmps16
  go_upto_region 1 with (fail)
  generalize (w.alloc (.cells #[.int .i64 p.n, .int .i64 p.b, .int .i64 p.f] 23)).alloc (.cells #[.int .i64 x.n, .int .i64 x.b, .int .i64 x.f] 23) = W at hB hX ⊢
  have hx := cell3 hX.out
  go_upto_region 2 with (first | (go_at_call 32; refine (HW.out _ hB.out).mono ?_; rintro e w1 ⟨rfl, hb1⟩))
  have HB1 := Aside0.mk (below_step hB.out hb1)
  clear hx hX hB hb1 HW
  go_wp2_with fail
  go_ret
  exact ⟨rfl, HB1.out⟩
end Go.Proofs.Yteogfjhmjlelnaa.G
