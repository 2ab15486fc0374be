/- The nil Mem: wide and Load. -/
import Derived.Test.YteogfjhmjlelnaaMg
set_option linter.unusedVariables false
set_option linter.unusedSimpArgs false
namespace Go.Proofs.Yteogfjhmjlelnaa.G
open Go.RowKit Go.Proofs.Yteogfjhmjlelnaa.B Go.Proofs.YteogfjhmjlelnaaW.PrintWords Go.Proofs.YteogfjhmjlelnaaW.PrintLast Go.Proofs.YteogfjhmjlelnaaW.PrintMore

theorem part_none (p : Vl) (n : Int) (w : World) :
    Calls Try.prog 37 #[.pointer none, .agg #[.int .i64 p.n, .int .i64 p.b, .int .i64 p.f], .int .i64 n] w fun e w' => e = .returned (.tuple #[.slice none 0 0, .bool false]) ∧ Below w.heap.size w w' := by
  cases hp : (decide (0 < p.b) && p.f == 0) with
  | true => exact part_nil p n w hp
  | false => exact part_nil0 p n w hp
theorem wide_nil (p : Vl) (w : World) :
    Calls Try.prog 32 #[.pointer none, .agg #[.int .i64 p.n, .int .i64 p.b, .int .i64 p.f], .int .i64 8] w fun e w' => e = .returned (.tuple #[.slice none 0 0, .int .i64 9]) ∧ Below w.heap.size w w' := by
  have hB := Aside0.mk (below_alloc (Below.refl w.heap.size w) (.cells #[.int .i64 p.n, .int .i64 p.b, .int .i64 p.f] 23))
  have hX := Aside0.mk (blk_new w (.cells #[.int .i64 p.n, .int .i64 p.b, .int .i64 p.f] 23))
  go_enter Try.func32, Try.ntmps32
  go_upto_region 3 with (fail)
  generalize w.alloc (.cells #[.int .i64 p.n, .int .i64 p.b, .int .i64 p.f] 23) = W at hB hX ⊢
  have hx := cell3 hX.out
  go_wp2_with fail
  refine (part_none p 8 _).mono ?_
  rintro e w1 ⟨rfl, hb1⟩
  have HB1 := Aside0.mk (below_step hB.out hb1)
  clear hx hX hB hb1
  go_wp2_with fail
  exact bodyPost_ret (v := .tuple #[.slice none 0 0, .int .i64 9]) (by simp [results, Try.results32, go_sem]) rfl ⟨rfl, HB1.out⟩
theorem load_nil (p : Vl) (w : World) :
    Calls Try.prog 14 #[.pointer none, .agg #[.int .i64 p.n, .int .i64 p.b, .int .i64 p.f], .int .i64 8] w fun e w' => e = .returned (.tuple #[.agg #[.int .i64 0, .int .i64 0, .int .i64 0], .int .i64 9]) ∧ Below w.heap.size w w' :=
  load_err p 8 (.pointer none) 9 w rfl (fun W _ => wide_nil p W)
end Go.Proofs.Yteogfjhmjlelnaa.G
