/- The laws' example (shown) is true. No condition. -/
import Derived.Test.YtjbgealnnlmchaaRe
import Derived.Deep.RegionHeld3
set_option linter.unusedVariables false
set_option linter.unusedSimpArgs false
namespace Go.Proofs.Ytjbgealnnlmchaa.G
open Go.RowKit Go.Proofs.Ytjbgealnnlmchaa.B Go.Proofs.YtjbgealnnlmchaaW.PrintWords Go.Proofs.YtjbgealnnlmchaaW.PrintLast Go.Proofs.YtjbgealnnlmchaaW.PrintMore

set_option maxRecDepth 100000 in
set_option maxHeartbeats 8000000 in
theorem shown_c (w : World) : Calls Try.prog 8 #[] w fun e w' => e = .returned (.bool true) ∧ Below w.heap.size w w' := by
  have he : Edg ((w.alloc (.cells #[.int .i64 2, .int .i64 0, .int .i64 0, .int .i64 0, .int .i64 0, .int .i64 0, .int .i64 1, .int .i64 0, .int .i64 0] 41)).alloc (.cells #[.slice none 0 0, .slice none 0 0, .slice (some ⟨w.heap.size, 0, none⟩) 3 3, .int .i64 0] 28)) (some ⟨w.heap.size, 0, none⟩) L3 3 := edg_blk L3 (blk_alloc (blk_new w (.cells #[.int .i64 2, .int .i64 0, .int .i64 0, .int .i64 0, .int .i64 0, .int .i64 0, .int .i64 1, .int .i64 0, .int .i64 0] 41)) _) (by decide)
  have HE := Aside0.mk he
  have HX := Aside0.mk (blk_at_ (W := w.alloc (.cells #[.int .i64 2, .int .i64 0, .int .i64 0, .int .i64 0, .int .i64 0, .int .i64 0, .int .i64 1, .int .i64 0, .int .i64 0] 41)) (n := w.heap.size + 1) (.cells #[.slice none 0 0, .slice none 0 0, .slice (some ⟨w.heap.size, 0, none⟩) 3 3, .int .i64 0] 28) (by simp))
  have HB := Aside0.mk (below_alloc (below_alloc (Below.refl w.heap.size w) (.cells #[.int .i64 2, .int .i64 0, .int .i64 0, .int .i64 0, .int .i64 0, .int .i64 0, .int .i64 1, .int .i64 0, .int .i64 0] 41)) (.cells #[.slice none 0 0, .slice none 0 0, .slice (some ⟨w.heap.size, 0, none⟩) 3 3, .int .i64 0] 28))
  clear he
  go_enter Try.func8, Try.ntmps8
  go_upto_region 2 with (fail)
  generalize (w.alloc (.cells #[.int .i64 2, .int .i64 0, .int .i64 0, .int .i64 0, .int .i64 0, .int .i64 0, .int .i64 1, .int .i64 0, .int .i64 0] 41)).alloc (.cells #[.slice none 0 0, .slice none 0 0, .slice (some ⟨w.heap.size, 0, none⟩) 3 3, .int .i64 0] 28) = W1 at HE HX HB ⊢
  generalize hgs : w.heap.size + 1 = gs at HX ⊢
  generalize hge : w.heap.size = ge at HE HX ⊢
  clear hgs hge
  have HS := Aside0.mk (show ∀ W2 : World, Below W1.heap.size W1 W2 → ((W2.cell? ⟨gs, 0, none⟩ = some (.slice none 0 0) ∧ W2.cell? ⟨gs, 1, none⟩ = some (.slice none 0 0) ∧ W2.cell? ⟨gs, 2, none⟩ = some (.slice (some ⟨ge, 0, none⟩) 3 3) ∧ W2.cell? ⟨gs, 3, none⟩ = some (.int .i64 0)) ∧ Below W1.heap.size W1 W2) from fun W2 hb => ⟨⟨(blk_cell (blk_below HX.out hb) 0).trans rfl, (blk_cell (blk_below HX.out hb) 1).trans rfl, (blk_cell (blk_below HX.out hb) 2).trans rfl, (blk_cell (blk_below HX.out hb) 3).trans rfl⟩, hb⟩)
  have HQ := Aside0.mk (show ∀ W2 : World, ((W2.cell? ⟨gs, 0, none⟩ = some (.slice none 0 0) ∧ W2.cell? ⟨gs, 1, none⟩ = some (.slice none 0 0) ∧ W2.cell? ⟨gs, 2, none⟩ = some (.slice (some ⟨ge, 0, none⟩) 3 3) ∧ W2.cell? ⟨gs, 3, none⟩ = some (.int .i64 0)) ∧ Below W1.heap.size W1 W2) → Below W1.heap.size W1 W2 from fun _ h => h.2)
  have HKK := Aside0.mk (show ∀ W2 W3 : World, Below W2.heap.size W2 W3 → ((W2.cell? ⟨gs, 0, none⟩ = some (.slice none 0 0) ∧ W2.cell? ⟨gs, 1, none⟩ = some (.slice none 0 0) ∧ W2.cell? ⟨gs, 2, none⟩ = some (.slice (some ⟨ge, 0, none⟩) 3 3) ∧ W2.cell? ⟨gs, 3, none⟩ = some (.int .i64 0)) ∧ Below W1.heap.size W1 W2) → ((W3.cell? ⟨gs, 0, none⟩ = some (.slice none 0 0) ∧ W3.cell? ⟨gs, 1, none⟩ = some (.slice none 0 0) ∧ W3.cell? ⟨gs, 2, none⟩ = some (.slice (some ⟨ge, 0, none⟩) 3 3) ∧ W3.cell? ⟨gs, 3, none⟩ = some (.int .i64 0)) ∧ Below W1.heap.size W1 W3) from fun _ _ hb h => HS.out _ (below_step h.2 hb))
  have HD := Aside0.mk (HS.out _ (below_drew (Below.refl W1.heap.size W1)))
  go_region_held3 (fun w' => (w'.cell? ⟨gs, 0, none⟩ = some (.slice none 0 0) ∧ w'.cell? ⟨gs, 1, none⟩ = some (.slice none 0 0) ∧ w'.cell? ⟨gs, 2, none⟩ = some (.slice (some ⟨ge, 0, none⟩) 3 3) ∧ w'.cell? ⟨gs, 3, none⟩ = some (.int .i64 0)) ∧ Below W1.heap.size W1 w') (first | assumption | exact HD.out | exact HKK.out _ _ hb2 (by assumption) | exact HKK.out _ _ (below_alloc (Below.refl _ _) _) (by assumption))
    (first | (go_at_call 10; with_reducible refine (prog3 _).mono ?_; rintro e w2 ⟨v, rfl, hp, hb2⟩) | (go_at_call 14; with_reducible refine (reached3 _ _ ge ?aP ?aE).mono ?_; (case aP => first | exact hp | exact hp.below (below_alloc (Below.refl _ _) _)); (case aE => exact HE.out.below (HQ.out _ (by assumption))); rintro e w2 ⟨A3, c3, rfl, ha, hb2⟩) | (go_at_call 16; with_reducible refine (rings3 _ _ ge ?aP ?aE).mono ?_; (case aP => first | exact hp | exact hp.below (below_alloc (Below.refl _ _) _)); (case aE => exact HE.out.below (HQ.out _ (by assumption))); rintro e w2 ⟨A3, c3, rfl, ha, hb2⟩) | (go_at_call 12; with_reducible refine (tos3 _ ge ?aE).mono ?_; (case aE => exact HE.out.below (HQ.out _ (by assumption))); rintro e w2 ⟨A3, c3, rfl, ha, hb2⟩) | (go_at_call 11; with_reducible refine (same2 _ _ _ _ ?aH ?aB).mono ?_; (case aH => first | exact ha | exact ha.below (below_alloc (Below.refl _ _) _)); (case aB => first | exact blk_new _ _ | (refine blk_below ?_ (by assumption); exact blk_new _ _) | (refine blk_below ?_ (by assumption); refine blk_below ?_ (by assumption); (first | exact blk_new _ _ | exact blk_drew (blk_new _ _)))); rintro e w2 ⟨rfl, hb2⟩) | (go_at_call 11; with_reducible refine (same1 _ _ _ _ ?aH ?aB).mono ?_; (case aH => first | exact ha | exact ha.below (below_alloc (Below.refl _ _) _)); (case aB => first | exact blk_new _ _ | (refine blk_below ?_ (by assumption); exact blk_new _ _) | (refine blk_below ?_ (by assumption); refine blk_below ?_ (by assumption); (first | exact blk_new _ _ | exact blk_drew (blk_new _ _)))); rintro e w2 ⟨rfl, hb2⟩))
  all_goals
    go_wp2_with fail
    go_ret
    exact ⟨rfl, below_step HB.out (HQ.out _ (by assumption))⟩
end Go.Proofs.Ytjbgealnnlmchaa.G
