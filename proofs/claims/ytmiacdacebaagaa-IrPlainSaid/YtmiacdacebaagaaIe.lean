/- shown() of the laws of ir is true. No condition. -/
import Derived.Test.YtmiacdacebaagaaId
set_option linter.unusedVariables false
set_option linter.unusedSimpArgs false
namespace Go.Proofs.Ytmiacdacebaagaa.G
open Go.RowKit Go.Proofs.Ytmiacdacebaagaa.B Go.Proofs.YtmiacdacebaagaaW.PrintWords Go.Proofs.YtmiacdacebaagaaW.PrintLast Go.Proofs.YtmiacdacebaagaaW.PrintMore

theorem cell8 {W : World} {g t : Nat} {a b c d e f h i : Value} (hb : W.heap[g]? = some (.cells #[a, b, c, d, e, f, h, i] t (0, 0))) :
    W.cell? ⟨g, 0, none⟩ = some a ∧ W.cell? ⟨g, 1, none⟩ = some b ∧ W.cell? ⟨g, 2, none⟩ = some c ∧ W.cell? ⟨g, 3, none⟩ = some d ∧ W.cell? ⟨g, 4, none⟩ = some e ∧ W.cell? ⟨g, 5, none⟩ = some f ∧ W.cell? ⟨g, 6, none⟩ = some h ∧ W.cell? ⟨g, 7, none⟩ = some i :=
  ⟨(blk_cell hb 0).trans rfl, (blk_cell hb 1).trans rfl, (blk_cell hb 2).trans rfl, (blk_cell hb 3).trans rfl, (blk_cell hb 4).trans rfl, (blk_cell hb 5).trans rfl, (blk_cell hb 6).trans rfl, (blk_cell hb 7).trans rfl⟩
theorem box8_step {W w1 : World} {g : Nat} {a b c d e f h i : Value} (hx : W.cell? ⟨g, 0, none⟩ = some a ∧ W.cell? ⟨g, 1, none⟩ = some b ∧ W.cell? ⟨g, 2, none⟩ = some c ∧ W.cell? ⟨g, 3, none⟩ = some d ∧ W.cell? ⟨g, 4, none⟩ = some e ∧ W.cell? ⟨g, 5, none⟩ = some f ∧ W.cell? ⟨g, 6, none⟩ = some h ∧ W.cell? ⟨g, 7, none⟩ = some i) (hb : Below W.heap.size W w1) :
    w1.cell? ⟨g, 0, none⟩ = some a ∧ w1.cell? ⟨g, 1, none⟩ = some b ∧ w1.cell? ⟨g, 2, none⟩ = some c ∧ w1.cell? ⟨g, 3, none⟩ = some d ∧ w1.cell? ⟨g, 4, none⟩ = some e ∧ w1.cell? ⟨g, 5, none⟩ = some f ∧ w1.cell? ⟨g, 6, none⟩ = some h ∧ w1.cell? ⟨g, 7, none⟩ = some i :=
  ⟨pw_cell_below hb hx.1, pw_cell_below hb hx.2.1, pw_cell_below hb hx.2.2.1, pw_cell_below hb hx.2.2.2.1, pw_cell_below hb hx.2.2.2.2.1, pw_cell_below hb hx.2.2.2.2.2.1, pw_cell_below hb hx.2.2.2.2.2.2.1, pw_cell_below hb hx.2.2.2.2.2.2.2⟩
theorem reads_shown : readsS 3 4 0 [] (rowS 9).data.toList = [3, 4] := by simp [rowS, readsS, stepR]
theorem wr_shown : wr 9 = false := by decide
theorem next_calls (a0 a1 a2 a3 a4 a5 : Int) (s : ByteArray) (A : Option Addr) (c : Nat) (l : List Int) (pc : Int) (w : World) (hC : Kd.C (Kd.int .i64) w A l.length l) (hc : l.length ≤ c) (r : List Int) (h : ir_Next.f a0 a1 a2 a3 a4 a5 s l pc = some r) :
    Calls Try.prog 9 #[.agg #[.int .i64 a0, .int .i64 a1, .int .i64 a2, .int .i64 a3, .int .i64 a4, .int .i64 a5, .string s, .slice A l.length c], .int .i64 pc] w fun e w' => ∃ A1 c1, e = .returned (.slice A1 r.length c1) ∧ r.length ≤ c1 ∧ Kd.C (Kd.int .i64) w' A1 r.length r ∧ Below w.heap.size w w' :=
  (ir_Next.calls a0 a1 a2 a3 a4 a5 s A c l pc r w hC hc h).mono fun _ _ ⟨v, h1, h2, h3⟩ => by
    obtain ⟨A1, c1, rfl, h4, h5⟩ := Kd.R_reads h2
    exact ⟨A1, c1, h1, h4, h5, h3⟩
theorem readsC (a0 a1 a2 a3 a4 a5 : Int) (s : ByteArray) (A : Option Addr) (c : Nat) (l : List Int) (w : World) (hC : Kd.C (Kd.int .i64) w A l.length l) (hl : l.length * 8 ≤ 140737488351232) (r : List Int) (hr : readsS a1 a2 a3 l (rowS a0).data.toList = r) :
    Calls Try.prog 7 #[.agg #[.int .i64 a0, .int .i64 a1, .int .i64 a2, .int .i64 a3, .int .i64 a4, .int .i64 a5, .string s, .slice A l.length c]] w fun e w' => ∃ A1 c1, e = .returned (.slice A1 r.length c1) ∧ r.length ≤ c1 ∧ Kd.C (Kd.int .i64) w' A1 r.length r ∧ Below w.heap.size w w' :=
  (reads_calls a0 a1 a2 a3 a4 a5 s A c l w hC hl).mono fun _ _ ⟨v, h1, h2, h3⟩ => by
    rw [hr] at h2
    obtain ⟨A1, c1, rfl, h4, h5⟩ := Kd.R_reads h2
    exact ⟨A1, c1, h1, h4, h5, h3⟩
theorem shown_calls (w : World) : Calls Try.prog 5 #[] w fun e w' => e = .returned (.bool true) ∧ Below w.heap.size w w' := by
  have HX := Aside0.mk (blk_new w (.cells #[.int .i64 9, .int .i64 3, .int .i64 4, .int .i64 0, .int .i64 8, .int .i64 0, .string ⟨#[]⟩, .slice none 0 0] 24))
  have HB := Aside0.mk (below_alloc (Below.refl w.heap.size w) (.cells #[.int .i64 9, .int .i64 3, .int .i64 4, .int .i64 0, .int .i64 8, .int .i64 0, .string ⟨#[]⟩, .slice none 0 0] 24))
  go_enter Try.func5, Try.ntmps5
  go_upto_region 2 with (fail)
  generalize w.alloc (.cells #[.int .i64 9, .int .i64 3, .int .i64 4, .int .i64 0, .int .i64 8, .int .i64 0, .string ⟨#[]⟩, .slice none 0 0] 24) = W at HB HX ⊢
  have hx := cell8 HX.out
  go_wp2_with fail
  refine (readsC 9 3 4 0 8 0 ⟨#[]⟩ none 0 [] W (Kd.C_nil _ _) (by simp) [3, 4] reads_shown).mono ?_
  rintro e w1 ⟨A1, c1, rfl, hc1, hC1, hb1⟩
  have HC1 := Aside0.mk hC1
  have HL1 := Aside0.mk hc1
  have HB1 := Aside0.mk (below_step HB.out hb1)
  replace HX := Aside0.mk (blk_below HX.out hb1)
  clear hC1 hc1 hb1 HB hx
  go_wp2_with fail
  refine (ints_calls [3, 4] A1 _ c1 2 _ (Kd.C_below HC1.out (below_alloc (Below.refl _ _) _)) HL1.out (C_lit [3, 4] (blk_new w1 (.cells (nums .i64 [3, 4]).toArray 3)) (by simp)) (Nat.le_refl _)).mono ?_
  rintro e w2 ⟨rfl, hb2⟩
  have hb12 := below_step (below_alloc (Below.refl w1.heap.size w1) (.cells #[.int .i64 3, .int .i64 4] 3)) hb2
  have HB2 := Aside0.mk (below_step HB1.out hb12)
  have hx := cell8 (blk_below HX.out hb12)
  clear HC1 HL1 HB1 HX hb2 hb12
  go_wp2_with fail
  refine (writes_calls 9 3 4 0 8 0 ⟨#[]⟩ none 0 0 w2).mono ?_
  rw [show (if wr 9 = true then (3 : Int) else -1) = -1 from rfl]
  rintro e w3 ⟨rfl, hb3⟩
  have HB3 := Aside0.mk (below_step HB2.out hb3)
  clear hx HB2 hb3
  go_wp2_with fail
  refine (next_calls 18 0 0 0 0 7 ⟨#[]⟩ none 0 [] 2 w3 (Kd.C_nil _ _) (Nat.le_refl _) [3, 7] (by unfold ir_Next.f; simp [wrap64])).mono ?_
  rintro e w4 ⟨A4, c4, rfl, hc4, hC4, hb4⟩
  have HC4 := Aside0.mk hC4
  have HL4 := Aside0.mk hc4
  have HB4 := Aside0.mk (below_step HB3.out hb4)
  clear HB3 hb4 hC4 hc4
  go_wp2_with fail
  refine (ints_calls [3, 7] A4 _ c4 2 _ (Kd.C_below HC4.out (below_alloc (Below.refl _ _) _)) HL4.out (C_lit [3, 7] (blk_new w4 (.cells (nums .i64 [3, 7]).toArray 3)) (by simp)) (Nat.le_refl _)).mono ?_
  rintro e w5 ⟨rfl, hb5⟩
  have HB5 := Aside0.mk (below_step HB4.out (below_step (below_alloc (Below.refl w4.heap.size w4) (.cells #[.int .i64 3, .int .i64 7] 3)) hb5))
  clear HC4 HL4 HB4 hb5
  go_wp2_with fail
  go_ret
  exact ⟨rfl, HB5.out⟩
end Go.Proofs.Ytmiacdacebaagaa.G
