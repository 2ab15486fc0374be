/- Mem.Load. The Mem has these blocks; the block's bytes are l. -/
import Derived.Test.YteogfjhmjlelnaaMd
set_option linter.unusedVariables false
set_option linter.unusedSimpArgs false
namespace Go.Proofs.Yteogfjhmjlelnaa.G
open Go.RowKit Go.Proofs.Yteogfjhmjlelnaa.B Go.Proofs.YteogfjhmjlelnaaW.PrintWords Go.Proofs.YteogfjhmjlelnaaW.PrintLast Go.Proofs.YteogfjhmjlelnaaW.PrintMore

theorem encB_length (l : List Bt) : (encB l).length = 5 * l.length := by
  induction l with
  | nil => rfl
  | cons x l ih => simp only [encB, List.flatMap_cons, List.length_append, List.length_cons] at ih ⊢; simp only [Bt.cells, List.length_cons, List.length_nil]; omega
theorem encB_get {l : List Bt} {i j : Nat} {b : Bt} {u : Value} (hi : l[i]? = some b) (hu : b.cells[j]? = some u) : (encB l)[i * 5 + j]? = some u := by
  have hj : j < 5 := by have := (List.getElem?_eq_some_iff.1 hu).1; simpa [Bt.cells] using this
  induction l generalizing i with
  | nil => simp at hi
  | cons x l ih =>
    cases i with
    | zero =>
      obtain rfl : x = b := by simpa using hi
      show (x.cells ++ encB l)[0 * 5 + j]? = some u
      rw [List.getElem?_append_left (by simp [Bt.cells]; omega)]
      simpa using hu
    | succ i =>
      show (x.cells ++ encB l)[(i + 1) * 5 + j]? = some u
      rw [List.getElem?_append_right (by simp [Bt.cells]; omega)]
      rw [show (i + 1) * 5 + j - x.cells.length = i * 5 + j by simp [Bt.cells]; omega]
      exact ih (by simpa using hi)
/-- The bytes of a block. -/
def Bytes (w : World) (gb : Nat) (l : List Bt) : Prop := w.heap[gb]? = some (.cells (encB l).toArray 42 (0, 0))
theorem Bytes.at_ {w : World} {gb : Nat} {l : List Bt} (h : Bytes w gb l) {i : Nat} {x : Bt} (hi : l[i]? = some x) :
    w.cell? ⟨gb, i * 5, none⟩ = some (.int .i64 x.k) ∧ w.cell? ⟨gb, i * 5 + 1, none⟩ = some (.int .u8 x.v) ∧ w.cell? ⟨gb, i * 5 + 2, none⟩ = some (.int .i64 x.p.n) ∧ w.cell? ⟨gb, i * 5 + 3, none⟩ = some (.int .i64 x.p.b) ∧ w.cell? ⟨gb, i * 5 + 4, none⟩ = some (.int .i64 x.p.f) := by
  have hg : ∀ j u, x.cells[j]? = some u → w.cell? ⟨gb, i * 5 + j, none⟩ = some u := fun j u hu => by
    rw [blk_cell h]
    have := encB_get hi hu
    simpa using this
  exact ⟨hg 0 _ rfl, hg 1 _ rfl, hg 2 _ rfl, hg 3 _ rfl, hg 4 _ rfl⟩
def zv : Value := .agg #[.int .i64 0, .int .i64 0, .int .i64 0]
theorem results_row_tmp {P : Program} {fn : Func} {p u : Tmp} {ty : TypeId} (h : fn.results = #[.cell p ty, .tmp u]) (tmps : Array Value) (w : World) (g : Nat) (t : TypeId) (cs : Array Value) (fr : Nat × Nat) (d : TypeDesc)
    (hp : tmps.getD p undef = .pointer (some ⟨g, 0, none⟩)) (hg : w.heap[g]? = some (.cells cs t fr))
    (hu : P.underlying ty = some d) (hd : (match d with | .struct _ | .array _ _ => true | _ => false) = true) (hi : (P.info? ty).map (·.size) = some cs.size) :
    (results fn tmps).run P w = .ok (.tuple #[.agg cs, tmps.getD u undef]) w := by
  have hp' : tmps[p]?.getD undef = .pointer (some ⟨g, 0, none⟩) := by simpa using hp
  simp [results, h, hp', asAddr, run_loadVar_row w g t ty cs fr d hg hu hd hi]
theorem blk_put3 {W : World} {g t : Nat} {a b c : Value} (h : W.heap[g]? = some (.cells #[a, b, c] t (0, 0))) (a' b' c' : Value) :
    (((W.setCell ⟨g, 0, none⟩ a').setCell ⟨g, 1, none⟩ b').setCell ⟨g, 2, none⟩ c').heap[g]? = some (.cells #[a', b', c'] t (0, 0)) :=
  blk_put (blk_put (blk_put h 0 a' rfl) 1 b' rfl) 2 c' rfl
theorem IsMem.below {w W : World} {gm : Nat} {v : Value} {bs : List Blk} (h : IsMem w gm v bs) (hb : Below w.heap.size w W) : IsMem W gm v bs :=
  ⟨blk_below h.box hb, own_move h.row (fun k hk => by
    obtain ⟨cells, hc⟩ := own_typed h.row k hk
    exact hb.block k (blk_lt hc))⟩
theorem load_err (p : Vl) (k : Int) (q : Value) (er : Int) (w : World) (he : (er != 0) = true)
    (hW : ∀ W, Below w.heap.size w W → Calls Try.prog 32 #[q, .agg #[.int .i64 p.n, .int .i64 p.b, .int .i64 p.f], .int .i64 k] W fun e w' => e = .returned (.tuple #[.slice none 0 0, .int .i64 er]) ∧ Below W.heap.size W w') :
    Calls Try.prog 14 #[q, .agg #[.int .i64 p.n, .int .i64 p.b, .int .i64 p.f], .int .i64 k] w fun e w' => e = .returned (.tuple #[.agg #[.int .i64 0, .int .i64 0, .int .i64 0], .int .i64 er]) ∧ Below w.heap.size w w' := by
  have HW := Aside0.mk hW
  clear hW
  have hB := Aside0.mk (below_alloc (below_alloc (Below.refl w.heap.size w) (.cells #[.int .i64 p.n, .int .i64 p.b, .int .i64 p.f] 23)) (.cells #[.int .i64 0, .int .i64 0, .int .i64 0] 23))
  have hX := Aside0.mk (blk_alloc (blk_new w (.cells #[.int .i64 p.n, .int .i64 p.b, .int .i64 p.f] 23)) (.cells #[.int .i64 0, .int .i64 0, .int .i64 0] 23))
  have hZ := Aside0.mk (blk_at_ (W := w.alloc (.cells #[.int .i64 p.n, .int .i64 p.b, .int .i64 p.f] 23)) (n := w.heap.size + 1) (.cells #[.int .i64 0, .int .i64 0, .int .i64 0] 23) (by simp))
  go_enter Try.func14, Try.ntmps14
  go_upto_region 1 with (fail)
  generalize (w.alloc (.cells #[.int .i64 p.n, .int .i64 p.b, .int .i64 p.f] 23)).alloc (.cells #[.int .i64 0, .int .i64 0, .int .i64 0] 23) = W at hB hX hZ ⊢
  have hx := cell3 hX.out
  go_upto_region 2 with (first | (go_at_call 32; refine (HW.out _ hB.out).mono ?_; rintro e w1 ⟨rfl, hb1⟩))
  have hZ1 := Aside0.mk (blk_below hZ.out hb1)
  have HB1 := Aside0.mk (below_step hB.out hb1)
  have hz := cell3 hZ1.out
  have hf0 := blk_frozen hZ1.out 0
  have hf1 := blk_frozen hZ1.out 1
  have hf2 := blk_frozen hZ1.out 2
  clear hx hX hZ hB hb1 HW
  go_wp2_with fail
  refine bodyPost_ret (results_row_tmp rfl _ _ (w.heap.size + 1) 23 _ (0, 0) _ rfl (blk_put3 hZ1.out _ _ _) Try.underlying23 rfl (by kernel_rfl)) rfl ⟨rfl, ?_⟩
  exact (((Kp.of_below HB1.out (fun _ => False)).setCell (.inr (by simp)) _).setCell (.inr (by simp)) _ |>.setCell (.inr (by simp)) _).to_below (fun _ h => h.elim)
end Go.Proofs.Yteogfjhmjlelnaa.G
