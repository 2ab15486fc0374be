/- Where the variables of scc.Groups lie, and what a store turns. No condition. -/
import Derived.Test.YtjbgealnnlmchaaPc
import Derived.Test.YtjbgealnnlmchaaBase
import Derived.Test.YtjbgealnnlmchaaGx8
import Derived.Test.YtjbgealnnlmchaaShelf
import Derived.Maps.AppendAt
set_option linter.unusedVariables false
set_option linter.unusedSimpArgs false
namespace Go.Proofs.Ytjbgealnnlmchaa.G
open Go.RowKit Go.Proofs.Ytjbgealnnlmchaa.B Go.Proofs.YtjbgealnnlmchaaW.PrintWords Go.Proofs.YtjbgealnnlmchaaW.PrintLast Go.Proofs.YtjbgealnnlmchaaW.PrintMore

def nats (l : List Nat) : List Value := l.map fun (x : Nat) => Value.int .i64 (x : Int)
def bools (l : List Bool) : List Value := l.map Value.bool
structure Lay where
  n : Nat
  bl : Nat
  bn : Nat
  rn : Nat
  bw : Nat
  rw : Nat
  bs : Nat
  bo : Nat
  ro : Nat
  bg : Nat
  bv : Nat
  bu : Nat
  ru : Nat
  ag : Option Addr
  cg : Nat
  top : Nat
def box (b : Nat) : Value := .pointer (some ⟨b, 0, none⟩)
def Lay.free (L : Lay) : Array Value := #[.pointer (some ⟨L.bl, 0, none⟩), .pointer (some ⟨L.bn, 0, none⟩), .pointer (some ⟨L.bw, 0, none⟩), .pointer (some ⟨L.bs, 0, none⟩), .pointer (some ⟨L.bo, 0, none⟩), .pointer (some ⟨L.bg, 0, none⟩), .pointer (some ⟨L.bv, 0, none⟩), .pointer (some ⟨L.bu, 0, none⟩)]
/-- The blocks are apart, behind w1's, below top. -/
structure LayOk (w1 : World) (L : Lay) : Prop where
  ne : L.bl ≠ L.rn ∧ L.bl ≠ L.rw ∧ L.bl ≠ L.ru ∧ L.rn ≠ L.rw ∧ L.rn ≠ L.ru ∧ L.rw ≠ L.ru ∧ L.bn ≠ L.bw ∧ L.bn ≠ L.bs ∧ L.bn ≠ L.bu ∧ L.bw ≠ L.bs ∧ L.bw ≠ L.bu ∧ L.bs ≠ L.bu
  lo : w1.heap.size ≤ L.bl ∧ w1.heap.size ≤ L.rn ∧ w1.heap.size ≤ L.rw ∧ w1.heap.size ≤ L.ru ∧ w1.heap.size ≤ L.ro ∧ w1.heap.size ≤ L.bs
  hi : L.bl < L.top ∧ L.bn < L.top ∧ L.rn < L.top ∧ L.bw < L.top ∧ L.rw < L.top ∧ L.bs < L.top ∧ L.bo < L.top ∧ L.ro < L.top ∧ L.bg < L.top ∧ L.bv < L.top ∧ L.bu < L.top ∧ L.ru < L.top
structure RepB (L : Lay) (W : World) (s : TS) (vs : Value) : Prop where
  last : W.heap[L.bl]? = some (.cells #[.int .i64 (s.last : Int)] 3 (0, 0))
  num : W.heap[L.bn]? = some (.cells #[.slice (some ⟨L.rn, 0, none⟩) L.n L.n] 35 (0, 0))
  numr : W.heap[L.rn]? = some (.cells (nats s.num).toArray 3 (0, 0))
  low : W.heap[L.bw]? = some (.cells #[.slice (some ⟨L.rw, 0, none⟩) L.n L.n] 35 (0, 0))
  lowr : W.heap[L.rw]? = some (.cells (nats s.low).toArray 3 (0, 0))
  stk : W.heap[L.bs]? = some (.cells #[vs] 35 (0, 0))
  opn : W.heap[L.bo]? = some (.cells #[.slice (some ⟨L.ro, 0, none⟩) L.n L.n] 56 (0, 0))
  opnr : W.heap[L.ro]? = some (.cells (bools s.opn).toArray 4 (0, 0))
  g : W.heap[L.bg]? = some (.cells #[.slice L.ag L.n L.cg] 26 (0, 0))
  v : W.heap[L.bv]? = some (.cells #[.func (.func 33) #[] L.free] 59 (0, 0))
  out : W.heap[L.bu]? = some (.cells #[.slice (some ⟨L.ru, 0, none⟩) L.n L.n] 35 (0, 0))
  outr : W.heap[L.ru]? = some (.cells (nats s.out).toArray 3 (0, 0))
structure Rep (w1 : World) (L : Lay) (W : World) (s : TS) (vs : Value) : Prop where
  b : RepB L W s vs
  wf : Wf L.n s
  below : Below w1.heap.size w1 W
  row : W.ownsRow L.top 3 1 vs s.stack.length (nats s.stack)
  top : L.top ≤ W.heap.size
section
variable {w1 W W' : World} {L : Lay} {s : TS} {vs : Value}
theorem RepB.move (h : RepB L W s vs) (hL : LayOk w1 L) (hm : ∀ k, k < L.top → W'.heap[k]? = W.heap[k]?) : RepB L W' s vs := by
  obtain ⟨h1, h2, h3, h4, h5, h6, h7, h8, h9, h10, h11, h12⟩ := hL.hi
  exact ⟨(hm _ h1).trans h.last, (hm _ h2).trans h.num, (hm _ h3).trans h.numr, (hm _ h4).trans h.low, (hm _ h5).trans h.lowr, (hm _ h6).trans h.stk, (hm _ h7).trans h.opn, (hm _ h8).trans h.opnr, (hm _ h9).trans h.g, (hm _ h10).trans h.v, (hm _ h11).trans h.out, (hm _ h12).trans h.outr⟩
theorem nats_set (l : List Nat) (i x : Nat) : (nats l).toArray.setIfInBounds i (.int .i64 (x : Int)) = (nats (l.set i x)).toArray := by
  unfold nats
  rw [List.setIfInBounds_toArray, List.map_set]
theorem bools_set (l : List Bool) (i : Nat) (x : Bool) : (bools l).toArray.setIfInBounds i (.bool x) = (bools (l.set i x)).toArray := by
  unfold bools
  rw [List.setIfInBounds_toArray, List.map_set]
theorem far (W : World) {g k : Nat} (i : Nat) (u : Value) (h : k ≠ g) : (W.setCell ⟨g, i, none⟩ u).heap[k]? = W.heap[k]? := Below.heap_setCell W ⟨g, i, none⟩ u k h
theorem below_put {n0 g : Nat} (hb : Below n0 w1 W) (hn : w1.heap.size = n0) (hg : n0 ≤ g) (i : Nat) (u : Value) : Below n0 w1 (W.setCell ⟨g, i, none⟩ u) := by
  subst hn
  exact Kp.below_of hb (Kp.setCell (Kp.refl W (fun k => k = g)) (p := ⟨g, i, none⟩) (.inl rfl) u) (fun k hk => by rw [hk]; exact hg)
theorem size_put (W : World) (p : Addr) (u : Value) : (W.setCell p u).heap.size = W.heap.size := by simp [World.setCell]
theorem Rep.setLast (h : Rep w1 L W s vs) (hL : LayOk w1 L) (k : Nat) : Rep w1 L (W.setCell ⟨L.bl, 0, none⟩ (.int .i64 (k : Int))) { s with last := k } vs := by
  obtain ⟨n1, n2, n3, n4, n5, n6, n7, n8, n9, n10, n11, n12⟩ := hL.ne
  have f := fun {c : Nat} (hc : c ≠ L.bl) => far W (g := L.bl) (k := c) 0 (.int .i64 (k : Int)) hc
  refine ⟨⟨blk_put h.b.last 0 _ rfl, (f (blk_ne h.b.num h.b.last (by decide))).trans h.b.num, (f n1.symm).trans h.b.numr, (f (blk_ne h.b.low h.b.last (by decide))).trans h.b.low, (f n2.symm).trans h.b.lowr, (f (blk_ne h.b.stk h.b.last (by decide))).trans h.b.stk, (f (blk_ne h.b.opn h.b.last (by decide))).trans h.b.opn, (f (blk_ne h.b.opnr h.b.last (by decide))).trans h.b.opnr, (f (blk_ne h.b.g h.b.last (by decide))).trans h.b.g, (f (blk_ne h.b.v h.b.last (by decide))).trans h.b.v, (f (blk_ne h.b.out h.b.last (by decide))).trans h.b.out, (f n3.symm).trans h.b.outr⟩, ⟨h.wf.num, h.wf.low, h.wf.opn, h.wf.out, h.wf.stk⟩, below_put h.below rfl hL.lo.1 _ _, ownsRow_setCell_below h.row hL.hi.1 _, by rw [size_put]; exact h.top⟩
theorem Rep.setNum (h : Rep w1 L W s vs) (hL : LayOk w1 L) (i k : Nat) : Rep w1 L (W.setCell ⟨L.rn, i, none⟩ (.int .i64 (k : Int))) { s with num := s.num.set i k } vs := by
  obtain ⟨n1, n2, n3, n4, n5, n6, n7, n8, n9, n10, n11, n12⟩ := hL.ne
  have f := fun {c : Nat} (hc : c ≠ L.rn) => far W (g := L.rn) (k := c) i (.int .i64 (k : Int)) hc
  refine ⟨⟨(f n1).trans h.b.last, (f (blk_ne h.b.num h.b.numr (by decide))).trans h.b.num, blk_put h.b.numr i _ (nats_set _ _ _), (f (blk_ne h.b.low h.b.numr (by decide))).trans h.b.low, (f n4.symm).trans h.b.lowr, (f (blk_ne h.b.stk h.b.numr (by decide))).trans h.b.stk, (f (blk_ne h.b.opn h.b.numr (by decide))).trans h.b.opn, (f (blk_ne h.b.opnr h.b.numr (by decide))).trans h.b.opnr, (f (blk_ne h.b.g h.b.numr (by decide))).trans h.b.g, (f (blk_ne h.b.v h.b.numr (by decide))).trans h.b.v, (f (blk_ne h.b.out h.b.numr (by decide))).trans h.b.out, (f n5.symm).trans h.b.outr⟩, ⟨by show (s.num.set i k).length = _; rw [List.length_set]; exact h.wf.num, h.wf.low, h.wf.opn, h.wf.out, h.wf.stk⟩, below_put h.below rfl hL.lo.2.1 _ _, ownsRow_setCell_below h.row hL.hi.2.2.1 _, by rw [size_put]; exact h.top⟩
theorem Rep.setLow (h : Rep w1 L W s vs) (hL : LayOk w1 L) (i k : Nat) : Rep w1 L (W.setCell ⟨L.rw, i, none⟩ (.int .i64 (k : Int))) { s with low := s.low.set i k } vs := by
  obtain ⟨n1, n2, n3, n4, n5, n6, n7, n8, n9, n10, n11, n12⟩ := hL.ne
  have f := fun {c : Nat} (hc : c ≠ L.rw) => far W (g := L.rw) (k := c) i (.int .i64 (k : Int)) hc
  refine ⟨⟨(f n2).trans h.b.last, (f (blk_ne h.b.num h.b.lowr (by decide))).trans h.b.num, (f n4).trans h.b.numr, (f (blk_ne h.b.low h.b.lowr (by decide))).trans h.b.low, blk_put h.b.lowr i _ (nats_set _ _ _), (f (blk_ne h.b.stk h.b.lowr (by decide))).trans h.b.stk, (f (blk_ne h.b.opn h.b.lowr (by decide))).trans h.b.opn, (f (blk_ne h.b.opnr h.b.lowr (by decide))).trans h.b.opnr, (f (blk_ne h.b.g h.b.lowr (by decide))).trans h.b.g, (f (blk_ne h.b.v h.b.lowr (by decide))).trans h.b.v, (f (blk_ne h.b.out h.b.lowr (by decide))).trans h.b.out, (f n6.symm).trans h.b.outr⟩, ⟨h.wf.num, by show (s.low.set i k).length = _; rw [List.length_set]; exact h.wf.low, h.wf.opn, h.wf.out, h.wf.stk⟩, below_put h.below rfl hL.lo.2.2.1 _ _, ownsRow_setCell_below h.row hL.hi.2.2.2.2.1 _, by rw [size_put]; exact h.top⟩
theorem Rep.setOut (h : Rep w1 L W s vs) (hL : LayOk w1 L) (i k : Nat) : Rep w1 L (W.setCell ⟨L.ru, i, none⟩ (.int .i64 (k : Int))) { s with out := s.out.set i k } vs := by
  obtain ⟨n1, n2, n3, n4, n5, n6, n7, n8, n9, n10, n11, n12⟩ := hL.ne
  have f := fun {c : Nat} (hc : c ≠ L.ru) => far W (g := L.ru) (k := c) i (.int .i64 (k : Int)) hc
  refine ⟨⟨(f n3).trans h.b.last, (f (blk_ne h.b.num h.b.outr (by decide))).trans h.b.num, (f n5).trans h.b.numr, (f (blk_ne h.b.low h.b.outr (by decide))).trans h.b.low, (f n6).trans h.b.lowr, (f (blk_ne h.b.stk h.b.outr (by decide))).trans h.b.stk, (f (blk_ne h.b.opn h.b.outr (by decide))).trans h.b.opn, (f (blk_ne h.b.opnr h.b.outr (by decide))).trans h.b.opnr, (f (blk_ne h.b.g h.b.outr (by decide))).trans h.b.g, (f (blk_ne h.b.v h.b.outr (by decide))).trans h.b.v, (f (blk_ne h.b.out h.b.outr (by decide))).trans h.b.out, blk_put h.b.outr i _ (nats_set _ _ _)⟩, ⟨h.wf.num, h.wf.low, h.wf.opn, by show (s.out.set i k).length = _; rw [List.length_set]; exact h.wf.out, h.wf.stk⟩, below_put h.below rfl hL.lo.2.2.2.1 _ _, ownsRow_setCell_below h.row hL.hi.2.2.2.2.2.2.2.2.2.2.2 _, by rw [size_put]; exact h.top⟩
theorem Rep.setOpn (h : Rep w1 L W s vs) (hL : LayOk w1 L) (i : Nat) (k : Bool) : Rep w1 L (W.setCell ⟨L.ro, i, none⟩ (.bool k)) { s with opn := s.opn.set i k } vs := by
  have f := fun {c : Nat} (hc : c ≠ L.ro) => far W (g := L.ro) (k := c) i (.bool k) hc
  refine ⟨⟨(f (blk_ne h.b.last h.b.opnr (by decide))).trans h.b.last, (f (blk_ne h.b.num h.b.opnr (by decide))).trans h.b.num, (f (blk_ne h.b.numr h.b.opnr (by decide))).trans h.b.numr, (f (blk_ne h.b.low h.b.opnr (by decide))).trans h.b.low, (f (blk_ne h.b.lowr h.b.opnr (by decide))).trans h.b.lowr, (f (blk_ne h.b.stk h.b.opnr (by decide))).trans h.b.stk, (f (blk_ne h.b.opn h.b.opnr (by decide))).trans h.b.opn, blk_put h.b.opnr i _ (bools_set _ _ _), (f (blk_ne h.b.g h.b.opnr (by decide))).trans h.b.g, (f (blk_ne h.b.v h.b.opnr (by decide))).trans h.b.v, (f (blk_ne h.b.out h.b.opnr (by decide))).trans h.b.out, (f (blk_ne h.b.outr h.b.opnr (by decide))).trans h.b.outr⟩, ⟨h.wf.num, h.wf.low, by show (s.opn.set i k).length = _; rw [List.length_set]; exact h.wf.opn, h.wf.out, h.wf.stk⟩, below_put h.below rfl hL.lo.2.2.2.2.1 _ _, ownsRow_setCell_below h.row hL.hi.2.2.2.2.2.2.2.1 _, by rw [size_put]; exact h.top⟩
theorem Rep.setStk {vs' : Value} {st : List Nat} (h : Rep w1 L W s vs) (hL : LayOk w1 L) (hst : ∀ x ∈ st, x < L.n) (hm : ∀ k, k < L.top → W'.heap[k]? = W.heap[k]?) (hb : Below w1.heap.size w1 W') (ho : W'.ownsRow L.top 3 1 vs' st.length (nats st)) (ht : L.top ≤ W'.heap.size) :
    Rep w1 L (W'.setCell ⟨L.bs, 0, none⟩ vs') { s with stack := st } vs' := by
  obtain ⟨n1, n2, n3, n4, n5, n6, n7, n8, n9, n10, n11, n12⟩ := hL.ne
  have k := h.b.move hL hm
  have f := fun {c : Nat} (hc : c ≠ L.bs) => far W' (g := L.bs) (k := c) 0 vs' hc
  refine ⟨⟨(f (blk_ne k.last k.stk (by decide))).trans k.last, (f n8).trans k.num, (f (blk_ne k.numr k.stk (by decide))).trans k.numr, (f n10).trans k.low, (f (blk_ne k.lowr k.stk (by decide))).trans k.lowr, blk_put k.stk 0 _ rfl, (f (blk_ne k.opn k.stk (by decide))).trans k.opn, (f (blk_ne k.opnr k.stk (by decide))).trans k.opnr, (f (blk_ne k.g k.stk (by decide))).trans k.g, (f (blk_ne k.v k.stk (by decide))).trans k.v, (f n12.symm).trans k.out, (f (blk_ne k.outr k.stk (by decide))).trans k.outr⟩, ⟨h.wf.num, h.wf.low, h.wf.opn, h.wf.out, hst⟩, below_put hb rfl hL.lo.2.2.2.2.2 _ _, ownsRow_setCell_below ho hL.hi.2.2.2.2.2.1 _, by rw [size_put]; exact ht⟩
theorem Rep.drew (h : Rep w1 L W s vs) (hL : LayOk w1 L) : Rep w1 L W.drew s vs := ⟨h.b.move hL (fun _ _ => rfl), h.wf, below_drew h.below, h.row.drew, h.top⟩
theorem nat_at (l : List Nat) (i : Nat) (h : i < l.length) : (nats l).toArray[i]? = some (.int .i64 ((l.getD i 0 : Nat) : Int)) := by
  rw [List.getElem?_toArray]
  unfold nats
  rw [List.getElem?_map, List.getElem?_eq_getElem h, List.getD_eq_getElem?_getD, List.getElem?_eq_getElem h]
  rfl
theorem bool_at (l : List Bool) (i : Nat) (h : i < l.length) : (bools l).toArray[i]? = some (.bool (l.getD i false)) := by
  rw [List.getElem?_toArray]
  unfold bools
  rw [List.getElem?_map, List.getElem?_eq_getElem h, List.getD_eq_getElem?_getD, List.getElem?_eq_getElem h]
  rfl
theorem Rep.num_at (h : Rep w1 L W s vs) {i : Nat} (hi : i < L.n) : W.cell? ⟨L.rn, i, none⟩ = some (.int .i64 (s.N i : Int)) := (blk_cell h.b.numr i).trans (nat_at _ _ (by rw [h.wf.num]; exact hi))
theorem Rep.low_at (h : Rep w1 L W s vs) {i : Nat} (hi : i < L.n) : W.cell? ⟨L.rw, i, none⟩ = some (.int .i64 (s.L i : Int)) := (blk_cell h.b.lowr i).trans (nat_at _ _ (by rw [h.wf.low]; exact hi))
theorem Rep.out_at (h : Rep w1 L W s vs) {i : Nat} (hi : i < L.n) : W.cell? ⟨L.ru, i, none⟩ = some (.int .i64 (s.out.getD i 0 : Int)) := (blk_cell h.b.outr i).trans (nat_at _ _ (by rw [h.wf.out]; exact hi))
theorem Rep.opn_at (h : Rep w1 L W s vs) {i : Nat} (hi : i < L.n) : W.cell? ⟨L.ro, i, none⟩ = some (.bool (s.opn.getD i false)) := (blk_cell h.b.opnr i).trans (bool_at _ _ (by rw [h.wf.opn]; exact hi))
end
end Go.Proofs.Ytjbgealnnlmchaa.G
