/- Where the variables of scc.Order lie. No condition. -/
import Derived.Test.YtdobjmbfkdfdcaaPh
import Derived.Test.YtdobjmbfkdfdcaaNd
set_option linter.unusedVariables false
set_option linter.unusedSimpArgs false
namespace Go.Proofs.Ytdobjmbfkdfdcaa.G
open Go.RowKit Go.Proofs.Ytdobjmbfkdfdcaa.B Go.Proofs.YtdobjmbfkdfdcaaW.PrintWords Go.Proofs.YtdobjmbfkdfdcaaW.PrintLast Go.Proofs.YtdobjmbfkdfdcaaW.PrintMore

def izs (l : List Int) : List Value := l.map (Value.int .i64)
theorem izs_set (l : List Int) (i : Nat) (x : Int) : (izs l).toArray.setIfInBounds i (.int .i64 x) = (izs (l.set i x)).toArray := by
  unfold izs
  rw [List.map_set]
  exact Array.ext (by simp) (fun j h1 h2 => by simp [Array.getElem_setIfInBounds, List.getElem_set])
theorem izs_at (l : List Int) (i : Nat) (h : i < l.length) : (izs l).toArray[i]? = some (.int .i64 (l.getD i 0)) := by
  unfold izs
  rw [List.getElem?_toArray, List.getElem?_map, List.getD_eq_getElem?_getD, List.getElem?_eq_getElem h]
  rfl
theorem made_izs (N : Nat) : madeCells #[.int .i64 0] N = (izs (List.replicate N 0)).toArray := by
  unfold izs
  rw [List.map_replicate]
  refine Array.ext (by simp [madeCells]) (fun i h1 h2 => ?_)
  simp [madeCells, Nat.mod_one]
/-- Rows that a call made, in any later world that has their blocks as they were. -/
theorem rows_at {w : World} {base N c : Nat} {A : Option Addr} {G : List (List Nat)} (h : Kd.S (Kd.slice 3 (Kd.int .i64)) 27 w base (fun _ => True) (.slice A N c) (G.map ints)) (n : Nat) (hn : n < G.length) :
    ∃ ad A0 c0, A = some ad ∧ ∀ W : World, (∀ k, base ≤ k → k < w.heap.size → W.heap[k]? = w.heap[k]?) → W.cell? (ad.add n) = some (.slice A0 (G.getD n []).length c0) ∧ Kd.C (Kd.int .i64) W A0 (G.getD n []).length (ints (G.getD n [])) := by
  have hN : N = G.length := by rw [(Kd.S_reads' h).1, List.length_map]
  have hC := (Kd.S_reads' h).2.2
  rw [List.length_map] at hC
  obtain ⟨inner, ho⟩ := Kd.S_own h
  rcases ho.2 with ⟨h1, h2⟩ | ⟨g, cap, cur, h1, h2, h3, _⟩
  · rw [List.length_map] at h2; omega
  injection h1 with h1 _ _
  subst h1
  obtain ⟨ad, A0, c0, e, q0, _, q2⟩ := at_L2 hC (n : Int) (by omega) (by omega)
  injection e with e
  subst e
  rw [rd_G, Int.toNat_natCast, ints_len] at q0
  refine ⟨_, A0, c0, rfl, fun W hW => ?_⟩
  have hb : ∀ j, W.cell? ⟨g, j, none⟩ = w.cell? ⟨g, j, none⟩ := fun j => by
    have hg := hW g h2 (blk_lt h3)
    rw [blk_cell h3, blk_cell (hg.trans h3)]
  have hS := Kd.S_move (w1 := W) (Kd.S_bound h) (fun k hk => hW k hk.2.1 hk.2.2.1)
  have hC' := (Kd.S_reads' hS).2.2
  rw [List.length_map] at hC'
  obtain ⟨ad', A0', c0', e', q0', _, q2'⟩ := at_L2 hC' (n : Int) (by omega) (by omega)
  injection e' with e'
  subst e'
  rw [rd_G, Int.toNat_natCast, ints_len] at q0'
  have hadd : (⟨g, 0, none⟩ : Addr).add n = ⟨g, n, none⟩ := add_plain _ _
  rw [hadd] at q0 q0' ⊢
  have he := q0'.symm.trans ((hb _).trans q0)
  injection he with he
  injection he with e1 _ e3
  subst e1
  rw [rd_G, ints_len] at q2'
  exact ⟨(hb _).trans q0, q2'⟩
/-- While the links are told. -/
structure LS (w1 W2 W : World) (b0 ga : Nat) (AH : List Int) (v : Value) (bt : List S33) : Prop where
  ah : W.heap[ga]? = some (.cells (izs AH).toArray 3 (0, 0))
  lo : w1.heap.size ≤ ga ∧ ga < b0 ∧ b0 ≤ W2.heap.size
  row : Kd.R k33 33 W W2.heap.size (fun _ => True) v bt
  mid : ∀ k, b0 ≤ k → k < W2.heap.size → W.heap[k]? = W2.heap[k]?
  below : Below w1.heap.size w1 W
  sz : W2.heap.size ≤ W.heap.size
theorem LS.put {w1 W2 W : World} {b0 ga : Nat} {AH : List Int} {v : Value} {bt : List S33} (h : LS w1 W2 W b0 ga AH v bt) (j : Nat) (x : Int) : LS w1 W2 (W.setCell ⟨ga, j, none⟩ (.int .i64 x)) b0 ga (AH.set j x) v bt :=
  ⟨blk_put h.ah j _ (izs_set _ _ _), h.lo, Kd.R_mono (Kd.R_far (p := ⟨ga, j, none⟩) (Kd.R_types h.row h.ah (by decide)) (fun _ hk => hk.2) _) (fun _ _ => trivial), fun k k1 k2 => (far W j _ (by have := h.lo; omega)).trans (h.mid k k1 k2), below_put h.below rfl h.lo.1 _ _, by rw [size_put]; exact h.sz⟩
theorem LS.grow {w1 W2 W W' : World} {b0 ga : Nat} {AH : List Int} {v v' : Value} {bt bt' : List S33} (h : LS w1 W2 W b0 ga AH v bt) (hr : Kd.R k33 33 W' W2.heap.size (fun _ => True) v' bt') (hg : W.grownBy W' v.ownBlock) : LS w1 W2 W' b0 ga AH v' bt' := by
  have hb : ∀ k, v.ownBlock = some k → W2.heap.size ≤ k := fun k hk => Kd.R_base h.row k hk
  have hl := h.lo
  refine ⟨(hg.block ga (blk_lt h.ah) (fun e => ?_)).trans h.ah, hl, hr, fun k k1 k2 => (hg.block k (by have := h.sz; omega) (fun e => ?_)).trans (h.mid k k1 k2), h.below.grown hg h.below.size (fun k hk => ?_), Nat.le_trans h.sz hg.size⟩
  · have := hb ga e.symm; omega
  · have := hb k e.symm; omega
  · have := hb k hk; omega
theorem LS.drew {w1 W2 W : World} {b0 ga : Nat} {AH : List Int} {v : Value} {bt : List S33} (h : LS w1 W2 W b0 ga AH v bt) : LS w1 W2 W.drew b0 ga AH v bt :=
  ⟨h.ah, h.lo, Kd.R_drew h.row, h.mid, below_drew h.below, h.sz⟩
/-- While the order is told. -/
structure OS (w1 W2 W : World) (b0 ga gd : Nat) (AH : List Int) (D : List Bool) (v : Value) (out : List Nat) : Prop where
  ah : W.heap[ga]? = some (.cells (izs AH).toArray 3 (0, 0))
  dn : W.heap[gd]? = some (.cells (bools D).toArray 4 (0, 0))
  lo : w1.heap.size ≤ ga ∧ ga < b0 ∧ b0 ≤ W2.heap.size ∧ W2.heap.size ≤ gd
  row : W.ownsRow W2.heap.size 3 1 v out.length (nats out)
  mid : ∀ k, b0 ≤ k → k < W2.heap.size → W.heap[k]? = W2.heap[k]?
  below : Below w1.heap.size w1 W
  sz : W2.heap.size ≤ W.heap.size
theorem OS.put {w1 W2 W : World} {b0 ga gd : Nat} {AH : List Int} {D : List Bool} {v : Value} {out : List Nat} (h : OS w1 W2 W b0 ga gd AH D v out) (j : Nat) (x : Int) : OS w1 W2 (W.setCell ⟨ga, j, none⟩ (.int .i64 x)) b0 ga gd (AH.set j x) D v out := by
  have hl := h.lo
  exact ⟨blk_put h.ah j _ (izs_set _ _ _), (far W j _ (by omega)).trans h.dn, hl, own_other h.row (fun k hk _ => far W j _ (by have := own_base h.row k hk; omega)), fun k k1 k2 => (far W j _ (by omega)).trans (h.mid k k1 k2), below_put h.below rfl hl.1 _ _, by rw [size_put]; exact h.sz⟩
theorem OS.mark {w1 W2 W : World} {b0 ga gd : Nat} {AH : List Int} {D : List Bool} {v : Value} {out : List Nat} (h : OS w1 W2 W b0 ga gd AH D v out) (j : Nat) : OS w1 W2 (W.setCell ⟨gd, j, none⟩ (.bool true)) b0 ga gd AH (D.set j true) v out := by
  have hl := h.lo
  exact ⟨(far W j _ (by omega)).trans h.ah, blk_put h.dn j _ (bools_set _ _ _), hl, own_other h.row (fun k hk _ => far W j _ (own_ne h.row h.dn k hk)), fun k k1 k2 => (far W j _ (by omega)).trans (h.mid k k1 k2), below_put h.below rfl (by omega) _ _, by rw [size_put]; exact h.sz⟩
theorem OS.alloc {w1 W2 W : World} {b0 ga gd : Nat} {AH : List Int} {D : List Bool} {v : Value} {out : List Nat} (h : OS w1 W2 W b0 ga gd AH D v out) (o : Obj) : OS w1 W2 (W.alloc o) b0 ga gd AH D v out :=
  ⟨blk_alloc h.ah o, blk_alloc h.dn o, h.lo, h.row.alloc o, fun k k1 k2 => (heap_alloc_old W o (by have := h.sz; omega)).trans (h.mid k k1 k2), below_alloc h.below o, by have := h.sz; simp; omega⟩
theorem OS.told {w1 W2 W W' : World} {b0 ga gd : Nat} {AH : List Int} {D : List Bool} {v v' : Value} {out out' : List Nat} (h : OS w1 W2 W b0 ga gd AH D v out) (hg : W.grownBy W' v.ownBlock) (hr : W'.ownsRow W2.heap.size 3 1 v' out'.length (nats out')) : OS w1 W2 W' b0 ga gd AH D v' out' := by
  have hb : ∀ k, v.ownBlock = some k → W2.heap.size ≤ k := fun k hk => own_base h.row k hk
  have hl := h.lo
  refine ⟨(hg.block ga (blk_lt h.ah) (fun e => ?_)).trans h.ah, (hg.block gd (blk_lt h.dn) (fun e => own_ne h.row h.dn gd e.symm rfl)).trans h.dn, hl, hr, fun k k1 k2 => (hg.block k (by have := h.sz; omega) (fun e => ?_)).trans (h.mid k k1 k2), h.below.grown hg h.below.size (fun k hk => ?_), Nat.le_trans h.sz hg.size⟩
  · have := hb ga e.symm; omega
  · have := hb k e.symm; omega
  · have := hb k hk; omega
end Go.Proofs.Ytdobjmbfkdfdcaa.G
