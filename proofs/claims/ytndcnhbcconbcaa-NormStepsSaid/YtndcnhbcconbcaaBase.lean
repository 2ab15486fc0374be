/- Small lemmas on worlds: what a call keeps of the memory that was there (Kp), cells of known blocks. No condition. -/
import Derived.Test.YtndcnhbcconbcaaWMore
import Derived.StillTailTactics
namespace Go.Proofs.Ytndcnhbcconbcaa.B
open Go.RowKit Go.Proofs.YtndcnhbcconbcaaW.PrintWords Go.Proofs.YtndcnhbcconbcaaW.PrintLast Go.Proofs.YtndcnhbcconbcaaW.PrintMore

theorem ret_bool {a b : Bool} (h : a = b) : Ending.returned (.bool a) = .returned (.bool b) := by rw [h]
theorem ret_int {k : IntKind} {a b : Int} (h : a = b) : Ending.returned (.int k a) = .returned (.int k b) := by rw [h]

/-! ### Texts -/
theorem bytes_loop (bs : ByteArray) : ∀ (n i : Nat) (r : List UInt8), bs.size - i = n → ByteArray.toList.loop bs i r = r.reverse ++ bs.data.toList.drop i := by
  intro n
  induction n with
  | zero =>
    intro i r h
    rw [ByteArray.toList.loop, if_neg (by omega), List.drop_eq_nil_of_le (by rw [Array.length_toList]; exact Nat.le_of_sub_eq_zero h), List.append_nil]
  | succ n ih =>
    intro i r h
    have hi : i < bs.data.toList.length := by rw [Array.length_toList]; show i < bs.size; omega
    rw [ByteArray.toList.loop, if_pos (by omega), ih (i + 1) _ (by omega), List.drop_eq_getElem_cons hi, List.reverse_cons, List.append_assoc]
    congr 1
    show bs.get! i :: _ = _
    congr 1
    show bs.data[i]! = _
    rw [getElem!_pos bs.data i (by simpa using hi)]
    simp
theorem bytes_toList (s : ByteArray) : s.toList = s.data.toList := by
  rw [ByteArray.toList, bytes_loop s _ 0 [] rfl]
  simp
theorem bytes_size (s : ByteArray) : s.toList.length = s.size := by rw [bytes_toList, Array.length_toList]; rfl
theorem bytes_eq {s t : ByteArray} (h : s.toList = t.toList) : s = t := by
  rw [bytes_toList, bytes_toList] at h
  cases s; cases t
  congr 1
  exact Array.toList_inj.1 h

/-- W is w with new blocks, and with writes to the blocks of S alone. -/
structure Kp (w W : World) (S : Nat → Prop) : Prop where
  os : W.os = w.os
  tape : W.tape = w.tape
  output : W.output = w.output
  size : w.heap.size ≤ W.heap.size
  block : ∀ i, i < w.heap.size → ¬ S i → W.heap[i]? = w.heap[i]?
section
variable {w W W2 : World} {S S2 : Nat → Prop}
theorem Kp.refl (w : World) (S : Nat → Prop) : Kp w w S := ⟨rfl, rfl, rfl, Nat.le_refl _, fun _ _ _ => rfl⟩
theorem Kp.of_below (h : Below w.heap.size w W) (S : Nat → Prop) : Kp w W S := ⟨h.os, h.tape, h.output, h.size, fun i hi _ => h.block i hi⟩
theorem Kp.mono (h : Kp w W S) (hs : ∀ k, S k → S2 k) : Kp w W S2 := ⟨h.os, h.tape, h.output, h.size, fun i hi hn => h.block i hi (fun hk => hn (hs i hk))⟩
theorem Kp.then_ (h : Kp w W S) (k : Kp W W2 S2) (hs : ∀ k, S2 k → S k ∨ w.heap.size ≤ k) : Kp w W2 S :=
  ⟨k.os.trans h.os, k.tape.trans h.tape, k.output.trans h.output, Nat.le_trans h.size k.size,
   fun i hi hn => (k.block i (Nat.lt_of_lt_of_le hi h.size) (fun h2 => (hs i h2).elim hn (fun h3 => by omega))).trans (h.block i hi hn)⟩
theorem Kp.below (h : Kp w W S) (hb : Below W.heap.size W W2) : Kp w W2 S := h.then_ (Kp.of_below hb (fun _ => False)) (fun _ hk => hk.elim)
theorem Kp.alloc (h : Kp w W S) (o : Obj) : Kp w (W.alloc o) S := h.below (below_alloc (Below.refl _ _) o)
theorem Kp.drew (h : Kp w W S) : Kp w W.drew S := ⟨h.os, h.tape, h.output, h.size, h.block⟩
theorem Kp.drewN (h : Kp w W S) (m : Nat) : Kp w (W.drewN m) S := ⟨h.os, h.tape, h.output, h.size, h.block⟩
theorem Kp.setCell (h : Kp w W S) {p : Addr} (hp : S p.block ∨ w.heap.size ≤ p.block) (u : Value) : Kp w (W.setCell p u) S :=
  h.then_ (S2 := fun k => k = p.block) ⟨rfl, rfl, rfl, by simp [World.setCell], fun i _ hn => Below.heap_setCell W p u i hn⟩ (fun k hk => by rw [hk]; exact hp)
theorem Kp.grown {row : Option Nat} (h : Kp w W S) (hg : W.grownBy W2 row) (hr : ∀ k, row = some k → S k ∨ w.heap.size ≤ k) : Kp w W2 S :=
  h.then_ (S2 := fun k => row = some k) ⟨hg.os, hg.tape, hg.output, hg.size, fun i hi hn => hg.block i hi (fun he => hn he.symm)⟩ hr
/-- What was written is new since w. -/
theorem Kp.to_below (h : Kp w W S) (hs : ∀ k, S k → w.heap.size ≤ k) : Below w.heap.size w W :=
  ⟨h.os, h.tape, h.output, h.size, fun k hk => h.block k hk (fun h2 => by have := hs k h2; omega)⟩
theorem Kp.below_of (hb : Below w.heap.size w W) (h : Kp W W2 S) (hs : ∀ k, S k → w.heap.size ≤ k) : Below w.heap.size w W2 :=
  ((Kp.of_below hb (fun _ => False)).then_ h (fun k hk => .inr (hs k hk))).to_below (fun _ h => h.elim)
theorem Kp.kept (h : Kp w W S) : Kept w W S := ⟨h.size, h.block⟩
theorem Kp.old (h : Kp w W S) {n : Nat} (hn : n ≤ w.heap.size) (hs : ∀ k, S k → n ≤ k) : ∀ b, b < n → W.heap[b]? = w.heap[b]? :=
  fun b hb => h.block b (Nat.lt_of_lt_of_le hb hn) (fun h2 => by have := hs b h2; omega)
theorem blk_kp {g : Nat} {o : Obj} (hb : w.heap[g]? = some o) (hk : Kp w W S) (hne : ¬ S g) : W.heap[g]? = some o := (hk.block g (blk_lt hb) hne).trans hb
theorem cell_kp {a : Addr} {v : Value} (hc : w.cell? a = some v) (hk : Kp w W S) (hne : ¬ S a.block) : W.cell? a = some v := cell_kept hc hk.kept hne
end
theorem blk_at_ {W : World} {n : Nat} (o : Obj) (h : W.heap.size = n) : (W.alloc o).heap[n]? = some o := by rw [← h]; exact blk_new W o
theorem blk_put4 {W : World} {g t : Nat} {a b c d : Value} (h : W.heap[g]? = some (.cells #[a, b, c, d] t (0, 0))) (a' b' c' d' : Value) :
    ((((W.setCell ⟨g, 0, none⟩ a').setCell ⟨g, 1, none⟩ b').setCell ⟨g, 2, none⟩ c').setCell ⟨g, 3, none⟩ d').heap[g]? = some (.cells #[a', b', c', d'] t (0, 0)) :=
  blk_put (blk_put (blk_put (blk_put h 0 a' rfl) 1 b' rfl) 2 c' rfl) 3 d' rfl
theorem cell1 {W : World} {g t : Nat} {a : Value} (h : W.heap[g]? = some (.cells #[a] t (0, 0))) : W.cell? ⟨g, 0, none⟩ = some a := (blk_cell h 0).trans rfl
theorem cell2 {W : World} {g t : Nat} {a b : Value} (h : W.heap[g]? = some (.cells #[a, b] t (0, 0))) :
    W.cell? ⟨g, 0, none⟩ = some a ∧ W.cell? ⟨g, 1, none⟩ = some b := ⟨(blk_cell h 0).trans rfl, (blk_cell h 1).trans rfl⟩
theorem cell3 {W : World} {g t : Nat} {a b c : Value} (h : W.heap[g]? = some (.cells #[a, b, c] t (0, 0))) :
    W.cell? ⟨g, 0, none⟩ = some a ∧ W.cell? ⟨g, 1, none⟩ = some b ∧ W.cell? ⟨g, 2, none⟩ = some c := ⟨(blk_cell h 0).trans rfl, (blk_cell h 1).trans rfl, (blk_cell h 2).trans rfl⟩
theorem cell4 {W : World} {g t : Nat} {a b c d : Value} (h : W.heap[g]? = some (.cells #[a, b, c, d] t (0, 0))) :
    W.cell? ⟨g, 0, none⟩ = some a ∧ W.cell? ⟨g, 1, none⟩ = some b ∧ W.cell? ⟨g, 2, none⟩ = some c ∧ W.cell? ⟨g, 3, none⟩ = some d :=
  ⟨(blk_cell h 0).trans rfl, (blk_cell h 1).trans rfl, (blk_cell h 2).trans rfl, (blk_cell h 3).trans rfl⟩
end Go.Proofs.Ytndcnhbcconbcaa.B
