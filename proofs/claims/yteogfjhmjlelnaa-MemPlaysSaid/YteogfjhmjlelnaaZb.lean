/- Merged texts (by slim.py): what the law's proof names. -/
import Derived.Test.YteogfjhmjlelnaaProg
import Derived.Below
import Derived.Deep.Draws
import Derived.Deep.AppendLies
import Derived.Maps.AppendAt
import Derived.OwnWalk
import Derived.Laws.BytesArg
import Derived.Laws.MakeOwn
import Derived.Laws.OwnMore
import Derived.Deep.OwnRows
import Derived.Tactics
import Derived.Lib.ConvBytes
import Derived.Laws.Slices
import Derived.WalkKit
import Derived.KernelRfl
import Derived.RowKit3
import Derived.Deep.LoopGhost
import Derived.Deep.QuietTactic
import Derived.BigQuiet
import Derived.WideLaws
import Derived.Deep.DeepCutAuto
import Derived.Deep.CutBlock
import Derived.Deep.RegionHeld3
import Derived.Laws.Rows
import Derived.Lib.AppendStr
import Derived.ArgAppend
import Derived.Laws.IdiomCopy
import Derived.OrdersHeld
import Derived.Laws.BitsLemmas
import Derived.RowKit
import Derived.StillTailTactics
import Derived.Test.YteogfjhmjlelnaaZa
namespace Go.Proofs.Yteogfjhmjlelnaa.G
open Go.RowKit Go.Proofs.YteogfjhmjlelnaaW.PrintWords Go.Proofs.YteogfjhmjlelnaaW.PrintLast Go.Proofs.YteogfjhmjlelnaaW.PrintMore
attribute [local go_sem] max2_int min2_int max_two min_two max_three min_three max_four min_four
set_option linter.unusedVariables false
set_option linter.unusedSimpArgs false
def errW : Option Int → Value
  | none => .nilIface
  | some c => .iface 0 (.int .i64 c)
theorem q26 : errW none = .nilIface := rfl
theorem q25 (c : Int) : errW (some c) = .iface 0 (.int .i64 c) := rfl
structure S23 where
  f0 : Int
  f1 : Int
  f2 : Int
def z23 : S23 := ⟨(0 : Int), (0 : Int), (0 : Int)⟩
def k23 : Kd S23 := Kd.iso (Kd.pair (Kd.int .i64) (Kd.pair (Kd.int .i64) (Kd.int .i64))) (fun x : S23 => (x.f0, x.f1, x.f2))
structure S42 where
  f0 : Int
  f1 : Int
  f2 : S23
def z42 : S42 := ⟨(0 : Int), (0 : Int), z23⟩
def k42 : Kd S42 := Kd.iso (Kd.pair (Kd.int .i64) (Kd.pair (Kd.int .u8) k23)) (fun x : S42 => (x.f0, x.f1, x.f2))
def q27 (xs : List S42) (i : Int) : S42 := xs.getD i.toNat z42
structure S75 where
  f0 : Int
  f1 : (List S42)
  f2 : Bool
def k75 : Kd S75 := Kd.iso (Kd.pair (Kd.int .i64) (Kd.pair (Kd.slice 42 k42) Kd.bool)) (fun x : S75 => (x.f0, x.f1, x.f2))
end Go.Proofs.Yteogfjhmjlelnaa.G
namespace Go.Proofs.Yteogfjhmjlelnaa.B
open Go.RowKit Go.Proofs.YteogfjhmjlelnaaW.PrintWords Go.Proofs.YteogfjhmjlelnaaW.PrintLast Go.Proofs.YteogfjhmjlelnaaW.PrintMore
theorem ret_bool {a b : Bool} (h : a = b) : Ending.returned (.bool a) = .returned (.bool b) := by rw [h]
structure Kp (w W : World) (S : Nat → Prop) : Prop where
  os : W.os = w.os
  tape : W.tape = w.tape
  output : W.output = w.output
  size : w.heap.size ≤ W.heap.size
  block : ∀ i, i < w.heap.size → ¬ S i → W.heap[i]? = w.heap[i]?
section
variable {w W W2 : World} {S S2 : Nat → Prop}
theorem Kp.refl (w : World) (S : Nat → Prop) : Kp w w S := ⟨rfl, rfl, rfl, Nat.le_refl _, fun _ _ _ => rfl⟩
theorem Kp.of_below (h : Below w.heap.size w W) (S : Nat → Prop) : Kp w W S := ⟨h.os, h.tape, h.output, h.size, fun i hi _ => h.block i hi⟩
theorem Kp.mono (h : Kp w W S) (hs : ∀ k, S k → S2 k) : Kp w W S2 := ⟨h.os, h.tape, h.output, h.size, fun i hi hn => h.block i hi (fun hk => hn (hs i hk))⟩
theorem Kp.then_ (h : Kp w W S) (k : Kp W W2 S2) (hs : ∀ k, S2 k → S k ∨ w.heap.size ≤ k) : Kp w W2 S :=
  ⟨k.os.trans h.os, k.tape.trans h.tape, k.output.trans h.output, Nat.le_trans h.size k.size,
   fun i hi hn => (k.block i (Nat.lt_of_lt_of_le hi h.size) (fun h2 => (hs i h2).elim hn (fun h3 => by omega))).trans (h.block i hi hn)⟩
theorem Kp.below (h : Kp w W S) (hb : Below W.heap.size W W2) : Kp w W2 S := h.then_ (Kp.of_below hb (fun _ => False)) (fun _ hk => hk.elim)
theorem Kp.alloc (h : Kp w W S) (o : Obj) : Kp w (W.alloc o) S := h.below (q10 (Below.refl _ _) o)
theorem Kp.drew (h : Kp w W S) : Kp w W.drew S := ⟨h.os, h.tape, h.output, h.size, h.block⟩
theorem Kp.setCell (h : Kp w W S) {p : Addr} (hp : S p.block ∨ w.heap.size ≤ p.block) (u : Value) : Kp w (W.setCell p u) S :=
  h.then_ (S2 := fun k => k = p.block) ⟨rfl, rfl, rfl, by simp [World.setCell], fun i _ hn => Below.heap_setCell W p u i hn⟩ (fun k hk => by rw [hk]; exact hp)
theorem Kp.grown {row : Option Nat} (h : Kp w W S) (hg : W.grownBy W2 row) (hr : ∀ k, row = some k → S k ∨ w.heap.size ≤ k) : Kp w W2 S :=
  h.then_ (S2 := fun k => row = some k) ⟨hg.os, hg.tape, hg.output, hg.size, fun i hi hn => hg.block i hi (fun he => hn he.symm)⟩ hr
theorem Kp.to_below (h : Kp w W S) (hs : ∀ k, S k → w.heap.size ≤ k) : Below w.heap.size w W :=
  ⟨h.os, h.tape, h.output, h.size, fun k hk => h.block k hk (fun h2 => by have := hs k h2; omega)⟩
theorem Kp.below_of (hb : Below w.heap.size w W) (h : Kp W W2 S) (hs : ∀ k, S k → w.heap.size ≤ k) : Below w.heap.size w W2 :=
  ((Kp.of_below hb (fun _ => False)).then_ h (fun k hk => .inr (hs k hk))).to_below (fun _ h => h.elim)
theorem Kp.kept (h : Kp w W S) : Kept w W S := ⟨h.size, h.block⟩
theorem blk_kp {g : Nat} {o : Obj} (hb : w.heap[g]? = some o) (hk : Kp w W S) (hne : ¬ S g) : W.heap[g]? = some o := (hk.block g (q30 hb) hne).trans hb
end
theorem q46 {W : World} {n : Nat} (o : Obj) (h : W.heap.size = n) : (W.alloc o).heap[n]? = some o := by rw [← h]; exact q33 W o
theorem cell1 {W : World} {g t : Nat} {a : Value} (h : W.heap[g]? = some (.cells #[a] t (0, 0))) : W.cell? ⟨g, 0, none⟩ = some a := (q16 h 0).trans rfl
theorem cell3 {W : World} {g t : Nat} {a b c : Value} (h : W.heap[g]? = some (.cells #[a, b, c] t (0, 0))) :
    W.cell? ⟨g, 0, none⟩ = some a ∧ W.cell? ⟨g, 1, none⟩ = some b ∧ W.cell? ⟨g, 2, none⟩ = some c := ⟨(q16 h 0).trans rfl, (q16 h 1).trans rfl, (q16 h 2).trans rfl⟩
end Go.Proofs.Yteogfjhmjlelnaa.B
set_option linter.unusedVariables false
set_option linter.unusedSimpArgs false
namespace Go.Proofs.Yteogfjhmjlelnaa.G
open Go.RowKit Go.Proofs.Yteogfjhmjlelnaa.B Go.Proofs.YteogfjhmjlelnaaW.PrintWords Go.Proofs.YteogfjhmjlelnaaW.PrintLast Go.Proofs.YteogfjhmjlelnaaW.PrintMore
structure Vl where
  n : Int
  b : Int
  f : Int
structure Bt where
  k : Int
  v : Int
  p : Vl
def Bt.cells (x : Bt) : List Value := [.int .i64 x.k, .int .u8 x.v, .int .i64 x.p.n, .int .i64 x.p.b, .int .i64 x.p.f]
def encB (l : List Bt) : List Value := l.flatMap Bt.cells
structure Blk where
  site : Int
  gb : Nat
  n : Nat
  there : Bool
def Blk.cells (x : Blk) : List Value := [.int .i64 x.site, .slice (some ⟨x.gb, 0, none⟩) x.n x.n, .bool x.there]
def encK (l : List Blk) : List Value := l.flatMap Blk.cells
theorem encK_length (l : List Blk) : (encK l).length = 3 * l.length := by
  induction l with
  | nil => rfl
  | cons x l ih => simp only [encK, List.flatMap_cons, List.length_append, List.length_cons] at ih ⊢; simp only [Blk.cells, List.length_cons, List.length_nil]; omega
theorem encK_get {l : List Blk} {i j : Nat} {b : Blk} {u : Value} (hi : l[i]? = some b) (hu : b.cells[j]? = some u) : (encK l)[3 * i + j]? = some u := by
  have hj : j < 3 := by have := (List.getElem?_eq_some_iff.1 hu).1; simpa [Blk.cells] using this
  induction l generalizing i with
  | nil => simp at hi
  | cons x l ih =>
    cases i with
    | zero =>
      obtain rfl : x = b := by simpa using hi
      show (x.cells ++ encK l)[3 * 0 + j]? = some u
      rw [List.getElem?_append_left (by simp [Blk.cells]; omega)]
      simpa using hu
    | succ i =>
      show (x.cells ++ encK l)[3 * (i + 1) + j]? = some u
      rw [List.getElem?_append_right (by simp [Blk.cells]; omega)]
      rw [show 3 * (i + 1) + j - x.cells.length = 3 * i + j by simp [Blk.cells]; omega]
      exact ih (by simpa using hi)
structure IsMem (w : World) (gm : Nat) (v : Value) (bs : List Blk) : Prop where
  box : w.heap[gm]? = some (.cells #[v] 73 (0, 0))
  row : w.ownsRow (gm + 1) 75 3 v bs.length (encK bs)
theorem q38 (x : Vl) (w : World) :
    Calls Try.prog 33 #[.agg #[.int .i64 x.n, .int .i64 x.b, .int .i64 x.f]] w fun e w' => e = .returned (.bool (x.b == 0 && x.f == 0)) ∧ Below w.heap.size w w' := by
  have hB := Aside0.mk (q10 (Below.refl w.heap.size w) (.cells #[.int .i64 x.n, .int .i64 x.b, .int .i64 x.f] 23))
  cases h1 : (x.b == 0) with
  | true =>
    go_enter Try.func33, Try.ntmps33
    go_wp2
    go_ret
    exact ⟨ret_bool (by simp), hB.out⟩
  | false =>
    go_enter Try.func33, Try.ntmps33
    go_wp2
    go_ret
    exact ⟨ret_bool (by simp), hB.out⟩
theorem q34 (x : Vl) (w : World) :
    Calls Try.prog 34 #[.agg #[.int .i64 x.n, .int .i64 x.b, .int .i64 x.f]] w fun e w' => e = .returned (.bool (decide (0 < x.b) && x.f == 0)) ∧ Below w.heap.size w w' := by
  have hB := Aside0.mk (q10 (Below.refl w.heap.size w) (.cells #[.int .i64 x.n, .int .i64 x.b, .int .i64 x.f] 23))
  cases h1 : decide (0 < x.b) with
  | true =>
    go_enter Try.func34, Try.ntmps34
    go_wp2
    go_ret
    exact ⟨ret_bool (by simp), hB.out⟩
  | false =>
    go_enter Try.func34, Try.ntmps34
    go_wp2
    go_ret
    exact ⟨ret_bool (by simp), hB.out⟩
theorem at_calls (n : Int) (w : World) :
    Calls Try.prog 15 #[.int .i64 n] w fun e w' => e = .returned (.agg #[.int .i64 n, .int .i64 1, .int .i64 0]) ∧ Below w.heap.size w w' := by
  go_enter Try.func15, Try.ntmps15
  go_wp2
  refine bodyPost_ret (results_cell_row rfl _ _ w.heap.size 23 _ (0, 0) _ rfl (q33 w _) Try.underlying23 rfl (by kernel_rfl)) rfl ⟨rfl, q10 (Below.refl _ _) _⟩
theorem new_calls (w : World) :
    Calls Try.prog 11 #[] w fun e w' => e = .returned (.pointer (some ⟨w.heap.size, 0, none⟩)) ∧ w' = w.alloc (.cells #[.slice none 0 0] 73) := by
  go_enter Try.func11, Try.ntmps11
  go_wp2
  go_ret
  exact ⟨rfl, rfl⟩
theorem IsMem.form {w : World} {gm : Nat} {v : Value} {bs : List Blk} (h : IsMem w gm v bs) (h0 : 0 < bs.length) :
    ∃ g cap, v = .slice (some ⟨g, 0, none⟩) bs.length cap ∧ gm < g ∧ bs.length ≤ cap ∧ cap ≤ maxLen ∧ ∀ i b, bs[i]? = some b → ∀ j u, b.cells[j]? = some u → w.cell? ⟨g, 3 * i + j, none⟩ = some u := by
  rcases h.row.2 with ⟨_, h1⟩ | ⟨g, cap, cur, hv, hg, hh, hc, hm, hs, ht⟩
  · omega
  · refine ⟨g, cap, hv, hg, hc, hm, fun i b hi j u hu => ?_⟩
    rw [q16 hh]
    have he := encK_get hi hu
    have hlt : 3 * i + j < bs.length * 3 := by
      have h1 := (List.getElem?_eq_some_iff.1 he).1
      rw [encK_length] at h1
      omega
    rw [← ht, List.getElem?_take_of_lt hlt, Array.getElem?_toList] at he
    exact he
theorem IsMem.len {w : World} {gm : Nat} {v : Value} {bs : List Blk} (h : IsMem w gm v bs) : ∃ A cap, v = .slice A bs.length cap ∧ bs.length ≤ 9223372036854775807 := by
  rcases h.row.2 with ⟨hv, h1⟩ | ⟨g, cap, cur, hv, hg, hh, hc, hm, hs, ht⟩
  · exact ⟨none, 0, by rw [hv, h1], by omega⟩
  · exact ⟨_, cap, hv, by unfold maxLen at hm; omega⟩
theorem find_miss (n : Int) (gm : Nat) (v : Value) (bs : List Blk) (w : World) (hM : IsMem w gm v bs) (hn : n < 1 ∨ (bs.length : Int) < n) :
    Calls Try.prog 35 #[.pointer (some ⟨gm, 0, none⟩), .int .i64 n] w fun e w' => e = .returned (.pointer none) ∧ w' = w := by
  have h0 := cell1 hM.box
  obtain ⟨A, cap, rfl, hm⟩ := hM.len
  clear hM
  by_cases h1 : n < 1
  · clear hn
    go_enter Try.func35, Try.ntmps35
    go_wp2
    go_ret
    exact ⟨rfl, rfl⟩
  · have h2 : (bs.length : Int) < n := by omega
    clear hn
    go_enter Try.func35, Try.ntmps35
    go_wp2
    go_ret
    exact ⟨rfl, rfl⟩
theorem find_hit (n : Int) (gm g cap : Nat) (bs : List Blk) (w : World) (hM : IsMem w gm (.slice (some ⟨g, 0, none⟩) bs.length cap) bs) (h1 : 1 ≤ n) (h2 : n ≤ bs.length) :
    Calls Try.prog 35 #[.pointer (some ⟨gm, 0, none⟩), .int .i64 n] w fun e w' => e = .returned (.pointer (some ⟨g, (n.toNat - 1) * 3, none⟩)) ∧ w' = w := by
  have h0 := cell1 hM.box
  obtain ⟨_, _, _, hm⟩ := hM.len
  clear hM
  have h3 : 0 ≤ n - 1 := by omega
  have h4 : n - 1 < bs.length := by omega
  go_enter Try.func35, Try.ntmps35
  go_wp2
  go_ret
  exact ⟨rfl, rfl⟩
end Go.Proofs.Yteogfjhmjlelnaa.G
set_option linter.unusedVariables false
set_option linter.unusedSimpArgs false
namespace Go.Proofs.Yteogfjhmjlelnaa.G
open Go.RowKit Go.Proofs.Yteogfjhmjlelnaa.B Go.Proofs.YteogfjhmjlelnaaW.PrintWords Go.Proofs.YteogfjhmjlelnaaW.PrintLast Go.Proofs.YteogfjhmjlelnaaW.PrintMore
theorem find_any (n : Int) (gm : Nat) (v : Value) (bs : List Blk) (w : World) (hM : IsMem w gm v bs) :
  Calls Try.prog 35 #[.pointer (some ⟨gm, 0, none⟩), .int .i64 n] w fun e w' => (∃ q, e = .returned (.pointer q)) ∧ w' = w := by
 by_cases h : 1 ≤ n ∧ n ≤ bs.length
 ·obtain ⟨g, cap, rfl, _⟩ := hM.form (by omega)
  exact (find_hit n gm g cap bs w hM h.1 h.2).mono fun _ _ ⟨h1, h2⟩ => ⟨⟨_, h1⟩, h2⟩
 ·exact (find_miss n gm v bs w hM (by omega)).mono fun _ _ ⟨h1, h2⟩ => ⟨⟨_, h1⟩, h2⟩
theorem IsMem.alloc {w : World} {gm : Nat} {v : Value} {bs : List Blk} (h : IsMem w gm v bs) (o : Obj) : IsMem (w.alloc o) gm v bs := ⟨q12 h.box o, h.row.alloc o⟩
set_option maxRecDepth 100000 in
set_option maxHeartbeats 4000000 in
theorem part_nop (p : Vl) (n : Int) (gm : Nat) (v : Value) (bs : List Blk) (w : World) (hM : IsMem w gm v bs) (hp : (decide (0 < p.b) && p.f == 0) = false) :
  Calls Try.prog 37 #[.pointer (some ⟨gm, 0, none⟩), .agg #[.int .i64 p.n, .int .i64 p.b, .int .i64 p.f], .int .i64 n] w fun e w' => e = .returned (.tuple #[.slice none 0 0, .bool false]) ∧ Below w.heap.size w w' := by
 have hB := Aside0.mk (q10 (Below.refl w.heap.size w) (.cells #[.int .i64 p.n, .int .i64 p.b, .int .i64 p.f] 23))
 have hX := Aside0.mk (q33 w (.cells #[.int .i64 p.n, .int .i64 p.b, .int .i64 p.f] 23))
 have HM := Aside0.mk (IsMem.alloc hM (.cells #[.int .i64 p.n, .int .i64 p.b, .int .i64 p.f] 23))
 clear hM
 go_enter Try.func37, Try.ntmps37
 go_upto_region 1 with (fail)
 generalize w.alloc (.cells #[.int .i64 p.n, .int .i64 p.b, .int .i64 p.f] 23) = W at hB hX HM ⊢
 have hx := cell3 hX.out
 go_upto_region 2 with (first | (go_at_call 35; refine (find_any _ gm v bs _ HM.out).mono ?_))
 rintro e w1 ⟨⟨q, rfl⟩, rfl⟩
 have hS : (w1.cell? ⟨w.heap.size, 0, none⟩ = some (.int .i64 p.n) ∧ w1.cell? ⟨w.heap.size, 1, none⟩ = some (.int .i64 p.b) ∧ w1.cell? ⟨w.heap.size, 2, none⟩ = some (.int .i64 p.f) ∧ Below w.heap.size w w1) := ⟨hx.1, hx.2.1, hx.2.2, hB.out⟩
 clear hx hX hB HM
 have HK := Aside0.mk (show ∀ Wa Wb : World, Below Wa.heap.size Wa Wb → (Wa.cell? ⟨w.heap.size, 0, none⟩ = some (.int .i64 p.n) ∧ Wa.cell? ⟨w.heap.size, 1, none⟩ = some (.int .i64 p.b) ∧ Wa.cell? ⟨w.heap.size, 2, none⟩ = some (.int .i64 p.f) ∧ Below w.heap.size w Wa) → (Wb.cell? ⟨w.heap.size, 0, none⟩ = some (.int .i64 p.n) ∧ Wb.cell? ⟨w.heap.size, 1, none⟩ = some (.int .i64 p.b) ∧ Wb.cell? ⟨w.heap.size, 2, none⟩ = some (.int .i64 p.f) ∧ Below w.heap.size w Wb) from fun _ _ hb h => ⟨q22 hb h.1, q22 hb h.2.1, q22 hb h.2.2.1, q20 h.2.2.2 hb⟩)
 have HQ := Aside0.mk (show ∀ Wa : World, (Wa.cell? ⟨w.heap.size, 0, none⟩ = some (.int .i64 p.n) ∧ Wa.cell? ⟨w.heap.size, 1, none⟩ = some (.int .i64 p.b) ∧ Wa.cell? ⟨w.heap.size, 2, none⟩ = some (.int .i64 p.f) ∧ Below w.heap.size w Wa) → Below w.heap.size w Wa from fun _ h => h.2.2.2)
 go_wp2_with fail
 refine wp_region_held_drew (S := fun w' => w'.cell? ⟨w.heap.size, 0, none⟩ = some (.int .i64 p.n) ∧ w'.cell? ⟨w.heap.size, 1, none⟩ = some (.int .i64 p.b) ∧ w'.cell? ⟨w.heap.size, 2, none⟩ = some (.int .i64 p.f) ∧ Below w.heap.size w w') (by kernel_rfl) ⟨hS.1, hS.2.1, hS.2.2.1, q39 hS.2.2.2⟩ (fun hHeld => ?_)
 refine wpAnyH_take (i := 0) (oi := { dst := (some 13), op := (Op.load 23 (Operand.tmp 4)), type := 23, pos := "mem.go:102", after := #[], guard := none }) (v := ?_) rfl (by kernel_rfl) (by kernel_rfl) (by kernel_rfl) (fun _ _ _ h => h) (Or.inl ⟨by rfl, ?_⟩) hHeld ?_
 rotate_left
 ·intro w hSw; (try dsimp only at hSw); go_simp; try with_reducible rfl
 try simp only [Act.put, List.setIfInBounds_toArray, List.set_cons_zero, List.set_cons_succ]
 refine wpAnyH_ready (rs := [1]) (by kernel_rfl) (by simp) ?_
 refine AllReadyH.cons (o := { dst := (some 14), op := (Op.call { callee := (Callee.value (Operand.func 34)), args := #[(Operand.tmp 13)], argTypes := #[23] }), type := 4, pos := "mem.go:102", after := #[{ on := 0, ground := Ground.data }], guard := none }) rfl (fun K hK => ?_) AllReadyH.nil
 go_simp
 refine (q34 p _).mono ?_
 rintro e w2 ⟨rfl, hb2⟩
 go_wp2_with fail
 refine hK.out _ _ (HK.out _ _ hb2 hHeld) (fun hHeld => ?_)
 clear hK K
 try simp only [Act.put, List.setIfInBounds_toArray, List.set_cons_zero, List.set_cons_succ]
 refine wpAnyH_take (i := 2) (oi := { dst := (some 15), op := (Op.unOp UnOp.not 4 (Operand.tmp 14)), type := 4, pos := "mem.go:102", after := #[{ on := 1, ground := Ground.data }], guard := none }) (v := ?_) rfl (by kernel_rfl) (by kernel_rfl) (by kernel_rfl) (fun _ _ _ h => h) (Or.inl ⟨by rfl, ?_⟩) hHeld ?_
 rotate_left
 ·intro w hSw; (try dsimp only at hSw); go_simp; try with_reducible rfl
 try simp only [Act.put, List.setIfInBounds_toArray, List.set_cons_zero, List.set_cons_succ]
 refine wpAnyH_take (i := 3) (oi := { dst := (some 16), op := (Op.move (Operand.tmp 15)), type := 4, pos := "mem.go:102", after := #[{ on := 2, ground := Ground.data }, { on := 1, ground := Ground.chain }], guard := none }) (v := ?_) rfl (by kernel_rfl) (by kernel_rfl) (by kernel_rfl) (fun _ _ _ h => h) (Or.inl ⟨by rfl, ?_⟩) hHeld ?_
 rotate_left
 ·intro w hSw; (try dsimp only at hSw); go_simp; try with_reducible rfl
 try simp only [Act.put, List.setIfInBounds_toArray, List.set_cons_zero, List.set_cons_succ]
 refine wpAnyH_take (i := 4) (oi := { dst := (some 17), op := (Op.move (Operand.tmp 8)), type := 79, pos := "mem.go:102", after := #[{ on := 3, ground := Ground.guard }], guard := (some (3, false)) }) rfl (by kernel_rfl) (by kernel_rfl) (by kernel_rfl) (fun _ _ _ h => h) (Or.inr ⟨by rfl, rfl⟩) hHeld ?_
 try simp only [Act.put, List.setIfInBounds_toArray, List.set_cons_zero, List.set_cons_succ]
 refine wpAnyH_take (i := 5) (oi := { dst := (some 18), op := (Op.binOp BinOp.eql 79 (Operand.tmp 17) (Operand.const (Value.pointer none)) 79), type := 4, pos := "mem.go:102", after := #[{ on := 4, ground := Ground.data }, { on := 3, ground := Ground.guard }], guard := (some (3, false)) }) rfl (by kernel_rfl) (by kernel_rfl) (by kernel_rfl) (fun _ _ _ h => h) (Or.inr ⟨by rfl, rfl⟩) hHeld ?_
 try simp only [Act.put, List.setIfInBounds_toArray, List.set_cons_zero, List.set_cons_succ]
 refine wpAnyH_take (i := 6) (oi := { dst := (some 19), op := (Op.pick (Operand.tmp 16) (Operand.const (Value.bool true)) (Operand.tmp 18)), type := 4, pos := "mem.go:102", after := #[{ on := 3, ground := Ground.data }, { on := 5, ground := Ground.data }], guard := none }) (v := ?_) rfl (by kernel_rfl) (by kernel_rfl) (by kernel_rfl) (fun _ _ _ h => h) (Or.inl ⟨by rfl, ?_⟩) hHeld ?_
 rotate_left
 ·intro w hSw; (try dsimp only at hSw); go_simp; try with_reducible rfl
 try simp only [Act.put, List.setIfInBounds_toArray, List.set_cons_zero, List.set_cons_succ]
 refine wpAnyH_take (i := 7) (oi := { dst := (some 20), op := (Op.move (Operand.tmp 19)), type := 4, pos := "mem.go:102", after := #[{ on := 6, ground := Ground.data }, { on := 3, ground := Ground.chain }], guard := none }) (v := ?_) rfl (by kernel_rfl) (by kernel_rfl) (by kernel_rfl) (fun _ _ _ h => h) (Or.inl ⟨by rfl, ?_⟩) hHeld ?_
 rotate_left
 ·intro w hSw; (try dsimp only at hSw); go_simp; try with_reducible rfl
 try simp only [Act.put, List.setIfInBounds_toArray, List.set_cons_zero, List.set_cons_succ]
 refine wpAnyH_take (i := 8) (oi := { dst := (some 21), op := (Op.move (Operand.tmp 8)), type := 79, pos := "mem.go:102", after := #[{ on := 7, ground := Ground.guard }], guard := (some (7, false)) }) rfl (by kernel_rfl) (by kernel_rfl) (by kernel_rfl) (fun _ _ _ h => h) (Or.inr ⟨by rfl, rfl⟩) hHeld ?_
 try simp only [Act.put, List.setIfInBounds_toArray, List.set_cons_zero, List.set_cons_succ]
 refine wpAnyH_take (i := 9) (oi := { dst := (some 22), op := (Op.nilCheck (Operand.tmp 21)), type := 0, pos := "mem.go:102", after := #[{ on := 8, ground := Ground.data }, { on := 7, ground := Ground.guard }], guard := (some (7, false)) }) rfl (by kernel_rfl) (by kernel_rfl) (by kernel_rfl) (fun _ _ _ h => h) (Or.inr ⟨by rfl, rfl⟩) hHeld ?_
 try simp only [Act.put, List.setIfInBounds_toArray, List.set_cons_zero, List.set_cons_succ]
 refine wpAnyH_take (i := 10) (oi := { dst := (some 23), op := (Op.fieldAddr 75 (Operand.tmp 22) 2), type := 0, pos := "mem.go:102", after := #[{ on := 9, ground := Ground.data }, { on := 7, ground := Ground.guard }], guard := (some (7, false)) }) rfl (by kernel_rfl) (by kernel_rfl) (by kernel_rfl) (fun _ _ _ h => h) (Or.inr ⟨by rfl, rfl⟩) hHeld ?_
 try simp only [Act.put, List.setIfInBounds_toArray, List.set_cons_zero, List.set_cons_succ]
 refine wpAnyH_take (i := 11) (oi := { dst := (some 24), op := (Op.load 4 (Operand.tmp 23)), type := 4, pos := "mem.go:102", after := #[{ on := 10, ground := Ground.data }, { on := 7, ground := Ground.guard }], guard := (some (7, false)) }) rfl (by kernel_rfl) (by kernel_rfl) (by kernel_rfl) (fun _ _ _ h => h) (Or.inr ⟨by rfl, rfl⟩) hHeld ?_
 try simp only [Act.put, List.setIfInBounds_toArray, List.set_cons_zero, List.set_cons_succ]
 refine wpAnyH_take (i := 12) (oi := { dst := (some 25), op := (Op.unOp UnOp.not 4 (Operand.tmp 24)), type := 4, pos := "mem.go:102", after := #[{ on := 11, ground := Ground.data }, { on := 7, ground := Ground.guard }], guard := (some (7, false)) }) rfl (by kernel_rfl) (by kernel_rfl) (by kernel_rfl) (fun _ _ _ h => h) (Or.inr ⟨by rfl, rfl⟩) hHeld ?_
 try simp only [Act.put, List.setIfInBounds_toArray, List.set_cons_zero, List.set_cons_succ]
 refine wpAnyH_take (i := 13) (oi := { dst := (some 26), op := (Op.pick (Operand.tmp 20) (Operand.const (Value.bool true)) (Operand.tmp 25)), type := 4, pos := "mem.go:102", after := #[{ on := 7, ground := Ground.data }, { on := 12, ground := Ground.data }], guard := none }) (v := ?_) rfl (by kernel_rfl) (by kernel_rfl) (by kernel_rfl) (fun _ _ _ h => h) (Or.inl ⟨by rfl, ?_⟩) hHeld ?_
 rotate_left
 ·intro w hSw; (try dsimp only at hSw); go_simp; try with_reducible rfl
 try simp only [Act.put, List.setIfInBounds_toArray, List.set_cons_zero, List.set_cons_succ]
 refine wpAnyH_take (i := 14) (oi := { dst := (some 27), op := (Op.move (Operand.tmp 26)), type := 4, pos := "mem.go:102", after := #[{ on := 13, ground := Ground.data }, { on := 7, ground := Ground.chain }], guard := none }) (v := ?_) rfl (by kernel_rfl) (by kernel_rfl) (by kernel_rfl) (fun _ _ _ h => h) (Or.inl ⟨by rfl, ?_⟩) hHeld ?_
 rotate_left
 ·intro w hSw; (try dsimp only at hSw); go_simp; try with_reducible rfl
 try simp only [Act.put, List.setIfInBounds_toArray, List.set_cons_zero, List.set_cons_succ]
 refine wpAnyH_take (i := 15) (oi := { dst := (some 28), op := (Op.move (Operand.tmp 2)), type := 2, pos := "mem.go:102", after := #[{ on := 14, ground := Ground.guard }], guard := (some (14, false)) }) rfl (by kernel_rfl) (by kernel_rfl) (by kernel_rfl) (fun _ _ _ h => h) (Or.inr ⟨by rfl, rfl⟩) hHeld ?_
 try simp only [Act.put, List.setIfInBounds_toArray, List.set_cons_zero, List.set_cons_succ]
 refine wpAnyH_take (i := 16) (oi := { dst := (some 29), op := (Op.binOp BinOp.lss 2 (Operand.tmp 28) (Operand.const (Value.int IntKind.i64 0)) 2), type := 4, pos := "mem.go:102", after := #[{ on := 15, ground := Ground.data }, { on := 14, ground := Ground.guard }], guard := (some (14, false)) }) rfl (by kernel_rfl) (by kernel_rfl) (by kernel_rfl) (fun _ _ _ h => h) (Or.inr ⟨by rfl, rfl⟩) hHeld ?_
 try simp only [Act.put, List.setIfInBounds_toArray, List.set_cons_zero, List.set_cons_succ]
 refine wpAnyH_take (i := 17) (oi := { dst := (some 30), op := (Op.pick (Operand.tmp 27) (Operand.const (Value.bool true)) (Operand.tmp 29)), type := 4, pos := "mem.go:102", after := #[{ on := 14, ground := Ground.data }, { on := 16, ground := Ground.data }], guard := none }) (v := ?_) rfl (by kernel_rfl) (by kernel_rfl) (by kernel_rfl) (fun _ _ _ h => h) (Or.inl ⟨by rfl, ?_⟩) hHeld ?_
 rotate_left
 ·intro w hSw; (try dsimp only at hSw); go_simp; try with_reducible rfl
 try simp only [Act.put, List.setIfInBounds_toArray, List.set_cons_zero, List.set_cons_succ]
 refine wpAnyH_take (i := 18) (oi := { dst := (some 31), op := (Op.move (Operand.tmp 30)), type := 4, pos := "mem.go:102", after := #[{ on := 17, ground := Ground.data }, { on := 14, ground := Ground.chain }], guard := none }) (v := ?_) rfl (by kernel_rfl) (by kernel_rfl) (by kernel_rfl) (fun _ _ _ h => h) (Or.inl ⟨by rfl, ?_⟩) hHeld ?_
 rotate_left
 ·intro w hSw; (try dsimp only at hSw); go_simp; try with_reducible rfl
 try simp only [Act.put, List.setIfInBounds_toArray, List.set_cons_zero, List.set_cons_succ]
 refine wpAnyH_take (i := 19) (oi := { dst := (some 32), op := (Op.move (Operand.tmp 2)), type := 2, pos := "mem.go:102", after := #[{ on := 18, ground := Ground.guard }], guard := (some (18, false)) }) rfl (by kernel_rfl) (by kernel_rfl) (by kernel_rfl) (fun _ _ _ h => h) (Or.inr ⟨by rfl, rfl⟩) hHeld ?_
 try simp only [Act.put, List.setIfInBounds_toArray, List.set_cons_zero, List.set_cons_succ]
 refine wpAnyH_take (i := 20) (oi := { dst := (some 33), op := (Op.binOp BinOp.gtr 2 (Operand.tmp 32) (Operand.const (Value.int IntKind.i64 4096)) 2), type := 4, pos := "mem.go:102", after := #[{ on := 19, ground := Ground.data }, { on := 18, ground := Ground.guard }], guard := (some (18, false)) }) rfl (by kernel_rfl) (by kernel_rfl) (by kernel_rfl) (fun _ _ _ h => h) (Or.inr ⟨by rfl, rfl⟩) hHeld ?_
 try simp only [Act.put, List.setIfInBounds_toArray, List.set_cons_zero, List.set_cons_succ]
 refine wpAnyH_take (i := 21) (oi := { dst := (some 34), op := (Op.pick (Operand.tmp 31) (Operand.const (Value.bool true)) (Operand.tmp 33)), type := 4, pos := "mem.go:102", after := #[{ on := 18, ground := Ground.data }, { on := 20, ground := Ground.data }], guard := none }) (v := ?_) rfl (by kernel_rfl) (by kernel_rfl) (by kernel_rfl) (fun _ _ _ h => h) (Or.inl ⟨by rfl, ?_⟩) hHeld ?_
 rotate_left
 ·intro w hSw; (try dsimp only at hSw); go_simp; try with_reducible rfl
 try simp only [Act.put, List.setIfInBounds_toArray, List.set_cons_zero, List.set_cons_succ]
 refine wpAnyH_take (i := 22) (oi := { dst := (some 35), op := (Op.move (Operand.tmp 34)), type := 4, pos := "mem.go:102", after := #[{ on := 21, ground := Ground.data }, { on := 18, ground := Ground.chain }], guard := none }) (v := ?_) rfl (by kernel_rfl) (by kernel_rfl) (by kernel_rfl) (fun _ _ _ h => h) (Or.inl ⟨by rfl, ?_⟩) hHeld ?_
 rotate_left
 ·intro w hSw; (try dsimp only at hSw); go_simp; try with_reducible rfl
 try simp only [Act.put, List.setIfInBounds_toArray, List.set_cons_zero, List.set_cons_succ]
 refine wpAnyH_take (i := 23) (oi := { dst := (some 36), op := (Op.fieldAddr 23 (Operand.tmp 4) 0), type := 0, pos := "mem.go:102", after := #[{ on := 22, ground := Ground.guard }], guard := (some (22, false)) }) rfl (by kernel_rfl) (by kernel_rfl) (by kernel_rfl) (fun _ _ _ h => h) (Or.inr ⟨by rfl, rfl⟩) hHeld ?_
 try simp only [Act.put, List.setIfInBounds_toArray, List.set_cons_zero, List.set_cons_succ]
 refine wpAnyH_take (i := 24) (oi := { dst := (some 37), op := (Op.load 2 (Operand.tmp 36)), type := 2, pos := "mem.go:102", after := #[{ on := 23, ground := Ground.data }, { on := 22, ground := Ground.guard }], guard := (some (22, false)) }) rfl (by kernel_rfl) (by kernel_rfl) (by kernel_rfl) (fun _ _ _ h => h) (Or.inr ⟨by rfl, rfl⟩) hHeld ?_
 try simp only [Act.put, List.setIfInBounds_toArray, List.set_cons_zero, List.set_cons_succ]
 refine wpAnyH_take (i := 25) (oi := { dst := (some 38), op := (Op.binOp BinOp.lss 2 (Operand.tmp 37) (Operand.const (Value.int IntKind.i64 0)) 2), type := 4, pos := "mem.go:102", after := #[{ on := 24, ground := Ground.data }, { on := 22, ground := Ground.guard }], guard := (some (22, false)) }) rfl (by kernel_rfl) (by kernel_rfl) (by kernel_rfl) (fun _ _ _ h => h) (Or.inr ⟨by rfl, rfl⟩) hHeld ?_
 try simp only [Act.put, List.setIfInBounds_toArray, List.set_cons_zero, List.set_cons_succ]
 refine wpAnyH_take (i := 26) (oi := { dst := (some 39), op := (Op.pick (Operand.tmp 35) (Operand.const (Value.bool true)) (Operand.tmp 38)), type := 4, pos := "mem.go:102", after := #[{ on := 22, ground := Ground.data }, { on := 25, ground := Ground.data }], guard := none }) (v := ?_) rfl (by kernel_rfl) (by kernel_rfl) (by kernel_rfl) (fun _ _ _ h => h) (Or.inl ⟨by rfl, ?_⟩) hHeld ?_
 rotate_left
 ·intro w hSw; (try dsimp only at hSw); go_simp; try with_reducible rfl
 try simp only [Act.put, List.setIfInBounds_toArray, List.set_cons_zero, List.set_cons_succ]
 refine wpAnyH_take (i := 27) (oi := { dst := (some 40), op := (Op.move (Operand.tmp 39)), type := 4, pos := "mem.go:102", after := #[{ on := 26, ground := Ground.data }, { on := 22, ground := Ground.chain }], guard := none }) (v := ?_) rfl (by kernel_rfl) (by kernel_rfl) (by kernel_rfl) (fun _ _ _ h => h) (Or.inl ⟨by rfl, ?_⟩) hHeld ?_
 rotate_left
 ·intro w hSw; (try dsimp only at hSw); go_simp; try with_reducible rfl
 try simp only [Act.put, List.setIfInBounds_toArray, List.set_cons_zero, List.set_cons_succ]
 refine wpAnyH_take (i := 28) (oi := { dst := (some 41), op := (Op.fieldAddr 23 (Operand.tmp 4) 0), type := 0, pos := "mem.go:102", after := #[{ on := 27, ground := Ground.guard }], guard := (some (27, false)) }) rfl (by kernel_rfl) (by kernel_rfl) (by kernel_rfl) (fun _ _ _ h => h) (Or.inr ⟨by rfl, rfl⟩) hHeld ?_
 try simp only [Act.put, List.setIfInBounds_toArray, List.set_cons_zero, List.set_cons_succ]
 refine wpAnyH_take (i := 29) (oi := { dst := (some 42), op := (Op.load 2 (Operand.tmp 41)), type := 2, pos := "mem.go:102", after := #[{ on := 28, ground := Ground.data }, { on := 27, ground := Ground.guard }], guard := (some (27, false)) }) rfl (by kernel_rfl) (by kernel_rfl) (by kernel_rfl) (fun _ _ _ h => h) (Or.inr ⟨by rfl, rfl⟩) hHeld ?_
 try simp only [Act.put, List.setIfInBounds_toArray, List.set_cons_zero, List.set_cons_succ]
 refine wpAnyH_take (i := 30) (oi := { dst := (some 43), op := (Op.move (Operand.tmp 8)), type := 79, pos := "mem.go:102", after := #[{ on := 27, ground := Ground.guard }], guard := (some (27, false)) }) rfl (by kernel_rfl) (by kernel_rfl) (by kernel_rfl) (fun _ _ _ h => h) (Or.inr ⟨by rfl, rfl⟩) hHeld ?_
 try simp only [Act.put, List.setIfInBounds_toArray, List.set_cons_zero, List.set_cons_succ]
 refine wpAnyH_take (i := 31) (oi := { dst := (some 44), op := (Op.nilCheck (Operand.tmp 43)), type := 0, pos := "mem.go:102", after := #[{ on := 30, ground := Ground.data }, { on := 27, ground := Ground.guard }], guard := (some (27, false)) }) rfl (by kernel_rfl) (by kernel_rfl) (by kernel_rfl) (fun _ _ _ h => h) (Or.inr ⟨by rfl, rfl⟩) hHeld ?_
 try simp only [Act.put, List.setIfInBounds_toArray, List.set_cons_zero, List.set_cons_succ]
 refine wpAnyH_take (i := 32) (oi := { dst := (some 45), op := (Op.fieldAddr 75 (Operand.tmp 44) 1), type := 0, pos := "mem.go:102", after := #[{ on := 31, ground := Ground.data }, { on := 27, ground := Ground.guard }], guard := (some (27, false)) }) rfl (by kernel_rfl) (by kernel_rfl) (by kernel_rfl) (fun _ _ _ h => h) (Or.inr ⟨by rfl, rfl⟩) hHeld ?_
 try simp only [Act.put, List.setIfInBounds_toArray, List.set_cons_zero, List.set_cons_succ]
 refine wpAnyH_take (i := 33) (oi := { dst := (some 46), op := (Op.load 38 (Operand.tmp 45)), type := 38, pos := "mem.go:102", after := #[{ on := 32, ground := Ground.data }, { on := 27, ground := Ground.guard }], guard := (some (27, false)) }) rfl (by kernel_rfl) (by kernel_rfl) (by kernel_rfl) (fun _ _ _ h => h) (Or.inr ⟨by rfl, rfl⟩) hHeld ?_
 try simp only [Act.put, List.setIfInBounds_toArray, List.set_cons_zero, List.set_cons_succ]
 refine wpAnyH_take (i := 34) (oi := { dst := (some 47), op := (Op.call { callee := (Callee.builtin Builtin.len), args := #[(Operand.tmp 46)], argTypes := #[38] }), type := 3, pos := "mem.go:102", after := #[{ on := 33, ground := Ground.data }, { on := 27, ground := Ground.guard }], guard := (some (27, false)) }) rfl (by kernel_rfl) (by kernel_rfl) (by kernel_rfl) (fun _ _ _ h => h) (Or.inr ⟨by rfl, rfl⟩) hHeld ?_
 try simp only [Act.put, List.setIfInBounds_toArray, List.set_cons_zero, List.set_cons_succ]
 refine wpAnyH_take (i := 35) (oi := { dst := (some 48), op := (Op.move (Operand.tmp 2)), type := 2, pos := "mem.go:102", after := #[{ on := 27, ground := Ground.guard }], guard := (some (27, false)) }) rfl (by kernel_rfl) (by kernel_rfl) (by kernel_rfl) (fun _ _ _ h => h) (Or.inr ⟨by rfl, rfl⟩) hHeld ?_
 try simp only [Act.put, List.setIfInBounds_toArray, List.set_cons_zero, List.set_cons_succ]
 refine wpAnyH_take (i := 36) (oi := { dst := (some 49), op := (Op.binOp BinOp.sub 2 (Operand.tmp 47) (Operand.tmp 48) 2), type := 2, pos := "mem.go:102", after := #[{ on := 34, ground := Ground.data }, { on := 35, ground := Ground.data }, { on := 27, ground := Ground.guard }], guard := (some (27, false)) }) rfl (by kernel_rfl) (by kernel_rfl) (by kernel_rfl) (fun _ _ _ h => h) (Or.inr ⟨by rfl, rfl⟩) hHeld ?_
 try simp only [Act.put, List.setIfInBounds_toArray, List.set_cons_zero, List.set_cons_succ]
 refine wpAnyH_take (i := 37) (oi := { dst := (some 50), op := (Op.binOp BinOp.gtr 2 (Operand.tmp 42) (Operand.tmp 49) 2), type := 4, pos := "mem.go:102", after := #[{ on := 29, ground := Ground.data }, { on := 36, ground := Ground.data }, { on := 27, ground := Ground.guard }], guard := (some (27, false)) }) rfl (by kernel_rfl) (by kernel_rfl) (by kernel_rfl) (fun _ _ _ h => h) (Or.inr ⟨by rfl, rfl⟩) hHeld ?_
 try simp only [Act.put, List.setIfInBounds_toArray, List.set_cons_zero, List.set_cons_succ]
 refine wpAnyH_take (i := 38) (oi := { dst := (some 51), op := (Op.pick (Operand.tmp 40) (Operand.const (Value.bool true)) (Operand.tmp 50)), type := 4, pos := "mem.go:102", after := #[{ on := 27, ground := Ground.data }, { on := 37, ground := Ground.data }], guard := none }) (v := ?_) rfl (by kernel_rfl) (by kernel_rfl) (by kernel_rfl) (fun _ _ _ h => h) (Or.inl ⟨by rfl, ?_⟩) hHeld ?_
 rotate_left
 ·intro w hSw; (try dsimp only at hSw); go_simp; try with_reducible rfl
 try simp only [Act.put, List.setIfInBounds_toArray, List.set_cons_zero, List.set_cons_succ]
 refine wpAnyH_done (by kernel_rfl) ?_ _
 go_wp2_with fail
 exact bodyPost_ret (v := .tuple #[.slice none 0 0, .bool false]) (by simp [results, Try.results37, go_sem]) rfl ⟨rfl, HQ.out _ hHeld⟩
set_option maxRecDepth 100000 in
set_option maxHeartbeats 4000000 in
theorem part_miss (p : Vl) (n : Int) (gm : Nat) (v : Value) (bs : List Blk) (w : World) (hM : IsMem w gm v bs) (hp : (decide (0 < p.b) && p.f == 0) = true) (hb : (bs.length : Int) < p.b) :
  Calls Try.prog 37 #[.pointer (some ⟨gm, 0, none⟩), .agg #[.int .i64 p.n, .int .i64 p.b, .int .i64 p.f], .int .i64 n] w fun e w' => e = .returned (.tuple #[.slice none 0 0, .bool false]) ∧ Below w.heap.size w w' := by
 have hB := Aside0.mk (q10 (Below.refl w.heap.size w) (.cells #[.int .i64 p.n, .int .i64 p.b, .int .i64 p.f] 23))
 have hX := Aside0.mk (q33 w (.cells #[.int .i64 p.n, .int .i64 p.b, .int .i64 p.f] 23))
 have HM := Aside0.mk (IsMem.alloc hM (.cells #[.int .i64 p.n, .int .i64 p.b, .int .i64 p.f] 23))
 clear hM
 go_enter Try.func37, Try.ntmps37
 go_upto_region 1 with (fail)
 generalize w.alloc (.cells #[.int .i64 p.n, .int .i64 p.b, .int .i64 p.f] 23) = W at hB hX HM ⊢
 have hx := cell3 hX.out
 go_upto_region 2 with (first | (go_at_call 35; refine (find_miss _ gm v bs _ HM.out (.inr hb)).mono ?_))
 rintro e w1 ⟨rfl, rfl⟩
 clear hb
 have hS : (w1.cell? ⟨w.heap.size, 0, none⟩ = some (.int .i64 p.n) ∧ w1.cell? ⟨w.heap.size, 1, none⟩ = some (.int .i64 p.b) ∧ w1.cell? ⟨w.heap.size, 2, none⟩ = some (.int .i64 p.f) ∧ Below w.heap.size w w1) := ⟨hx.1, hx.2.1, hx.2.2, hB.out⟩
 clear hx hX hB HM
 have HK := Aside0.mk (show ∀ Wa Wb : World, Below Wa.heap.size Wa Wb → (Wa.cell? ⟨w.heap.size, 0, none⟩ = some (.int .i64 p.n) ∧ Wa.cell? ⟨w.heap.size, 1, none⟩ = some (.int .i64 p.b) ∧ Wa.cell? ⟨w.heap.size, 2, none⟩ = some (.int .i64 p.f) ∧ Below w.heap.size w Wa) → (Wb.cell? ⟨w.heap.size, 0, none⟩ = some (.int .i64 p.n) ∧ Wb.cell? ⟨w.heap.size, 1, none⟩ = some (.int .i64 p.b) ∧ Wb.cell? ⟨w.heap.size, 2, none⟩ = some (.int .i64 p.f) ∧ Below w.heap.size w Wb) from fun _ _ hb h => ⟨q22 hb h.1, q22 hb h.2.1, q22 hb h.2.2.1, q20 h.2.2.2 hb⟩)
 have HQ := Aside0.mk (show ∀ Wa : World, (Wa.cell? ⟨w.heap.size, 0, none⟩ = some (.int .i64 p.n) ∧ Wa.cell? ⟨w.heap.size, 1, none⟩ = some (.int .i64 p.b) ∧ Wa.cell? ⟨w.heap.size, 2, none⟩ = some (.int .i64 p.f) ∧ Below w.heap.size w Wa) → Below w.heap.size w Wa from fun _ h => h.2.2.2)
 go_wp2_with fail
 refine wp_region_held_drew (S := fun w' => w'.cell? ⟨w.heap.size, 0, none⟩ = some (.int .i64 p.n) ∧ w'.cell? ⟨w.heap.size, 1, none⟩ = some (.int .i64 p.b) ∧ w'.cell? ⟨w.heap.size, 2, none⟩ = some (.int .i64 p.f) ∧ Below w.heap.size w w') (by kernel_rfl) ⟨hS.1, hS.2.1, hS.2.2.1, q39 hS.2.2.2⟩ (fun hHeld => ?_)
 refine wpAnyH_take (i := 0) (oi := { dst := (some 13), op := (Op.load 23 (Operand.tmp 4)), type := 23, pos := "mem.go:102", after := #[], guard := none }) (v := ?_) rfl (by kernel_rfl) (by kernel_rfl) (by kernel_rfl) (fun _ _ _ h => h) (Or.inl ⟨by rfl, ?_⟩) hHeld ?_
 rotate_left
 ·intro w hSw; (try dsimp only at hSw); go_simp; try with_reducible rfl
 try simp only [Act.put, List.setIfInBounds_toArray, List.set_cons_zero, List.set_cons_succ]
 refine wpAnyH_ready (rs := [1]) (by kernel_rfl) (by simp) ?_
 refine AllReadyH.cons (o := { dst := (some 14), op := (Op.call { callee := (Callee.value (Operand.func 34)), args := #[(Operand.tmp 13)], argTypes := #[23] }), type := 4, pos := "mem.go:102", after := #[{ on := 0, ground := Ground.data }], guard := none }) rfl (fun K hK => ?_) AllReadyH.nil
 go_simp
 refine (q34 p _).mono ?_
 rintro e w2 ⟨rfl, hb2⟩
 go_wp2_with fail
 refine hK.out _ _ (HK.out _ _ hb2 hHeld) (fun hHeld => ?_)
 clear hK K
 try simp only [Act.put, List.setIfInBounds_toArray, List.set_cons_zero, List.set_cons_succ]
 refine wpAnyH_take (i := 2) (oi := { dst := (some 15), op := (Op.unOp UnOp.not 4 (Operand.tmp 14)), type := 4, pos := "mem.go:102", after := #[{ on := 1, ground := Ground.data }], guard := none }) (v := ?_) rfl (by kernel_rfl) (by kernel_rfl) (by kernel_rfl) (fun _ _ _ h => h) (Or.inl ⟨by rfl, ?_⟩) hHeld ?_
 rotate_left
 ·intro w hSw; (try dsimp only at hSw); go_simp; try with_reducible rfl
 try simp only [Act.put, List.setIfInBounds_toArray, List.set_cons_zero, List.set_cons_succ]
 refine wpAnyH_take (i := 3) (oi := { dst := (some 16), op := (Op.move (Operand.tmp 15)), type := 4, pos := "mem.go:102", after := #[{ on := 2, ground := Ground.data }, { on := 1, ground := Ground.chain }], guard := none }) (v := ?_) rfl (by kernel_rfl) (by kernel_rfl) (by kernel_rfl) (fun _ _ _ h => h) (Or.inl ⟨by rfl, ?_⟩) hHeld ?_
 rotate_left
 ·intro w hSw; (try dsimp only at hSw); go_simp; try with_reducible rfl
 try simp only [Act.put, List.setIfInBounds_toArray, List.set_cons_zero, List.set_cons_succ]
 refine wpAnyH_take (i := 4) (oi := { dst := (some 17), op := (Op.move (Operand.tmp 8)), type := 79, pos := "mem.go:102", after := #[{ on := 3, ground := Ground.guard }], guard := (some (3, false)) }) (v := ?_) rfl (by kernel_rfl) (by kernel_rfl) (by kernel_rfl) (fun _ _ _ h => h) (Or.inl ⟨by rfl, ?_⟩) hHeld ?_
 rotate_left
 ·intro w hSw; (try dsimp only at hSw); go_simp; try with_reducible rfl
 try simp only [Act.put, List.setIfInBounds_toArray, List.set_cons_zero, List.set_cons_succ]
 refine wpAnyH_take (i := 5) (oi := { dst := (some 18), op := (Op.binOp BinOp.eql 79 (Operand.tmp 17) (Operand.const (Value.pointer none)) 79), type := 4, pos := "mem.go:102", after := #[{ on := 4, ground := Ground.data }, { on := 3, ground := Ground.guard }], guard := (some (3, false)) }) (v := ?_) rfl (by kernel_rfl) (by kernel_rfl) (by kernel_rfl) (fun _ _ _ h => h) (Or.inl ⟨by rfl, ?_⟩) hHeld ?_
 rotate_left
 ·intro w hSw; (try dsimp only at hSw); go_simp; try with_reducible rfl
 try simp only [Act.put, List.setIfInBounds_toArray, List.set_cons_zero, List.set_cons_succ]
 refine wpAnyH_take (i := 6) (oi := { dst := (some 19), op := (Op.pick (Operand.tmp 16) (Operand.const (Value.bool true)) (Operand.tmp 18)), type := 4, pos := "mem.go:102", after := #[{ on := 3, ground := Ground.data }, { on := 5, ground := Ground.data }], guard := none }) (v := ?_) rfl (by kernel_rfl) (by kernel_rfl) (by kernel_rfl) (fun _ _ _ h => h) (Or.inl ⟨by rfl, ?_⟩) hHeld ?_
 rotate_left
 ·intro w hSw; (try dsimp only at hSw); go_simp; try with_reducible rfl
 try simp only [Act.put, List.setIfInBounds_toArray, List.set_cons_zero, List.set_cons_succ]
 refine wpAnyH_take (i := 7) (oi := { dst := (some 20), op := (Op.move (Operand.tmp 19)), type := 4, pos := "mem.go:102", after := #[{ on := 6, ground := Ground.data }, { on := 3, ground := Ground.chain }], guard := none }) (v := ?_) rfl (by kernel_rfl) (by kernel_rfl) (by kernel_rfl) (fun _ _ _ h => h) (Or.inl ⟨by rfl, ?_⟩) hHeld ?_
 rotate_left
 ·intro w hSw; (try dsimp only at hSw); go_simp; try with_reducible rfl
 try simp only [Act.put, List.setIfInBounds_toArray, List.set_cons_zero, List.set_cons_succ]
 refine wpAnyH_take (i := 8) (oi := { dst := (some 21), op := (Op.move (Operand.tmp 8)), type := 79, pos := "mem.go:102", after := #[{ on := 7, ground := Ground.guard }], guard := (some (7, false)) }) rfl (by kernel_rfl) (by kernel_rfl) (by kernel_rfl) (fun _ _ _ h => h) (Or.inr ⟨by rfl, rfl⟩) hHeld ?_
 try simp only [Act.put, List.setIfInBounds_toArray, List.set_cons_zero, List.set_cons_succ]
 refine wpAnyH_take (i := 9) (oi := { dst := (some 22), op := (Op.nilCheck (Operand.tmp 21)), type := 0, pos := "mem.go:102", after := #[{ on := 8, ground := Ground.data }, { on := 7, ground := Ground.guard }], guard := (some (7, false)) }) rfl (by kernel_rfl) (by kernel_rfl) (by kernel_rfl) (fun _ _ _ h => h) (Or.inr ⟨by rfl, rfl⟩) hHeld ?_
 try simp only [Act.put, List.setIfInBounds_toArray, List.set_cons_zero, List.set_cons_succ]
 refine wpAnyH_take (i := 10) (oi := { dst := (some 23), op := (Op.fieldAddr 75 (Operand.tmp 22) 2), type := 0, pos := "mem.go:102", after := #[{ on := 9, ground := Ground.data }, { on := 7, ground := Ground.guard }], guard := (some (7, false)) }) rfl (by kernel_rfl) (by kernel_rfl) (by kernel_rfl) (fun _ _ _ h => h) (Or.inr ⟨by rfl, rfl⟩) hHeld ?_
 try simp only [Act.put, List.setIfInBounds_toArray, List.set_cons_zero, List.set_cons_succ]
 refine wpAnyH_take (i := 11) (oi := { dst := (some 24), op := (Op.load 4 (Operand.tmp 23)), type := 4, pos := "mem.go:102", after := #[{ on := 10, ground := Ground.data }, { on := 7, ground := Ground.guard }], guard := (some (7, false)) }) rfl (by kernel_rfl) (by kernel_rfl) (by kernel_rfl) (fun _ _ _ h => h) (Or.inr ⟨by rfl, rfl⟩) hHeld ?_
 try simp only [Act.put, List.setIfInBounds_toArray, List.set_cons_zero, List.set_cons_succ]
 refine wpAnyH_take (i := 12) (oi := { dst := (some 25), op := (Op.unOp UnOp.not 4 (Operand.tmp 24)), type := 4, pos := "mem.go:102", after := #[{ on := 11, ground := Ground.data }, { on := 7, ground := Ground.guard }], guard := (some (7, false)) }) rfl (by kernel_rfl) (by kernel_rfl) (by kernel_rfl) (fun _ _ _ h => h) (Or.inr ⟨by rfl, rfl⟩) hHeld ?_
 try simp only [Act.put, List.setIfInBounds_toArray, List.set_cons_zero, List.set_cons_succ]
 refine wpAnyH_take (i := 13) (oi := { dst := (some 26), op := (Op.pick (Operand.tmp 20) (Operand.const (Value.bool true)) (Operand.tmp 25)), type := 4, pos := "mem.go:102", after := #[{ on := 7, ground := Ground.data }, { on := 12, ground := Ground.data }], guard := none }) (v := ?_) rfl (by kernel_rfl) (by kernel_rfl) (by kernel_rfl) (fun _ _ _ h => h) (Or.inl ⟨by rfl, ?_⟩) hHeld ?_
 rotate_left
 ·intro w hSw; (try dsimp only at hSw); go_simp; try with_reducible rfl
 try simp only [Act.put, List.setIfInBounds_toArray, List.set_cons_zero, List.set_cons_succ]
 refine wpAnyH_take (i := 14) (oi := { dst := (some 27), op := (Op.move (Operand.tmp 26)), type := 4, pos := "mem.go:102", after := #[{ on := 13, ground := Ground.data }, { on := 7, ground := Ground.chain }], guard := none }) (v := ?_) rfl (by kernel_rfl) (by kernel_rfl) (by kernel_rfl) (fun _ _ _ h => h) (Or.inl ⟨by rfl, ?_⟩) hHeld ?_
 rotate_left
 ·intro w hSw; (try dsimp only at hSw); go_simp; try with_reducible rfl
 try simp only [Act.put, List.setIfInBounds_toArray, List.set_cons_zero, List.set_cons_succ]
 refine wpAnyH_take (i := 15) (oi := { dst := (some 28), op := (Op.move (Operand.tmp 2)), type := 2, pos := "mem.go:102", after := #[{ on := 14, ground := Ground.guard }], guard := (some (14, false)) }) rfl (by kernel_rfl) (by kernel_rfl) (by kernel_rfl) (fun _ _ _ h => h) (Or.inr ⟨by rfl, rfl⟩) hHeld ?_
 try simp only [Act.put, List.setIfInBounds_toArray, List.set_cons_zero, List.set_cons_succ]
 refine wpAnyH_take (i := 16) (oi := { dst := (some 29), op := (Op.binOp BinOp.lss 2 (Operand.tmp 28) (Operand.const (Value.int IntKind.i64 0)) 2), type := 4, pos := "mem.go:102", after := #[{ on := 15, ground := Ground.data }, { on := 14, ground := Ground.guard }], guard := (some (14, false)) }) rfl (by kernel_rfl) (by kernel_rfl) (by kernel_rfl) (fun _ _ _ h => h) (Or.inr ⟨by rfl, rfl⟩) hHeld ?_
 try simp only [Act.put, List.setIfInBounds_toArray, List.set_cons_zero, List.set_cons_succ]
 refine wpAnyH_take (i := 17) (oi := { dst := (some 30), op := (Op.pick (Operand.tmp 27) (Operand.const (Value.bool true)) (Operand.tmp 29)), type := 4, pos := "mem.go:102", after := #[{ on := 14, ground := Ground.data }, { on := 16, ground := Ground.data }], guard := none }) (v := ?_) rfl (by kernel_rfl) (by kernel_rfl) (by kernel_rfl) (fun _ _ _ h => h) (Or.inl ⟨by rfl, ?_⟩) hHeld ?_
 rotate_left
 ·intro w hSw; (try dsimp only at hSw); go_simp; try with_reducible rfl
 try simp only [Act.put, List.setIfInBounds_toArray, List.set_cons_zero, List.set_cons_succ]
 refine wpAnyH_take (i := 18) (oi := { dst := (some 31), op := (Op.move (Operand.tmp 30)), type := 4, pos := "mem.go:102", after := #[{ on := 17, ground := Ground.data }, { on := 14, ground := Ground.chain }], guard := none }) (v := ?_) rfl (by kernel_rfl) (by kernel_rfl) (by kernel_rfl) (fun _ _ _ h => h) (Or.inl ⟨by rfl, ?_⟩) hHeld ?_
 rotate_left
 ·intro w hSw; (try dsimp only at hSw); go_simp; try with_reducible rfl
 try simp only [Act.put, List.setIfInBounds_toArray, List.set_cons_zero, List.set_cons_succ]
 refine wpAnyH_take (i := 19) (oi := { dst := (some 32), op := (Op.move (Operand.tmp 2)), type := 2, pos := "mem.go:102", after := #[{ on := 18, ground := Ground.guard }], guard := (some (18, false)) }) rfl (by kernel_rfl) (by kernel_rfl) (by kernel_rfl) (fun _ _ _ h => h) (Or.inr ⟨by rfl, rfl⟩) hHeld ?_
 try simp only [Act.put, List.setIfInBounds_toArray, List.set_cons_zero, List.set_cons_succ]
 refine wpAnyH_take (i := 20) (oi := { dst := (some 33), op := (Op.binOp BinOp.gtr 2 (Operand.tmp 32) (Operand.const (Value.int IntKind.i64 4096)) 2), type := 4, pos := "mem.go:102", after := #[{ on := 19, ground := Ground.data }, { on := 18, ground := Ground.guard }], guard := (some (18, false)) }) rfl (by kernel_rfl) (by kernel_rfl) (by kernel_rfl) (fun _ _ _ h => h) (Or.inr ⟨by rfl, rfl⟩) hHeld ?_
 try simp only [Act.put, List.setIfInBounds_toArray, List.set_cons_zero, List.set_cons_succ]
 refine wpAnyH_take (i := 21) (oi := { dst := (some 34), op := (Op.pick (Operand.tmp 31) (Operand.const (Value.bool true)) (Operand.tmp 33)), type := 4, pos := "mem.go:102", after := #[{ on := 18, ground := Ground.data }, { on := 20, ground := Ground.data }], guard := none }) (v := ?_) rfl (by kernel_rfl) (by kernel_rfl) (by kernel_rfl) (fun _ _ _ h => h) (Or.inl ⟨by rfl, ?_⟩) hHeld ?_
 rotate_left
 ·intro w hSw; (try dsimp only at hSw); go_simp; try with_reducible rfl
 try simp only [Act.put, List.setIfInBounds_toArray, List.set_cons_zero, List.set_cons_succ]
 refine wpAnyH_take (i := 22) (oi := { dst := (some 35), op := (Op.move (Operand.tmp 34)), type := 4, pos := "mem.go:102", after := #[{ on := 21, ground := Ground.data }, { on := 18, ground := Ground.chain }], guard := none }) (v := ?_) rfl (by kernel_rfl) (by kernel_rfl) (by kernel_rfl) (fun _ _ _ h => h) (Or.inl ⟨by rfl, ?_⟩) hHeld ?_
 rotate_left
 ·intro w hSw; (try dsimp only at hSw); go_simp; try with_reducible rfl
 try simp only [Act.put, List.setIfInBounds_toArray, List.set_cons_zero, List.set_cons_succ]
 refine wpAnyH_take (i := 23) (oi := { dst := (some 36), op := (Op.fieldAddr 23 (Operand.tmp 4) 0), type := 0, pos := "mem.go:102", after := #[{ on := 22, ground := Ground.guard }], guard := (some (22, false)) }) rfl (by kernel_rfl) (by kernel_rfl) (by kernel_rfl) (fun _ _ _ h => h) (Or.inr ⟨by rfl, rfl⟩) hHeld ?_
 try simp only [Act.put, List.setIfInBounds_toArray, List.set_cons_zero, List.set_cons_succ]
 refine wpAnyH_take (i := 24) (oi := { dst := (some 37), op := (Op.load 2 (Operand.tmp 36)), type := 2, pos := "mem.go:102", after := #[{ on := 23, ground := Ground.data }, { on := 22, ground := Ground.guard }], guard := (some (22, false)) }) rfl (by kernel_rfl) (by kernel_rfl) (by kernel_rfl) (fun _ _ _ h => h) (Or.inr ⟨by rfl, rfl⟩) hHeld ?_
 try simp only [Act.put, List.setIfInBounds_toArray, List.set_cons_zero, List.set_cons_succ]
 refine wpAnyH_take (i := 25) (oi := { dst := (some 38), op := (Op.binOp BinOp.lss 2 (Operand.tmp 37) (Operand.const (Value.int IntKind.i64 0)) 2), type := 4, pos := "mem.go:102", after := #[{ on := 24, ground := Ground.data }, { on := 22, ground := Ground.guard }], guard := (some (22, false)) }) rfl (by kernel_rfl) (by kernel_rfl) (by kernel_rfl) (fun _ _ _ h => h) (Or.inr ⟨by rfl, rfl⟩) hHeld ?_
 try simp only [Act.put, List.setIfInBounds_toArray, List.set_cons_zero, List.set_cons_succ]
 refine wpAnyH_take (i := 26) (oi := { dst := (some 39), op := (Op.pick (Operand.tmp 35) (Operand.const (Value.bool true)) (Operand.tmp 38)), type := 4, pos := "mem.go:102", after := #[{ on := 22, ground := Ground.data }, { on := 25, ground := Ground.data }], guard := none }) (v := ?_) rfl (by kernel_rfl) (by kernel_rfl) (by kernel_rfl) (fun _ _ _ h => h) (Or.inl ⟨by rfl, ?_⟩) hHeld ?_
 rotate_left
 ·intro w hSw; (try dsimp only at hSw); go_simp; try with_reducible rfl
 try simp only [Act.put, List.setIfInBounds_toArray, List.set_cons_zero, List.set_cons_succ]
 refine wpAnyH_take (i := 27) (oi := { dst := (some 40), op := (Op.move (Operand.tmp 39)), type := 4, pos := "mem.go:102", after := #[{ on := 26, ground := Ground.data }, { on := 22, ground := Ground.chain }], guard := none }) (v := ?_) rfl (by kernel_rfl) (by kernel_rfl) (by kernel_rfl) (fun _ _ _ h => h) (Or.inl ⟨by rfl, ?_⟩) hHeld ?_
 rotate_left
 ·intro w hSw; (try dsimp only at hSw); go_simp; try with_reducible rfl
 try simp only [Act.put, List.setIfInBounds_toArray, List.set_cons_zero, List.set_cons_succ]
 refine wpAnyH_take (i := 28) (oi := { dst := (some 41), op := (Op.fieldAddr 23 (Operand.tmp 4) 0), type := 0, pos := "mem.go:102", after := #[{ on := 27, ground := Ground.guard }], guard := (some (27, false)) }) rfl (by kernel_rfl) (by kernel_rfl) (by kernel_rfl) (fun _ _ _ h => h) (Or.inr ⟨by rfl, rfl⟩) hHeld ?_
 try simp only [Act.put, List.setIfInBounds_toArray, List.set_cons_zero, List.set_cons_succ]
 refine wpAnyH_take (i := 29) (oi := { dst := (some 42), op := (Op.load 2 (Operand.tmp 41)), type := 2, pos := "mem.go:102", after := #[{ on := 28, ground := Ground.data }, { on := 27, ground := Ground.guard }], guard := (some (27, false)) }) rfl (by kernel_rfl) (by kernel_rfl) (by kernel_rfl) (fun _ _ _ h => h) (Or.inr ⟨by rfl, rfl⟩) hHeld ?_
 try simp only [Act.put, List.setIfInBounds_toArray, List.set_cons_zero, List.set_cons_succ]
 refine wpAnyH_take (i := 30) (oi := { dst := (some 43), op := (Op.move (Operand.tmp 8)), type := 79, pos := "mem.go:102", after := #[{ on := 27, ground := Ground.guard }], guard := (some (27, false)) }) rfl (by kernel_rfl) (by kernel_rfl) (by kernel_rfl) (fun _ _ _ h => h) (Or.inr ⟨by rfl, rfl⟩) hHeld ?_
 try simp only [Act.put, List.setIfInBounds_toArray, List.set_cons_zero, List.set_cons_succ]
 refine wpAnyH_take (i := 31) (oi := { dst := (some 44), op := (Op.nilCheck (Operand.tmp 43)), type := 0, pos := "mem.go:102", after := #[{ on := 30, ground := Ground.data }, { on := 27, ground := Ground.guard }], guard := (some (27, false)) }) rfl (by kernel_rfl) (by kernel_rfl) (by kernel_rfl) (fun _ _ _ h => h) (Or.inr ⟨by rfl, rfl⟩) hHeld ?_
 try simp only [Act.put, List.setIfInBounds_toArray, List.set_cons_zero, List.set_cons_succ]
 refine wpAnyH_take (i := 32) (oi := { dst := (some 45), op := (Op.fieldAddr 75 (Operand.tmp 44) 1), type := 0, pos := "mem.go:102", after := #[{ on := 31, ground := Ground.data }, { on := 27, ground := Ground.guard }], guard := (some (27, false)) }) rfl (by kernel_rfl) (by kernel_rfl) (by kernel_rfl) (fun _ _ _ h => h) (Or.inr ⟨by rfl, rfl⟩) hHeld ?_
 try simp only [Act.put, List.setIfInBounds_toArray, List.set_cons_zero, List.set_cons_succ]
 refine wpAnyH_take (i := 33) (oi := { dst := (some 46), op := (Op.load 38 (Operand.tmp 45)), type := 38, pos := "mem.go:102", after := #[{ on := 32, ground := Ground.data }, { on := 27, ground := Ground.guard }], guard := (some (27, false)) }) rfl (by kernel_rfl) (by kernel_rfl) (by kernel_rfl) (fun _ _ _ h => h) (Or.inr ⟨by rfl, rfl⟩) hHeld ?_
 try simp only [Act.put, List.setIfInBounds_toArray, List.set_cons_zero, List.set_cons_succ]
 refine wpAnyH_take (i := 34) (oi := { dst := (some 47), op := (Op.call { callee := (Callee.builtin Builtin.len), args := #[(Operand.tmp 46)], argTypes := #[38] }), type := 3, pos := "mem.go:102", after := #[{ on := 33, ground := Ground.data }, { on := 27, ground := Ground.guard }], guard := (some (27, false)) }) rfl (by kernel_rfl) (by kernel_rfl) (by kernel_rfl) (fun _ _ _ h => h) (Or.inr ⟨by rfl, rfl⟩) hHeld ?_
 try simp only [Act.put, List.setIfInBounds_toArray, List.set_cons_zero, List.set_cons_succ]
 refine wpAnyH_take (i := 35) (oi := { dst := (some 48), op := (Op.move (Operand.tmp 2)), type := 2, pos := "mem.go:102", after := #[{ on := 27, ground := Ground.guard }], guard := (some (27, false)) }) rfl (by kernel_rfl) (by kernel_rfl) (by kernel_rfl) (fun _ _ _ h => h) (Or.inr ⟨by rfl, rfl⟩) hHeld ?_
 try simp only [Act.put, List.setIfInBounds_toArray, List.set_cons_zero, List.set_cons_succ]
 refine wpAnyH_take (i := 36) (oi := { dst := (some 49), op := (Op.binOp BinOp.sub 2 (Operand.tmp 47) (Operand.tmp 48) 2), type := 2, pos := "mem.go:102", after := #[{ on := 34, ground := Ground.data }, { on := 35, ground := Ground.data }, { on := 27, ground := Ground.guard }], guard := (some (27, false)) }) rfl (by kernel_rfl) (by kernel_rfl) (by kernel_rfl) (fun _ _ _ h => h) (Or.inr ⟨by rfl, rfl⟩) hHeld ?_
 try simp only [Act.put, List.setIfInBounds_toArray, List.set_cons_zero, List.set_cons_succ]
 refine wpAnyH_take (i := 37) (oi := { dst := (some 50), op := (Op.binOp BinOp.gtr 2 (Operand.tmp 42) (Operand.tmp 49) 2), type := 4, pos := "mem.go:102", after := #[{ on := 29, ground := Ground.data }, { on := 36, ground := Ground.data }, { on := 27, ground := Ground.guard }], guard := (some (27, false)) }) rfl (by kernel_rfl) (by kernel_rfl) (by kernel_rfl) (fun _ _ _ h => h) (Or.inr ⟨by rfl, rfl⟩) hHeld ?_
 try simp only [Act.put, List.setIfInBounds_toArray, List.set_cons_zero, List.set_cons_succ]
 refine wpAnyH_take (i := 38) (oi := { dst := (some 51), op := (Op.pick (Operand.tmp 40) (Operand.const (Value.bool true)) (Operand.tmp 50)), type := 4, pos := "mem.go:102", after := #[{ on := 27, ground := Ground.data }, { on := 37, ground := Ground.data }], guard := none }) (v := ?_) rfl (by kernel_rfl) (by kernel_rfl) (by kernel_rfl) (fun _ _ _ h => h) (Or.inl ⟨by rfl, ?_⟩) hHeld ?_
 rotate_left
 ·intro w hSw; (try dsimp only at hSw); go_simp; try with_reducible rfl
 try simp only [Act.put, List.setIfInBounds_toArray, List.set_cons_zero, List.set_cons_succ]
 refine wpAnyH_done (by kernel_rfl) ?_ _
 go_wp2_with fail
 exact bodyPost_ret (v := .tuple #[.slice none 0 0, .bool false]) (by simp [results, Try.results37, go_sem]) rfl ⟨rfl, HQ.out _ hHeld⟩
set_option maxRecDepth 100000 in
set_option maxHeartbeats 4000000 in
theorem part_gone (p : Vl) (n : Int) (gm g cap : Nat) (bs : List Blk) (b : Blk) (w : World) (hM : IsMem w gm (.slice (some ⟨g, 0, none⟩) bs.length cap) bs) (hp : (decide (0 < p.b) && p.f == 0) = true) (hb : bs[p.b.toNat - 1]? = some b) (hs : b.n ≤ 4096) (ht : b.there = false) :
  Calls Try.prog 37 #[.pointer (some ⟨gm, 0, none⟩), .agg #[.int .i64 p.n, .int .i64 p.b, .int .i64 p.f], .int .i64 n] w fun e w' => e = .returned (.tuple #[.slice none 0 0, .bool false]) ∧ Below w.heap.size w w' := by
 have hp0 : 0 < p.b := by simp at hp; exact hp.1
 have hlt : p.b ≤ bs.length := by have := (List.getElem?_eq_some_iff.1 hb).1; omega
 obtain ⟨g', cap', hv, _, _, _, hf⟩ := hM.form (by omega)
 cases hv
 have hr1 := hf _ _ hb 1 _ rfl
 have hr2 := hf _ _ hb 2 _ rfl
 rw [Nat.mul_comm 3] at hr1 hr2
 have HR1 := Aside0.mk hr1
 have HR2 := Aside0.mk hr2
 have HP0 := Aside0.mk hp0
 have HLT := Aside0.mk hlt
 clear hf hr1 hr2 hb hp0 hlt
 have hB := Aside0.mk (q10 (Below.refl w.heap.size w) (.cells #[.int .i64 p.n, .int .i64 p.b, .int .i64 p.f] 23))
 have hX := Aside0.mk (q33 w (.cells #[.int .i64 p.n, .int .i64 p.b, .int .i64 p.f] 23))
 have HM := Aside0.mk (IsMem.alloc hM (.cells #[.int .i64 p.n, .int .i64 p.b, .int .i64 p.f] 23))
 clear hM
 go_enter Try.func37, Try.ntmps37
 go_upto_region 1 with (fail)
 replace HR1 := Aside0.mk (q22 (q10 (Below.refl w.heap.size w) (.cells #[.int .i64 p.n, .int .i64 p.b, .int .i64 p.f] 23)) HR1.out)
 replace HR2 := Aside0.mk (q22 (q10 (Below.refl w.heap.size w) (.cells #[.int .i64 p.n, .int .i64 p.b, .int .i64 p.f] 23)) HR2.out)
 generalize w.alloc (.cells #[.int .i64 p.n, .int .i64 p.b, .int .i64 p.f] 23) = W at hB hX HM HR1 HR2 ⊢
 have hx := cell3 hX.out
 go_upto_region 2 with (first | (go_at_call 35; refine (find_hit _ gm g cap bs _ HM.out (by have := HP0.out; omega) HLT.out).mono ?_))
 rintro e w1 ⟨rfl, rfl⟩
 have hS : (w1.cell? ⟨w.heap.size, 0, none⟩ = some (.int .i64 p.n) ∧ w1.cell? ⟨w.heap.size, 1, none⟩ = some (.int .i64 p.b) ∧ w1.cell? ⟨w.heap.size, 2, none⟩ = some (.int .i64 p.f) ∧ w1.cell? ⟨g, (p.b.toNat - 1) * 3 + 1, none⟩ = some (.slice (some ⟨b.gb, 0, none⟩) b.n b.n) ∧ w1.cell? ⟨g, (p.b.toNat - 1) * 3 + 2, none⟩ = some (.bool b.there) ∧ Below w.heap.size w w1) := ⟨hx.1, hx.2.1, hx.2.2, HR1.out, HR2.out, hB.out⟩
 clear hx hX hB HM HR1 HR2 HP0 HLT
 have HK := Aside0.mk (show ∀ Wa Wb : World, Below Wa.heap.size Wa Wb → (Wa.cell? ⟨w.heap.size, 0, none⟩ = some (.int .i64 p.n) ∧ Wa.cell? ⟨w.heap.size, 1, none⟩ = some (.int .i64 p.b) ∧ Wa.cell? ⟨w.heap.size, 2, none⟩ = some (.int .i64 p.f) ∧ Wa.cell? ⟨g, (p.b.toNat - 1) * 3 + 1, none⟩ = some (.slice (some ⟨b.gb, 0, none⟩) b.n b.n) ∧ Wa.cell? ⟨g, (p.b.toNat - 1) * 3 + 2, none⟩ = some (.bool b.there) ∧ Below w.heap.size w Wa) → (Wb.cell? ⟨w.heap.size, 0, none⟩ = some (.int .i64 p.n) ∧ Wb.cell? ⟨w.heap.size, 1, none⟩ = some (.int .i64 p.b) ∧ Wb.cell? ⟨w.heap.size, 2, none⟩ = some (.int .i64 p.f) ∧ Wb.cell? ⟨g, (p.b.toNat - 1) * 3 + 1, none⟩ = some (.slice (some ⟨b.gb, 0, none⟩) b.n b.n) ∧ Wb.cell? ⟨g, (p.b.toNat - 1) * 3 + 2, none⟩ = some (.bool b.there) ∧ Below w.heap.size w Wb) from fun _ _ hb h => ⟨q22 hb h.1, q22 hb h.2.1, q22 hb h.2.2.1, q22 hb h.2.2.2.1, q22 hb h.2.2.2.2.1, q20 h.2.2.2.2.2 hb⟩)
 have HQ := Aside0.mk (show ∀ Wa : World, (Wa.cell? ⟨w.heap.size, 0, none⟩ = some (.int .i64 p.n) ∧ Wa.cell? ⟨w.heap.size, 1, none⟩ = some (.int .i64 p.b) ∧ Wa.cell? ⟨w.heap.size, 2, none⟩ = some (.int .i64 p.f) ∧ Wa.cell? ⟨g, (p.b.toNat - 1) * 3 + 1, none⟩ = some (.slice (some ⟨b.gb, 0, none⟩) b.n b.n) ∧ Wa.cell? ⟨g, (p.b.toNat - 1) * 3 + 2, none⟩ = some (.bool b.there) ∧ Below w.heap.size w Wa) → Below w.heap.size w Wa from fun _ h => h.2.2.2.2.2)
 go_wp2_with fail
 refine wp_region_held_drew (S := fun w' => w'.cell? ⟨w.heap.size, 0, none⟩ = some (.int .i64 p.n) ∧ w'.cell? ⟨w.heap.size, 1, none⟩ = some (.int .i64 p.b) ∧ w'.cell? ⟨w.heap.size, 2, none⟩ = some (.int .i64 p.f) ∧ w'.cell? ⟨g, (p.b.toNat - 1) * 3 + 1, none⟩ = some (.slice (some ⟨b.gb, 0, none⟩) b.n b.n) ∧ w'.cell? ⟨g, (p.b.toNat - 1) * 3 + 2, none⟩ = some (.bool b.there) ∧ Below w.heap.size w w') (by kernel_rfl) ⟨hS.1, hS.2.1, hS.2.2.1, hS.2.2.2.1, hS.2.2.2.2.1, q39 hS.2.2.2.2.2⟩ (fun hHeld => ?_)
 refine wpAnyH_take (i := 0) (oi := { dst := (some 13), op := (Op.load 23 (Operand.tmp 4)), type := 23, pos := "mem.go:102", after := #[], guard := none }) (v := ?_) rfl (by kernel_rfl) (by kernel_rfl) (by kernel_rfl) (fun _ _ _ h => h) (Or.inl ⟨by rfl, ?_⟩) hHeld ?_
 rotate_left
 ·intro w hSw; (try dsimp only at hSw); go_simp; try with_reducible rfl
 try simp only [Act.put, List.setIfInBounds_toArray, List.set_cons_zero, List.set_cons_succ]
 refine wpAnyH_ready (rs := [1]) (by kernel_rfl) (by simp) ?_
 refine AllReadyH.cons (o := { dst := (some 14), op := (Op.call { callee := (Callee.value (Operand.func 34)), args := #[(Operand.tmp 13)], argTypes := #[23] }), type := 4, pos := "mem.go:102", after := #[{ on := 0, ground := Ground.data }], guard := none }) rfl (fun K hK => ?_) AllReadyH.nil
 go_simp
 refine (q34 p _).mono ?_
 rintro e w2 ⟨rfl, hb2⟩
 go_wp2_with fail
 refine hK.out _ _ (HK.out _ _ hb2 hHeld) (fun hHeld => ?_)
 clear hK K
 try simp only [Act.put, List.setIfInBounds_toArray, List.set_cons_zero, List.set_cons_succ]
 refine wpAnyH_take (i := 2) (oi := { dst := (some 15), op := (Op.unOp UnOp.not 4 (Operand.tmp 14)), type := 4, pos := "mem.go:102", after := #[{ on := 1, ground := Ground.data }], guard := none }) (v := ?_) rfl (by kernel_rfl) (by kernel_rfl) (by kernel_rfl) (fun _ _ _ h => h) (Or.inl ⟨by rfl, ?_⟩) hHeld ?_
 rotate_left
 ·intro w hSw; (try dsimp only at hSw); go_simp; try with_reducible rfl
 try simp only [Act.put, List.setIfInBounds_toArray, List.set_cons_zero, List.set_cons_succ]
 refine wpAnyH_take (i := 3) (oi := { dst := (some 16), op := (Op.move (Operand.tmp 15)), type := 4, pos := "mem.go:102", after := #[{ on := 2, ground := Ground.data }, { on := 1, ground := Ground.chain }], guard := none }) (v := ?_) rfl (by kernel_rfl) (by kernel_rfl) (by kernel_rfl) (fun _ _ _ h => h) (Or.inl ⟨by rfl, ?_⟩) hHeld ?_
 rotate_left
 ·intro w hSw; (try dsimp only at hSw); go_simp; try with_reducible rfl
 try simp only [Act.put, List.setIfInBounds_toArray, List.set_cons_zero, List.set_cons_succ]
 refine wpAnyH_take (i := 4) (oi := { dst := (some 17), op := (Op.move (Operand.tmp 8)), type := 79, pos := "mem.go:102", after := #[{ on := 3, ground := Ground.guard }], guard := (some (3, false)) }) (v := ?_) rfl (by kernel_rfl) (by kernel_rfl) (by kernel_rfl) (fun _ _ _ h => h) (Or.inl ⟨by rfl, ?_⟩) hHeld ?_
 rotate_left
 ·intro w hSw; (try dsimp only at hSw); go_simp; try with_reducible rfl
 try simp only [Act.put, List.setIfInBounds_toArray, List.set_cons_zero, List.set_cons_succ]
 refine wpAnyH_take (i := 5) (oi := { dst := (some 18), op := (Op.binOp BinOp.eql 79 (Operand.tmp 17) (Operand.const (Value.pointer none)) 79), type := 4, pos := "mem.go:102", after := #[{ on := 4, ground := Ground.data }, { on := 3, ground := Ground.guard }], guard := (some (3, false)) }) (v := ?_) rfl (by kernel_rfl) (by kernel_rfl) (by kernel_rfl) (fun _ _ _ h => h) (Or.inl ⟨by rfl, ?_⟩) hHeld ?_
 rotate_left
 ·intro w hSw; (try dsimp only at hSw); go_simp; try with_reducible rfl
 try simp only [Act.put, List.setIfInBounds_toArray, List.set_cons_zero, List.set_cons_succ]
 refine wpAnyH_take (i := 6) (oi := { dst := (some 19), op := (Op.pick (Operand.tmp 16) (Operand.const (Value.bool true)) (Operand.tmp 18)), type := 4, pos := "mem.go:102", after := #[{ on := 3, ground := Ground.data }, { on := 5, ground := Ground.data }], guard := none }) (v := ?_) rfl (by kernel_rfl) (by kernel_rfl) (by kernel_rfl) (fun _ _ _ h => h) (Or.inl ⟨by rfl, ?_⟩) hHeld ?_
 rotate_left
 ·intro w hSw; (try dsimp only at hSw); go_simp; try with_reducible rfl
 try simp only [Act.put, List.setIfInBounds_toArray, List.set_cons_zero, List.set_cons_succ]
 refine wpAnyH_take (i := 7) (oi := { dst := (some 20), op := (Op.move (Operand.tmp 19)), type := 4, pos := "mem.go:102", after := #[{ on := 6, ground := Ground.data }, { on := 3, ground := Ground.chain }], guard := none }) (v := ?_) rfl (by kernel_rfl) (by kernel_rfl) (by kernel_rfl) (fun _ _ _ h => h) (Or.inl ⟨by rfl, ?_⟩) hHeld ?_
 rotate_left
 ·intro w hSw; (try dsimp only at hSw); go_simp; try with_reducible rfl
 try simp only [Act.put, List.setIfInBounds_toArray, List.set_cons_zero, List.set_cons_succ]
 refine wpAnyH_take (i := 8) (oi := { dst := (some 21), op := (Op.move (Operand.tmp 8)), type := 79, pos := "mem.go:102", after := #[{ on := 7, ground := Ground.guard }], guard := (some (7, false)) }) (v := ?_) rfl (by kernel_rfl) (by kernel_rfl) (by kernel_rfl) (fun _ _ _ h => h) (Or.inl ⟨by rfl, ?_⟩) hHeld ?_
 rotate_left
 ·intro w hSw; (try dsimp only at hSw); go_simp; try with_reducible rfl
 try simp only [Act.put, List.setIfInBounds_toArray, List.set_cons_zero, List.set_cons_succ]
 refine wpAnyH_take (i := 9) (oi := { dst := (some 22), op := (Op.nilCheck (Operand.tmp 21)), type := 0, pos := "mem.go:102", after := #[{ on := 8, ground := Ground.data }, { on := 7, ground := Ground.guard }], guard := (some (7, false)) }) (v := ?_) rfl (by kernel_rfl) (by kernel_rfl) (by kernel_rfl) (fun _ _ _ h => h) (Or.inl ⟨by rfl, ?_⟩) hHeld ?_
 rotate_left
 ·intro w hSw; (try dsimp only at hSw); go_simp; try with_reducible rfl
 try simp only [Act.put, List.setIfInBounds_toArray, List.set_cons_zero, List.set_cons_succ]
 refine wpAnyH_take (i := 10) (oi := { dst := (some 23), op := (Op.fieldAddr 75 (Operand.tmp 22) 2), type := 0, pos := "mem.go:102", after := #[{ on := 9, ground := Ground.data }, { on := 7, ground := Ground.guard }], guard := (some (7, false)) }) (v := ?_) rfl (by kernel_rfl) (by kernel_rfl) (by kernel_rfl) (fun _ _ _ h => h) (Or.inl ⟨by rfl, ?_⟩) hHeld ?_
 rotate_left
 ·intro w hSw; (try dsimp only at hSw); go_simp; try with_reducible rfl
 try simp only [Act.put, List.setIfInBounds_toArray, List.set_cons_zero, List.set_cons_succ]
 refine wpAnyH_take (i := 11) (oi := { dst := (some 24), op := (Op.load 4 (Operand.tmp 23)), type := 4, pos := "mem.go:102", after := #[{ on := 10, ground := Ground.data }, { on := 7, ground := Ground.guard }], guard := (some (7, false)) }) (v := ?_) rfl (by kernel_rfl) (by kernel_rfl) (by kernel_rfl) (fun _ _ _ h => h) (Or.inl ⟨by rfl, ?_⟩) hHeld ?_
 rotate_left
 ·intro w hSw; (try dsimp only at hSw); go_simp; try with_reducible rfl
 try simp only [Act.put, List.setIfInBounds_toArray, List.set_cons_zero, List.set_cons_succ]
 refine wpAnyH_take (i := 12) (oi := { dst := (some 25), op := (Op.unOp UnOp.not 4 (Operand.tmp 24)), type := 4, pos := "mem.go:102", after := #[{ on := 11, ground := Ground.data }, { on := 7, ground := Ground.guard }], guard := (some (7, false)) }) (v := ?_) rfl (by kernel_rfl) (by kernel_rfl) (by kernel_rfl) (fun _ _ _ h => h) (Or.inl ⟨by rfl, ?_⟩) hHeld ?_
 rotate_left
 ·intro w hSw; (try dsimp only at hSw); go_simp; try with_reducible rfl
 try simp only [Act.put, List.setIfInBounds_toArray, List.set_cons_zero, List.set_cons_succ]
 refine wpAnyH_take (i := 13) (oi := { dst := (some 26), op := (Op.pick (Operand.tmp 20) (Operand.const (Value.bool true)) (Operand.tmp 25)), type := 4, pos := "mem.go:102", after := #[{ on := 7, ground := Ground.data }, { on := 12, ground := Ground.data }], guard := none }) (v := ?_) rfl (by kernel_rfl) (by kernel_rfl) (by kernel_rfl) (fun _ _ _ h => h) (Or.inl ⟨by rfl, ?_⟩) hHeld ?_
 rotate_left
 ·intro w hSw; (try dsimp only at hSw); go_simp; try with_reducible rfl
 try simp only [Act.put, List.setIfInBounds_toArray, List.set_cons_zero, List.set_cons_succ]
 refine wpAnyH_take (i := 14) (oi := { dst := (some 27), op := (Op.move (Operand.tmp 26)), type := 4, pos := "mem.go:102", after := #[{ on := 13, ground := Ground.data }, { on := 7, ground := Ground.chain }], guard := none }) (v := ?_) rfl (by kernel_rfl) (by kernel_rfl) (by kernel_rfl) (fun _ _ _ h => h) (Or.inl ⟨by rfl, ?_⟩) hHeld ?_
 rotate_left
 ·intro w hSw; (try dsimp only at hSw); go_simp; try with_reducible rfl
 try simp only [Act.put, List.setIfInBounds_toArray, List.set_cons_zero, List.set_cons_succ]
 refine wpAnyH_take (i := 15) (oi := { dst := (some 28), op := (Op.move (Operand.tmp 2)), type := 2, pos := "mem.go:102", after := #[{ on := 14, ground := Ground.guard }], guard := (some (14, false)) }) rfl (by kernel_rfl) (by kernel_rfl) (by kernel_rfl) (fun _ _ _ h => h) (Or.inr ⟨by rfl, rfl⟩) hHeld ?_
 try simp only [Act.put, List.setIfInBounds_toArray, List.set_cons_zero, List.set_cons_succ]
 refine wpAnyH_take (i := 16) (oi := { dst := (some 29), op := (Op.binOp BinOp.lss 2 (Operand.tmp 28) (Operand.const (Value.int IntKind.i64 0)) 2), type := 4, pos := "mem.go:102", after := #[{ on := 15, ground := Ground.data }, { on := 14, ground := Ground.guard }], guard := (some (14, false)) }) rfl (by kernel_rfl) (by kernel_rfl) (by kernel_rfl) (fun _ _ _ h => h) (Or.inr ⟨by rfl, rfl⟩) hHeld ?_
 try simp only [Act.put, List.setIfInBounds_toArray, List.set_cons_zero, List.set_cons_succ]
 refine wpAnyH_take (i := 17) (oi := { dst := (some 30), op := (Op.pick (Operand.tmp 27) (Operand.const (Value.bool true)) (Operand.tmp 29)), type := 4, pos := "mem.go:102", after := #[{ on := 14, ground := Ground.data }, { on := 16, ground := Ground.data }], guard := none }) (v := ?_) rfl (by kernel_rfl) (by kernel_rfl) (by kernel_rfl) (fun _ _ _ h => h) (Or.inl ⟨by rfl, ?_⟩) hHeld ?_
 rotate_left
 ·intro w hSw; (try dsimp only at hSw); go_simp; try with_reducible rfl
 try simp only [Act.put, List.setIfInBounds_toArray, List.set_cons_zero, List.set_cons_succ]
 refine wpAnyH_take (i := 18) (oi := { dst := (some 31), op := (Op.move (Operand.tmp 30)), type := 4, pos := "mem.go:102", after := #[{ on := 17, ground := Ground.data }, { on := 14, ground := Ground.chain }], guard := none }) (v := ?_) rfl (by kernel_rfl) (by kernel_rfl) (by kernel_rfl) (fun _ _ _ h => h) (Or.inl ⟨by rfl, ?_⟩) hHeld ?_
 rotate_left
 ·intro w hSw; (try dsimp only at hSw); go_simp; try with_reducible rfl
 try simp only [Act.put, List.setIfInBounds_toArray, List.set_cons_zero, List.set_cons_succ]
 refine wpAnyH_take (i := 19) (oi := { dst := (some 32), op := (Op.move (Operand.tmp 2)), type := 2, pos := "mem.go:102", after := #[{ on := 18, ground := Ground.guard }], guard := (some (18, false)) }) rfl (by kernel_rfl) (by kernel_rfl) (by kernel_rfl) (fun _ _ _ h => h) (Or.inr ⟨by rfl, rfl⟩) hHeld ?_
 try simp only [Act.put, List.setIfInBounds_toArray, List.set_cons_zero, List.set_cons_succ]
 refine wpAnyH_take (i := 20) (oi := { dst := (some 33), op := (Op.binOp BinOp.gtr 2 (Operand.tmp 32) (Operand.const (Value.int IntKind.i64 4096)) 2), type := 4, pos := "mem.go:102", after := #[{ on := 19, ground := Ground.data }, { on := 18, ground := Ground.guard }], guard := (some (18, false)) }) rfl (by kernel_rfl) (by kernel_rfl) (by kernel_rfl) (fun _ _ _ h => h) (Or.inr ⟨by rfl, rfl⟩) hHeld ?_
 try simp only [Act.put, List.setIfInBounds_toArray, List.set_cons_zero, List.set_cons_succ]
 refine wpAnyH_take (i := 21) (oi := { dst := (some 34), op := (Op.pick (Operand.tmp 31) (Operand.const (Value.bool true)) (Operand.tmp 33)), type := 4, pos := "mem.go:102", after := #[{ on := 18, ground := Ground.data }, { on := 20, ground := Ground.data }], guard := none }) (v := ?_) rfl (by kernel_rfl) (by kernel_rfl) (by kernel_rfl) (fun _ _ _ h => h) (Or.inl ⟨by rfl, ?_⟩) hHeld ?_
 rotate_left
 ·intro w hSw; (try dsimp only at hSw); go_simp; try with_reducible rfl
 try simp only [Act.put, List.setIfInBounds_toArray, List.set_cons_zero, List.set_cons_succ]
 refine wpAnyH_take (i := 22) (oi := { dst := (some 35), op := (Op.move (Operand.tmp 34)), type := 4, pos := "mem.go:102", after := #[{ on := 21, ground := Ground.data }, { on := 18, ground := Ground.chain }], guard := none }) (v := ?_) rfl (by kernel_rfl) (by kernel_rfl) (by kernel_rfl) (fun _ _ _ h => h) (Or.inl ⟨by rfl, ?_⟩) hHeld ?_
 rotate_left
 ·intro w hSw; (try dsimp only at hSw); go_simp; try with_reducible rfl
 try simp only [Act.put, List.setIfInBounds_toArray, List.set_cons_zero, List.set_cons_succ]
 refine wpAnyH_take (i := 23) (oi := { dst := (some 36), op := (Op.fieldAddr 23 (Operand.tmp 4) 0), type := 0, pos := "mem.go:102", after := #[{ on := 22, ground := Ground.guard }], guard := (some (22, false)) }) rfl (by kernel_rfl) (by kernel_rfl) (by kernel_rfl) (fun _ _ _ h => h) (Or.inr ⟨by rfl, rfl⟩) hHeld ?_
 try simp only [Act.put, List.setIfInBounds_toArray, List.set_cons_zero, List.set_cons_succ]
 refine wpAnyH_take (i := 24) (oi := { dst := (some 37), op := (Op.load 2 (Operand.tmp 36)), type := 2, pos := "mem.go:102", after := #[{ on := 23, ground := Ground.data }, { on := 22, ground := Ground.guard }], guard := (some (22, false)) }) rfl (by kernel_rfl) (by kernel_rfl) (by kernel_rfl) (fun _ _ _ h => h) (Or.inr ⟨by rfl, rfl⟩) hHeld ?_
 try simp only [Act.put, List.setIfInBounds_toArray, List.set_cons_zero, List.set_cons_succ]
 refine wpAnyH_take (i := 25) (oi := { dst := (some 38), op := (Op.binOp BinOp.lss 2 (Operand.tmp 37) (Operand.const (Value.int IntKind.i64 0)) 2), type := 4, pos := "mem.go:102", after := #[{ on := 24, ground := Ground.data }, { on := 22, ground := Ground.guard }], guard := (some (22, false)) }) rfl (by kernel_rfl) (by kernel_rfl) (by kernel_rfl) (fun _ _ _ h => h) (Or.inr ⟨by rfl, rfl⟩) hHeld ?_
 try simp only [Act.put, List.setIfInBounds_toArray, List.set_cons_zero, List.set_cons_succ]
 refine wpAnyH_take (i := 26) (oi := { dst := (some 39), op := (Op.pick (Operand.tmp 35) (Operand.const (Value.bool true)) (Operand.tmp 38)), type := 4, pos := "mem.go:102", after := #[{ on := 22, ground := Ground.data }, { on := 25, ground := Ground.data }], guard := none }) (v := ?_) rfl (by kernel_rfl) (by kernel_rfl) (by kernel_rfl) (fun _ _ _ h => h) (Or.inl ⟨by rfl, ?_⟩) hHeld ?_
 rotate_left
 ·intro w hSw; (try dsimp only at hSw); go_simp; try with_reducible rfl
 try simp only [Act.put, List.setIfInBounds_toArray, List.set_cons_zero, List.set_cons_succ]
 refine wpAnyH_take (i := 27) (oi := { dst := (some 40), op := (Op.move (Operand.tmp 39)), type := 4, pos := "mem.go:102", after := #[{ on := 26, ground := Ground.data }, { on := 22, ground := Ground.chain }], guard := none }) (v := ?_) rfl (by kernel_rfl) (by kernel_rfl) (by kernel_rfl) (fun _ _ _ h => h) (Or.inl ⟨by rfl, ?_⟩) hHeld ?_
 rotate_left
 ·intro w hSw; (try dsimp only at hSw); go_simp; try with_reducible rfl
 try simp only [Act.put, List.setIfInBounds_toArray, List.set_cons_zero, List.set_cons_succ]
 refine wpAnyH_take (i := 28) (oi := { dst := (some 41), op := (Op.fieldAddr 23 (Operand.tmp 4) 0), type := 0, pos := "mem.go:102", after := #[{ on := 27, ground := Ground.guard }], guard := (some (27, false)) }) rfl (by kernel_rfl) (by kernel_rfl) (by kernel_rfl) (fun _ _ _ h => h) (Or.inr ⟨by rfl, rfl⟩) hHeld ?_
 try simp only [Act.put, List.setIfInBounds_toArray, List.set_cons_zero, List.set_cons_succ]
 refine wpAnyH_take (i := 29) (oi := { dst := (some 42), op := (Op.load 2 (Operand.tmp 41)), type := 2, pos := "mem.go:102", after := #[{ on := 28, ground := Ground.data }, { on := 27, ground := Ground.guard }], guard := (some (27, false)) }) rfl (by kernel_rfl) (by kernel_rfl) (by kernel_rfl) (fun _ _ _ h => h) (Or.inr ⟨by rfl, rfl⟩) hHeld ?_
 try simp only [Act.put, List.setIfInBounds_toArray, List.set_cons_zero, List.set_cons_succ]
 refine wpAnyH_take (i := 30) (oi := { dst := (some 43), op := (Op.move (Operand.tmp 8)), type := 79, pos := "mem.go:102", after := #[{ on := 27, ground := Ground.guard }], guard := (some (27, false)) }) rfl (by kernel_rfl) (by kernel_rfl) (by kernel_rfl) (fun _ _ _ h => h) (Or.inr ⟨by rfl, rfl⟩) hHeld ?_
 try simp only [Act.put, List.setIfInBounds_toArray, List.set_cons_zero, List.set_cons_succ]
 refine wpAnyH_take (i := 31) (oi := { dst := (some 44), op := (Op.nilCheck (Operand.tmp 43)), type := 0, pos := "mem.go:102", after := #[{ on := 30, ground := Ground.data }, { on := 27, ground := Ground.guard }], guard := (some (27, false)) }) rfl (by kernel_rfl) (by kernel_rfl) (by kernel_rfl) (fun _ _ _ h => h) (Or.inr ⟨by rfl, rfl⟩) hHeld ?_
 try simp only [Act.put, List.setIfInBounds_toArray, List.set_cons_zero, List.set_cons_succ]
 refine wpAnyH_take (i := 32) (oi := { dst := (some 45), op := (Op.fieldAddr 75 (Operand.tmp 44) 1), type := 0, pos := "mem.go:102", after := #[{ on := 31, ground := Ground.data }, { on := 27, ground := Ground.guard }], guard := (some (27, false)) }) rfl (by kernel_rfl) (by kernel_rfl) (by kernel_rfl) (fun _ _ _ h => h) (Or.inr ⟨by rfl, rfl⟩) hHeld ?_
 try simp only [Act.put, List.setIfInBounds_toArray, List.set_cons_zero, List.set_cons_succ]
 refine wpAnyH_take (i := 33) (oi := { dst := (some 46), op := (Op.load 38 (Operand.tmp 45)), type := 38, pos := "mem.go:102", after := #[{ on := 32, ground := Ground.data }, { on := 27, ground := Ground.guard }], guard := (some (27, false)) }) rfl (by kernel_rfl) (by kernel_rfl) (by kernel_rfl) (fun _ _ _ h => h) (Or.inr ⟨by rfl, rfl⟩) hHeld ?_
 try simp only [Act.put, List.setIfInBounds_toArray, List.set_cons_zero, List.set_cons_succ]
 refine wpAnyH_take (i := 34) (oi := { dst := (some 47), op := (Op.call { callee := (Callee.builtin Builtin.len), args := #[(Operand.tmp 46)], argTypes := #[38] }), type := 3, pos := "mem.go:102", after := #[{ on := 33, ground := Ground.data }, { on := 27, ground := Ground.guard }], guard := (some (27, false)) }) rfl (by kernel_rfl) (by kernel_rfl) (by kernel_rfl) (fun _ _ _ h => h) (Or.inr ⟨by rfl, rfl⟩) hHeld ?_
 try simp only [Act.put, List.setIfInBounds_toArray, List.set_cons_zero, List.set_cons_succ]
 refine wpAnyH_take (i := 35) (oi := { dst := (some 48), op := (Op.move (Operand.tmp 2)), type := 2, pos := "mem.go:102", after := #[{ on := 27, ground := Ground.guard }], guard := (some (27, false)) }) rfl (by kernel_rfl) (by kernel_rfl) (by kernel_rfl) (fun _ _ _ h => h) (Or.inr ⟨by rfl, rfl⟩) hHeld ?_
 try simp only [Act.put, List.setIfInBounds_toArray, List.set_cons_zero, List.set_cons_succ]
 refine wpAnyH_take (i := 36) (oi := { dst := (some 49), op := (Op.binOp BinOp.sub 2 (Operand.tmp 47) (Operand.tmp 48) 2), type := 2, pos := "mem.go:102", after := #[{ on := 34, ground := Ground.data }, { on := 35, ground := Ground.data }, { on := 27, ground := Ground.guard }], guard := (some (27, false)) }) rfl (by kernel_rfl) (by kernel_rfl) (by kernel_rfl) (fun _ _ _ h => h) (Or.inr ⟨by rfl, rfl⟩) hHeld ?_
 try simp only [Act.put, List.setIfInBounds_toArray, List.set_cons_zero, List.set_cons_succ]
 refine wpAnyH_take (i := 37) (oi := { dst := (some 50), op := (Op.binOp BinOp.gtr 2 (Operand.tmp 42) (Operand.tmp 49) 2), type := 4, pos := "mem.go:102", after := #[{ on := 29, ground := Ground.data }, { on := 36, ground := Ground.data }, { on := 27, ground := Ground.guard }], guard := (some (27, false)) }) rfl (by kernel_rfl) (by kernel_rfl) (by kernel_rfl) (fun _ _ _ h => h) (Or.inr ⟨by rfl, rfl⟩) hHeld ?_
 try simp only [Act.put, List.setIfInBounds_toArray, List.set_cons_zero, List.set_cons_succ]
 refine wpAnyH_take (i := 38) (oi := { dst := (some 51), op := (Op.pick (Operand.tmp 40) (Operand.const (Value.bool true)) (Operand.tmp 50)), type := 4, pos := "mem.go:102", after := #[{ on := 27, ground := Ground.data }, { on := 37, ground := Ground.data }], guard := none }) (v := ?_) rfl (by kernel_rfl) (by kernel_rfl) (by kernel_rfl) (fun _ _ _ h => h) (Or.inl ⟨by rfl, ?_⟩) hHeld ?_
 rotate_left
 ·intro w hSw; (try dsimp only at hSw); go_simp; try with_reducible rfl
 try simp only [Act.put, List.setIfInBounds_toArray, List.set_cons_zero, List.set_cons_succ]
 refine wpAnyH_done (by kernel_rfl) ?_ _
 go_wp2_with fail
 exact bodyPost_ret (v := .tuple #[.slice none 0 0, .bool false]) (by simp [results, Try.results37, go_sem]) rfl ⟨rfl, HQ.out _ hHeld⟩
set_option maxRecDepth 100000 in
set_option maxHeartbeats 4000000 in
theorem part_neg (p : Vl) (n : Int) (gm g cap : Nat) (bs : List Blk) (b : Blk) (w : World) (hM : IsMem w gm (.slice (some ⟨g, 0, none⟩) bs.length cap) bs) (hp : (decide (0 < p.b) && p.f == 0) = true) (hb : bs[p.b.toNat - 1]? = some b) (hs : b.n ≤ 4096) (ht : b.there = true) (h4 : n < 0) :
  Calls Try.prog 37 #[.pointer (some ⟨gm, 0, none⟩), .agg #[.int .i64 p.n, .int .i64 p.b, .int .i64 p.f], .int .i64 n] w fun e w' => e = .returned (.tuple #[.slice none 0 0, .bool false]) ∧ Below w.heap.size w w' := by
 have hp0 : 0 < p.b := by simp at hp; exact hp.1
 have hlt : p.b ≤ bs.length := by have := (List.getElem?_eq_some_iff.1 hb).1; omega
 obtain ⟨g', cap', hv, _, _, _, hf⟩ := hM.form (by omega)
 cases hv
 have hr1 := hf _ _ hb 1 _ rfl
 have hr2 := hf _ _ hb 2 _ rfl
 rw [Nat.mul_comm 3] at hr1 hr2
 have HR1 := Aside0.mk hr1
 have HR2 := Aside0.mk hr2
 have HP0 := Aside0.mk hp0
 have HLT := Aside0.mk hlt
 clear hf hr1 hr2 hb hp0 hlt
 have q4 : decide (n < 0) = true := decide_eq_true (by omega)
 have hB := Aside0.mk (q10 (Below.refl w.heap.size w) (.cells #[.int .i64 p.n, .int .i64 p.b, .int .i64 p.f] 23))
 have hX := Aside0.mk (q33 w (.cells #[.int .i64 p.n, .int .i64 p.b, .int .i64 p.f] 23))
 have HM := Aside0.mk (IsMem.alloc hM (.cells #[.int .i64 p.n, .int .i64 p.b, .int .i64 p.f] 23))
 clear hM
 go_enter Try.func37, Try.ntmps37
 go_upto_region 1 with (fail)
 replace HR1 := Aside0.mk (q22 (q10 (Below.refl w.heap.size w) (.cells #[.int .i64 p.n, .int .i64 p.b, .int .i64 p.f] 23)) HR1.out)
 replace HR2 := Aside0.mk (q22 (q10 (Below.refl w.heap.size w) (.cells #[.int .i64 p.n, .int .i64 p.b, .int .i64 p.f] 23)) HR2.out)
 generalize w.alloc (.cells #[.int .i64 p.n, .int .i64 p.b, .int .i64 p.f] 23) = W at hB hX HM HR1 HR2 ⊢
 have hx := cell3 hX.out
 go_upto_region 2 with (first | (go_at_call 35; refine (find_hit _ gm g cap bs _ HM.out (by have := HP0.out; omega) HLT.out).mono ?_))
 rintro e w1 ⟨rfl, rfl⟩
 have hS : (w1.cell? ⟨w.heap.size, 0, none⟩ = some (.int .i64 p.n) ∧ w1.cell? ⟨w.heap.size, 1, none⟩ = some (.int .i64 p.b) ∧ w1.cell? ⟨w.heap.size, 2, none⟩ = some (.int .i64 p.f) ∧ w1.cell? ⟨g, (p.b.toNat - 1) * 3 + 1, none⟩ = some (.slice (some ⟨b.gb, 0, none⟩) b.n b.n) ∧ w1.cell? ⟨g, (p.b.toNat - 1) * 3 + 2, none⟩ = some (.bool b.there) ∧ Below w.heap.size w w1) := ⟨hx.1, hx.2.1, hx.2.2, HR1.out, HR2.out, hB.out⟩
 clear hx hX hB HM HR1 HR2 HP0 HLT
 have HK := Aside0.mk (show ∀ Wa Wb : World, Below Wa.heap.size Wa Wb → (Wa.cell? ⟨w.heap.size, 0, none⟩ = some (.int .i64 p.n) ∧ Wa.cell? ⟨w.heap.size, 1, none⟩ = some (.int .i64 p.b) ∧ Wa.cell? ⟨w.heap.size, 2, none⟩ = some (.int .i64 p.f) ∧ Wa.cell? ⟨g, (p.b.toNat - 1) * 3 + 1, none⟩ = some (.slice (some ⟨b.gb, 0, none⟩) b.n b.n) ∧ Wa.cell? ⟨g, (p.b.toNat - 1) * 3 + 2, none⟩ = some (.bool b.there) ∧ Below w.heap.size w Wa) → (Wb.cell? ⟨w.heap.size, 0, none⟩ = some (.int .i64 p.n) ∧ Wb.cell? ⟨w.heap.size, 1, none⟩ = some (.int .i64 p.b) ∧ Wb.cell? ⟨w.heap.size, 2, none⟩ = some (.int .i64 p.f) ∧ Wb.cell? ⟨g, (p.b.toNat - 1) * 3 + 1, none⟩ = some (.slice (some ⟨b.gb, 0, none⟩) b.n b.n) ∧ Wb.cell? ⟨g, (p.b.toNat - 1) * 3 + 2, none⟩ = some (.bool b.there) ∧ Below w.heap.size w Wb) from fun _ _ hb h => ⟨q22 hb h.1, q22 hb h.2.1, q22 hb h.2.2.1, q22 hb h.2.2.2.1, q22 hb h.2.2.2.2.1, q20 h.2.2.2.2.2 hb⟩)
 have HQ := Aside0.mk (show ∀ Wa : World, (Wa.cell? ⟨w.heap.size, 0, none⟩ = some (.int .i64 p.n) ∧ Wa.cell? ⟨w.heap.size, 1, none⟩ = some (.int .i64 p.b) ∧ Wa.cell? ⟨w.heap.size, 2, none⟩ = some (.int .i64 p.f) ∧ Wa.cell? ⟨g, (p.b.toNat - 1) * 3 + 1, none⟩ = some (.slice (some ⟨b.gb, 0, none⟩) b.n b.n) ∧ Wa.cell? ⟨g, (p.b.toNat - 1) * 3 + 2, none⟩ = some (.bool b.there) ∧ Below w.heap.size w Wa) → Below w.heap.size w Wa from fun _ h => h.2.2.2.2.2)
 go_wp2_with fail
 refine wp_region_held_drew (S := fun w' => w'.cell? ⟨w.heap.size, 0, none⟩ = some (.int .i64 p.n) ∧ w'.cell? ⟨w.heap.size, 1, none⟩ = some (.int .i64 p.b) ∧ w'.cell? ⟨w.heap.size, 2, none⟩ = some (.int .i64 p.f) ∧ w'.cell? ⟨g, (p.b.toNat - 1) * 3 + 1, none⟩ = some (.slice (some ⟨b.gb, 0, none⟩) b.n b.n) ∧ w'.cell? ⟨g, (p.b.toNat - 1) * 3 + 2, none⟩ = some (.bool b.there) ∧ Below w.heap.size w w') (by kernel_rfl) ⟨hS.1, hS.2.1, hS.2.2.1, hS.2.2.2.1, hS.2.2.2.2.1, q39 hS.2.2.2.2.2⟩ (fun hHeld => ?_)
 refine wpAnyH_take (i := 0) (oi := { dst := (some 13), op := (Op.load 23 (Operand.tmp 4)), type := 23, pos := "mem.go:102", after := #[], guard := none }) (v := ?_) rfl (by kernel_rfl) (by kernel_rfl) (by kernel_rfl) (fun _ _ _ h => h) (Or.inl ⟨by rfl, ?_⟩) hHeld ?_
 rotate_left
 ·intro w hSw; (try dsimp only at hSw); go_simp; try with_reducible rfl
 try simp only [Act.put, List.setIfInBounds_toArray, List.set_cons_zero, List.set_cons_succ]
 refine wpAnyH_ready (rs := [1]) (by kernel_rfl) (by simp) ?_
 refine AllReadyH.cons (o := { dst := (some 14), op := (Op.call { callee := (Callee.value (Operand.func 34)), args := #[(Operand.tmp 13)], argTypes := #[23] }), type := 4, pos := "mem.go:102", after := #[{ on := 0, ground := Ground.data }], guard := none }) rfl (fun K hK => ?_) AllReadyH.nil
 go_simp
 refine (q34 p _).mono ?_
 rintro e w2 ⟨rfl, hb2⟩
 go_wp2_with fail
 refine hK.out _ _ (HK.out _ _ hb2 hHeld) (fun hHeld => ?_)
 clear hK K
 try simp only [Act.put, List.setIfInBounds_toArray, List.set_cons_zero, List.set_cons_succ]
 refine wpAnyH_take (i := 2) (oi := { dst := (some 15), op := (Op.unOp UnOp.not 4 (Operand.tmp 14)), type := 4, pos := "mem.go:102", after := #[{ on := 1, ground := Ground.data }], guard := none }) (v := ?_) rfl (by kernel_rfl) (by kernel_rfl) (by kernel_rfl) (fun _ _ _ h => h) (Or.inl ⟨by rfl, ?_⟩) hHeld ?_
 rotate_left
 ·intro w hSw; (try dsimp only at hSw); go_simp; try with_reducible rfl
 try simp only [Act.put, List.setIfInBounds_toArray, List.set_cons_zero, List.set_cons_succ]
 refine wpAnyH_take (i := 3) (oi := { dst := (some 16), op := (Op.move (Operand.tmp 15)), type := 4, pos := "mem.go:102", after := #[{ on := 2, ground := Ground.data }, { on := 1, ground := Ground.chain }], guard := none }) (v := ?_) rfl (by kernel_rfl) (by kernel_rfl) (by kernel_rfl) (fun _ _ _ h => h) (Or.inl ⟨by rfl, ?_⟩) hHeld ?_
 rotate_left
 ·intro w hSw; (try dsimp only at hSw); go_simp; try with_reducible rfl
 try simp only [Act.put, List.setIfInBounds_toArray, List.set_cons_zero, List.set_cons_succ]
 refine wpAnyH_take (i := 4) (oi := { dst := (some 17), op := (Op.move (Operand.tmp 8)), type := 79, pos := "mem.go:102", after := #[{ on := 3, ground := Ground.guard }], guard := (some (3, false)) }) (v := ?_) rfl (by kernel_rfl) (by kernel_rfl) (by kernel_rfl) (fun _ _ _ h => h) (Or.inl ⟨by rfl, ?_⟩) hHeld ?_
 rotate_left
 ·intro w hSw; (try dsimp only at hSw); go_simp; try with_reducible rfl
 try simp only [Act.put, List.setIfInBounds_toArray, List.set_cons_zero, List.set_cons_succ]
 refine wpAnyH_take (i := 5) (oi := { dst := (some 18), op := (Op.binOp BinOp.eql 79 (Operand.tmp 17) (Operand.const (Value.pointer none)) 79), type := 4, pos := "mem.go:102", after := #[{ on := 4, ground := Ground.data }, { on := 3, ground := Ground.guard }], guard := (some (3, false)) }) (v := ?_) rfl (by kernel_rfl) (by kernel_rfl) (by kernel_rfl) (fun _ _ _ h => h) (Or.inl ⟨by rfl, ?_⟩) hHeld ?_
 rotate_left
 ·intro w hSw; (try dsimp only at hSw); go_simp; try with_reducible rfl
 try simp only [Act.put, List.setIfInBounds_toArray, List.set_cons_zero, List.set_cons_succ]
 refine wpAnyH_take (i := 6) (oi := { dst := (some 19), op := (Op.pick (Operand.tmp 16) (Operand.const (Value.bool true)) (Operand.tmp 18)), type := 4, pos := "mem.go:102", after := #[{ on := 3, ground := Ground.data }, { on := 5, ground := Ground.data }], guard := none }) (v := ?_) rfl (by kernel_rfl) (by kernel_rfl) (by kernel_rfl) (fun _ _ _ h => h) (Or.inl ⟨by rfl, ?_⟩) hHeld ?_
 rotate_left
 ·intro w hSw; (try dsimp only at hSw); go_simp; try with_reducible rfl
 try simp only [Act.put, List.setIfInBounds_toArray, List.set_cons_zero, List.set_cons_succ]
 refine wpAnyH_take (i := 7) (oi := { dst := (some 20), op := (Op.move (Operand.tmp 19)), type := 4, pos := "mem.go:102", after := #[{ on := 6, ground := Ground.data }, { on := 3, ground := Ground.chain }], guard := none }) (v := ?_) rfl (by kernel_rfl) (by kernel_rfl) (by kernel_rfl) (fun _ _ _ h => h) (Or.inl ⟨by rfl, ?_⟩) hHeld ?_
 rotate_left
 ·intro w hSw; (try dsimp only at hSw); go_simp; try with_reducible rfl
 try simp only [Act.put, List.setIfInBounds_toArray, List.set_cons_zero, List.set_cons_succ]
 refine wpAnyH_take (i := 8) (oi := { dst := (some 21), op := (Op.move (Operand.tmp 8)), type := 79, pos := "mem.go:102", after := #[{ on := 7, ground := Ground.guard }], guard := (some (7, false)) }) (v := ?_) rfl (by kernel_rfl) (by kernel_rfl) (by kernel_rfl) (fun _ _ _ h => h) (Or.inl ⟨by rfl, ?_⟩) hHeld ?_
 rotate_left
 ·intro w hSw; (try dsimp only at hSw); go_simp; try with_reducible rfl
 try simp only [Act.put, List.setIfInBounds_toArray, List.set_cons_zero, List.set_cons_succ]
 refine wpAnyH_take (i := 9) (oi := { dst := (some 22), op := (Op.nilCheck (Operand.tmp 21)), type := 0, pos := "mem.go:102", after := #[{ on := 8, ground := Ground.data }, { on := 7, ground := Ground.guard }], guard := (some (7, false)) }) (v := ?_) rfl (by kernel_rfl) (by kernel_rfl) (by kernel_rfl) (fun _ _ _ h => h) (Or.inl ⟨by rfl, ?_⟩) hHeld ?_
 rotate_left
 ·intro w hSw; (try dsimp only at hSw); go_simp; try with_reducible rfl
 try simp only [Act.put, List.setIfInBounds_toArray, List.set_cons_zero, List.set_cons_succ]
 refine wpAnyH_take (i := 10) (oi := { dst := (some 23), op := (Op.fieldAddr 75 (Operand.tmp 22) 2), type := 0, pos := "mem.go:102", after := #[{ on := 9, ground := Ground.data }, { on := 7, ground := Ground.guard }], guard := (some (7, false)) }) (v := ?_) rfl (by kernel_rfl) (by kernel_rfl) (by kernel_rfl) (fun _ _ _ h => h) (Or.inl ⟨by rfl, ?_⟩) hHeld ?_
 rotate_left
 ·intro w hSw; (try dsimp only at hSw); go_simp; try with_reducible rfl
 try simp only [Act.put, List.setIfInBounds_toArray, List.set_cons_zero, List.set_cons_succ]
 refine wpAnyH_take (i := 11) (oi := { dst := (some 24), op := (Op.load 4 (Operand.tmp 23)), type := 4, pos := "mem.go:102", after := #[{ on := 10, ground := Ground.data }, { on := 7, ground := Ground.guard }], guard := (some (7, false)) }) (v := ?_) rfl (by kernel_rfl) (by kernel_rfl) (by kernel_rfl) (fun _ _ _ h => h) (Or.inl ⟨by rfl, ?_⟩) hHeld ?_
 rotate_left
 ·intro w hSw; (try dsimp only at hSw); go_simp; try with_reducible rfl
 try simp only [Act.put, List.setIfInBounds_toArray, List.set_cons_zero, List.set_cons_succ]
 refine wpAnyH_take (i := 12) (oi := { dst := (some 25), op := (Op.unOp UnOp.not 4 (Operand.tmp 24)), type := 4, pos := "mem.go:102", after := #[{ on := 11, ground := Ground.data }, { on := 7, ground := Ground.guard }], guard := (some (7, false)) }) (v := ?_) rfl (by kernel_rfl) (by kernel_rfl) (by kernel_rfl) (fun _ _ _ h => h) (Or.inl ⟨by rfl, ?_⟩) hHeld ?_
 rotate_left
 ·intro w hSw; (try dsimp only at hSw); go_simp; try with_reducible rfl
 try simp only [Act.put, List.setIfInBounds_toArray, List.set_cons_zero, List.set_cons_succ]
 refine wpAnyH_take (i := 13) (oi := { dst := (some 26), op := (Op.pick (Operand.tmp 20) (Operand.const (Value.bool true)) (Operand.tmp 25)), type := 4, pos := "mem.go:102", after := #[{ on := 7, ground := Ground.data }, { on := 12, ground := Ground.data }], guard := none }) (v := ?_) rfl (by kernel_rfl) (by kernel_rfl) (by kernel_rfl) (fun _ _ _ h => h) (Or.inl ⟨by rfl, ?_⟩) hHeld ?_
 rotate_left
 ·intro w hSw; (try dsimp only at hSw); go_simp; try with_reducible rfl
 try simp only [Act.put, List.setIfInBounds_toArray, List.set_cons_zero, List.set_cons_succ]
 refine wpAnyH_take (i := 14) (oi := { dst := (some 27), op := (Op.move (Operand.tmp 26)), type := 4, pos := "mem.go:102", after := #[{ on := 13, ground := Ground.data }, { on := 7, ground := Ground.chain }], guard := none }) (v := ?_) rfl (by kernel_rfl) (by kernel_rfl) (by kernel_rfl) (fun _ _ _ h => h) (Or.inl ⟨by rfl, ?_⟩) hHeld ?_
 rotate_left
 ·intro w hSw; (try dsimp only at hSw); go_simp; try with_reducible rfl
 try simp only [Act.put, List.setIfInBounds_toArray, List.set_cons_zero, List.set_cons_succ]
 refine wpAnyH_take (i := 15) (oi := { dst := (some 28), op := (Op.move (Operand.tmp 2)), type := 2, pos := "mem.go:102", after := #[{ on := 14, ground := Ground.guard }], guard := (some (14, false)) }) (v := ?_) rfl (by kernel_rfl) (by kernel_rfl) (by kernel_rfl) (fun _ _ _ h => h) (Or.inl ⟨by rfl, ?_⟩) hHeld ?_
 rotate_left
 ·intro w hSw; (try dsimp only at hSw); go_simp; try with_reducible rfl
 try simp only [Act.put, List.setIfInBounds_toArray, List.set_cons_zero, List.set_cons_succ]
 refine wpAnyH_take (i := 16) (oi := { dst := (some 29), op := (Op.binOp BinOp.lss 2 (Operand.tmp 28) (Operand.const (Value.int IntKind.i64 0)) 2), type := 4, pos := "mem.go:102", after := #[{ on := 15, ground := Ground.data }, { on := 14, ground := Ground.guard }], guard := (some (14, false)) }) (v := ?_) rfl (by kernel_rfl) (by kernel_rfl) (by kernel_rfl) (fun _ _ _ h => h) (Or.inl ⟨by rfl, ?_⟩) hHeld ?_
 rotate_left
 ·intro w hSw; (try dsimp only at hSw); go_simp; try with_reducible rfl
 try simp only [Act.put, List.setIfInBounds_toArray, List.set_cons_zero, List.set_cons_succ]
 refine wpAnyH_take (i := 17) (oi := { dst := (some 30), op := (Op.pick (Operand.tmp 27) (Operand.const (Value.bool true)) (Operand.tmp 29)), type := 4, pos := "mem.go:102", after := #[{ on := 14, ground := Ground.data }, { on := 16, ground := Ground.data }], guard := none }) (v := ?_) rfl (by kernel_rfl) (by kernel_rfl) (by kernel_rfl) (fun _ _ _ h => h) (Or.inl ⟨by rfl, ?_⟩) hHeld ?_
 rotate_left
 ·intro w hSw; (try dsimp only at hSw); go_simp; try with_reducible rfl
 try simp only [Act.put, List.setIfInBounds_toArray, List.set_cons_zero, List.set_cons_succ]
 refine wpAnyH_take (i := 18) (oi := { dst := (some 31), op := (Op.move (Operand.tmp 30)), type := 4, pos := "mem.go:102", after := #[{ on := 17, ground := Ground.data }, { on := 14, ground := Ground.chain }], guard := none }) (v := ?_) rfl (by kernel_rfl) (by kernel_rfl) (by kernel_rfl) (fun _ _ _ h => h) (Or.inl ⟨by rfl, ?_⟩) hHeld ?_
 rotate_left
 ·intro w hSw; (try dsimp only at hSw); go_simp; try with_reducible rfl
 try simp only [Act.put, List.setIfInBounds_toArray, List.set_cons_zero, List.set_cons_succ]
 refine wpAnyH_take (i := 19) (oi := { dst := (some 32), op := (Op.move (Operand.tmp 2)), type := 2, pos := "mem.go:102", after := #[{ on := 18, ground := Ground.guard }], guard := (some (18, false)) }) rfl (by kernel_rfl) (by kernel_rfl) (by kernel_rfl) (fun _ _ _ h => h) (Or.inr ⟨by rfl, rfl⟩) hHeld ?_
 try simp only [Act.put, List.setIfInBounds_toArray, List.set_cons_zero, List.set_cons_succ]
 refine wpAnyH_take (i := 20) (oi := { dst := (some 33), op := (Op.binOp BinOp.gtr 2 (Operand.tmp 32) (Operand.const (Value.int IntKind.i64 4096)) 2), type := 4, pos := "mem.go:102", after := #[{ on := 19, ground := Ground.data }, { on := 18, ground := Ground.guard }], guard := (some (18, false)) }) rfl (by kernel_rfl) (by kernel_rfl) (by kernel_rfl) (fun _ _ _ h => h) (Or.inr ⟨by rfl, rfl⟩) hHeld ?_
 try simp only [Act.put, List.setIfInBounds_toArray, List.set_cons_zero, List.set_cons_succ]
 refine wpAnyH_take (i := 21) (oi := { dst := (some 34), op := (Op.pick (Operand.tmp 31) (Operand.const (Value.bool true)) (Operand.tmp 33)), type := 4, pos := "mem.go:102", after := #[{ on := 18, ground := Ground.data }, { on := 20, ground := Ground.data }], guard := none }) (v := ?_) rfl (by kernel_rfl) (by kernel_rfl) (by kernel_rfl) (fun _ _ _ h => h) (Or.inl ⟨by rfl, ?_⟩) hHeld ?_
 rotate_left
 ·intro w hSw; (try dsimp only at hSw); go_simp; try with_reducible rfl
 try simp only [Act.put, List.setIfInBounds_toArray, List.set_cons_zero, List.set_cons_succ]
 refine wpAnyH_take (i := 22) (oi := { dst := (some 35), op := (Op.move (Operand.tmp 34)), type := 4, pos := "mem.go:102", after := #[{ on := 21, ground := Ground.data }, { on := 18, ground := Ground.chain }], guard := none }) (v := ?_) rfl (by kernel_rfl) (by kernel_rfl) (by kernel_rfl) (fun _ _ _ h => h) (Or.inl ⟨by rfl, ?_⟩) hHeld ?_
 rotate_left
 ·intro w hSw; (try dsimp only at hSw); go_simp; try with_reducible rfl
 try simp only [Act.put, List.setIfInBounds_toArray, List.set_cons_zero, List.set_cons_succ]
 refine wpAnyH_take (i := 23) (oi := { dst := (some 36), op := (Op.fieldAddr 23 (Operand.tmp 4) 0), type := 0, pos := "mem.go:102", after := #[{ on := 22, ground := Ground.guard }], guard := (some (22, false)) }) rfl (by kernel_rfl) (by kernel_rfl) (by kernel_rfl) (fun _ _ _ h => h) (Or.inr ⟨by rfl, rfl⟩) hHeld ?_
 try simp only [Act.put, List.setIfInBounds_toArray, List.set_cons_zero, List.set_cons_succ]
 refine wpAnyH_take (i := 24) (oi := { dst := (some 37), op := (Op.load 2 (Operand.tmp 36)), type := 2, pos := "mem.go:102", after := #[{ on := 23, ground := Ground.data }, { on := 22, ground := Ground.guard }], guard := (some (22, false)) }) rfl (by kernel_rfl) (by kernel_rfl) (by kernel_rfl) (fun _ _ _ h => h) (Or.inr ⟨by rfl, rfl⟩) hHeld ?_
 try simp only [Act.put, List.setIfInBounds_toArray, List.set_cons_zero, List.set_cons_succ]
 refine wpAnyH_take (i := 25) (oi := { dst := (some 38), op := (Op.binOp BinOp.lss 2 (Operand.tmp 37) (Operand.const (Value.int IntKind.i64 0)) 2), type := 4, pos := "mem.go:102", after := #[{ on := 24, ground := Ground.data }, { on := 22, ground := Ground.guard }], guard := (some (22, false)) }) rfl (by kernel_rfl) (by kernel_rfl) (by kernel_rfl) (fun _ _ _ h => h) (Or.inr ⟨by rfl, rfl⟩) hHeld ?_
 try simp only [Act.put, List.setIfInBounds_toArray, List.set_cons_zero, List.set_cons_succ]
 refine wpAnyH_take (i := 26) (oi := { dst := (some 39), op := (Op.pick (Operand.tmp 35) (Operand.const (Value.bool true)) (Operand.tmp 38)), type := 4, pos := "mem.go:102", after := #[{ on := 22, ground := Ground.data }, { on := 25, ground := Ground.data }], guard := none }) (v := ?_) rfl (by kernel_rfl) (by kernel_rfl) (by kernel_rfl) (fun _ _ _ h => h) (Or.inl ⟨by rfl, ?_⟩) hHeld ?_
 rotate_left
 ·intro w hSw; (try dsimp only at hSw); go_simp; try with_reducible rfl
 try simp only [Act.put, List.setIfInBounds_toArray, List.set_cons_zero, List.set_cons_succ]
 refine wpAnyH_take (i := 27) (oi := { dst := (some 40), op := (Op.move (Operand.tmp 39)), type := 4, pos := "mem.go:102", after := #[{ on := 26, ground := Ground.data }, { on := 22, ground := Ground.chain }], guard := none }) (v := ?_) rfl (by kernel_rfl) (by kernel_rfl) (by kernel_rfl) (fun _ _ _ h => h) (Or.inl ⟨by rfl, ?_⟩) hHeld ?_
 rotate_left
 ·intro w hSw; (try dsimp only at hSw); go_simp; try with_reducible rfl
 try simp only [Act.put, List.setIfInBounds_toArray, List.set_cons_zero, List.set_cons_succ]
 refine wpAnyH_take (i := 28) (oi := { dst := (some 41), op := (Op.fieldAddr 23 (Operand.tmp 4) 0), type := 0, pos := "mem.go:102", after := #[{ on := 27, ground := Ground.guard }], guard := (some (27, false)) }) rfl (by kernel_rfl) (by kernel_rfl) (by kernel_rfl) (fun _ _ _ h => h) (Or.inr ⟨by rfl, rfl⟩) hHeld ?_
 try simp only [Act.put, List.setIfInBounds_toArray, List.set_cons_zero, List.set_cons_succ]
 refine wpAnyH_take (i := 29) (oi := { dst := (some 42), op := (Op.load 2 (Operand.tmp 41)), type := 2, pos := "mem.go:102", after := #[{ on := 28, ground := Ground.data }, { on := 27, ground := Ground.guard }], guard := (some (27, false)) }) rfl (by kernel_rfl) (by kernel_rfl) (by kernel_rfl) (fun _ _ _ h => h) (Or.inr ⟨by rfl, rfl⟩) hHeld ?_
 try simp only [Act.put, List.setIfInBounds_toArray, List.set_cons_zero, List.set_cons_succ]
 refine wpAnyH_take (i := 30) (oi := { dst := (some 43), op := (Op.move (Operand.tmp 8)), type := 79, pos := "mem.go:102", after := #[{ on := 27, ground := Ground.guard }], guard := (some (27, false)) }) rfl (by kernel_rfl) (by kernel_rfl) (by kernel_rfl) (fun _ _ _ h => h) (Or.inr ⟨by rfl, rfl⟩) hHeld ?_
 try simp only [Act.put, List.setIfInBounds_toArray, List.set_cons_zero, List.set_cons_succ]
 refine wpAnyH_take (i := 31) (oi := { dst := (some 44), op := (Op.nilCheck (Operand.tmp 43)), type := 0, pos := "mem.go:102", after := #[{ on := 30, ground := Ground.data }, { on := 27, ground := Ground.guard }], guard := (some (27, false)) }) rfl (by kernel_rfl) (by kernel_rfl) (by kernel_rfl) (fun _ _ _ h => h) (Or.inr ⟨by rfl, rfl⟩) hHeld ?_
 try simp only [Act.put, List.setIfInBounds_toArray, List.set_cons_zero, List.set_cons_succ]
 refine wpAnyH_take (i := 32) (oi := { dst := (some 45), op := (Op.fieldAddr 75 (Operand.tmp 44) 1), type := 0, pos := "mem.go:102", after := #[{ on := 31, ground := Ground.data }, { on := 27, ground := Ground.guard }], guard := (some (27, false)) }) rfl (by kernel_rfl) (by kernel_rfl) (by kernel_rfl) (fun _ _ _ h => h) (Or.inr ⟨by rfl, rfl⟩) hHeld ?_
 try simp only [Act.put, List.setIfInBounds_toArray, List.set_cons_zero, List.set_cons_succ]
 refine wpAnyH_take (i := 33) (oi := { dst := (some 46), op := (Op.load 38 (Operand.tmp 45)), type := 38, pos := "mem.go:102", after := #[{ on := 32, ground := Ground.data }, { on := 27, ground := Ground.guard }], guard := (some (27, false)) }) rfl (by kernel_rfl) (by kernel_rfl) (by kernel_rfl) (fun _ _ _ h => h) (Or.inr ⟨by rfl, rfl⟩) hHeld ?_
 try simp only [Act.put, List.setIfInBounds_toArray, List.set_cons_zero, List.set_cons_succ]
 refine wpAnyH_take (i := 34) (oi := { dst := (some 47), op := (Op.call { callee := (Callee.builtin Builtin.len), args := #[(Operand.tmp 46)], argTypes := #[38] }), type := 3, pos := "mem.go:102", after := #[{ on := 33, ground := Ground.data }, { on := 27, ground := Ground.guard }], guard := (some (27, false)) }) rfl (by kernel_rfl) (by kernel_rfl) (by kernel_rfl) (fun _ _ _ h => h) (Or.inr ⟨by rfl, rfl⟩) hHeld ?_
 try simp only [Act.put, List.setIfInBounds_toArray, List.set_cons_zero, List.set_cons_succ]
 refine wpAnyH_take (i := 35) (oi := { dst := (some 48), op := (Op.move (Operand.tmp 2)), type := 2, pos := "mem.go:102", after := #[{ on := 27, ground := Ground.guard }], guard := (some (27, false)) }) rfl (by kernel_rfl) (by kernel_rfl) (by kernel_rfl) (fun _ _ _ h => h) (Or.inr ⟨by rfl, rfl⟩) hHeld ?_
 try simp only [Act.put, List.setIfInBounds_toArray, List.set_cons_zero, List.set_cons_succ]
 refine wpAnyH_take (i := 36) (oi := { dst := (some 49), op := (Op.binOp BinOp.sub 2 (Operand.tmp 47) (Operand.tmp 48) 2), type := 2, pos := "mem.go:102", after := #[{ on := 34, ground := Ground.data }, { on := 35, ground := Ground.data }, { on := 27, ground := Ground.guard }], guard := (some (27, false)) }) rfl (by kernel_rfl) (by kernel_rfl) (by kernel_rfl) (fun _ _ _ h => h) (Or.inr ⟨by rfl, rfl⟩) hHeld ?_
 try simp only [Act.put, List.setIfInBounds_toArray, List.set_cons_zero, List.set_cons_succ]
 refine wpAnyH_take (i := 37) (oi := { dst := (some 50), op := (Op.binOp BinOp.gtr 2 (Operand.tmp 42) (Operand.tmp 49) 2), type := 4, pos := "mem.go:102", after := #[{ on := 29, ground := Ground.data }, { on := 36, ground := Ground.data }, { on := 27, ground := Ground.guard }], guard := (some (27, false)) }) rfl (by kernel_rfl) (by kernel_rfl) (by kernel_rfl) (fun _ _ _ h => h) (Or.inr ⟨by rfl, rfl⟩) hHeld ?_
 try simp only [Act.put, List.setIfInBounds_toArray, List.set_cons_zero, List.set_cons_succ]
 refine wpAnyH_take (i := 38) (oi := { dst := (some 51), op := (Op.pick (Operand.tmp 40) (Operand.const (Value.bool true)) (Operand.tmp 50)), type := 4, pos := "mem.go:102", after := #[{ on := 27, ground := Ground.data }, { on := 37, ground := Ground.data }], guard := none }) (v := ?_) rfl (by kernel_rfl) (by kernel_rfl) (by kernel_rfl) (fun _ _ _ h => h) (Or.inl ⟨by rfl, ?_⟩) hHeld ?_
 rotate_left
 ·intro w hSw; (try dsimp only at hSw); go_simp; try with_reducible rfl
 try simp only [Act.put, List.setIfInBounds_toArray, List.set_cons_zero, List.set_cons_succ]
 refine wpAnyH_done (by kernel_rfl) ?_ _
 go_wp2_with fail
 exact bodyPost_ret (v := .tuple #[.slice none 0 0, .bool false]) (by simp [results, Try.results37, go_sem]) rfl ⟨rfl, HQ.out _ hHeld⟩
set_option maxRecDepth 100000 in
set_option maxHeartbeats 4000000 in
theorem part_big (p : Vl) (n : Int) (gm g cap : Nat) (bs : List Blk) (b : Blk) (w : World) (hM : IsMem w gm (.slice (some ⟨g, 0, none⟩) bs.length cap) bs) (hp : (decide (0 < p.b) && p.f == 0) = true) (hb : bs[p.b.toNat - 1]? = some b) (hs : b.n ≤ 4096) (ht : b.there = true) (h4 : 0 ≤ n) (h5 : 4096 < n) :
  Calls Try.prog 37 #[.pointer (some ⟨gm, 0, none⟩), .agg #[.int .i64 p.n, .int .i64 p.b, .int .i64 p.f], .int .i64 n] w fun e w' => e = .returned (.tuple #[.slice none 0 0, .bool false]) ∧ Below w.heap.size w w' := by
 have hp0 : 0 < p.b := by simp at hp; exact hp.1
 have hlt : p.b ≤ bs.length := by have := (List.getElem?_eq_some_iff.1 hb).1; omega
 obtain ⟨g', cap', hv, _, _, _, hf⟩ := hM.form (by omega)
 cases hv
 have hr1 := hf _ _ hb 1 _ rfl
 have hr2 := hf _ _ hb 2 _ rfl
 rw [Nat.mul_comm 3] at hr1 hr2
 have HR1 := Aside0.mk hr1
 have HR2 := Aside0.mk hr2
 have HP0 := Aside0.mk hp0
 have HLT := Aside0.mk hlt
 clear hf hr1 hr2 hb hp0 hlt
 have q4 : decide (n < 0) = false := decide_eq_false (by omega)
 have q5 : decide (4096 < n) = true := decide_eq_true (by omega)
 have hB := Aside0.mk (q10 (Below.refl w.heap.size w) (.cells #[.int .i64 p.n, .int .i64 p.b, .int .i64 p.f] 23))
 have hX := Aside0.mk (q33 w (.cells #[.int .i64 p.n, .int .i64 p.b, .int .i64 p.f] 23))
 have HM := Aside0.mk (IsMem.alloc hM (.cells #[.int .i64 p.n, .int .i64 p.b, .int .i64 p.f] 23))
 clear hM
 go_enter Try.func37, Try.ntmps37
 go_upto_region 1 with (fail)
 replace HR1 := Aside0.mk (q22 (q10 (Below.refl w.heap.size w) (.cells #[.int .i64 p.n, .int .i64 p.b, .int .i64 p.f] 23)) HR1.out)
 replace HR2 := Aside0.mk (q22 (q10 (Below.refl w.heap.size w) (.cells #[.int .i64 p.n, .int .i64 p.b, .int .i64 p.f] 23)) HR2.out)
 generalize w.alloc (.cells #[.int .i64 p.n, .int .i64 p.b, .int .i64 p.f] 23) = W at hB hX HM HR1 HR2 ⊢
 have hx := cell3 hX.out
 go_upto_region 2 with (first | (go_at_call 35; refine (find_hit _ gm g cap bs _ HM.out (by have := HP0.out; omega) HLT.out).mono ?_))
 rintro e w1 ⟨rfl, rfl⟩
 have hS : (w1.cell? ⟨w.heap.size, 0, none⟩ = some (.int .i64 p.n) ∧ w1.cell? ⟨w.heap.size, 1, none⟩ = some (.int .i64 p.b) ∧ w1.cell? ⟨w.heap.size, 2, none⟩ = some (.int .i64 p.f) ∧ w1.cell? ⟨g, (p.b.toNat - 1) * 3 + 1, none⟩ = some (.slice (some ⟨b.gb, 0, none⟩) b.n b.n) ∧ w1.cell? ⟨g, (p.b.toNat - 1) * 3 + 2, none⟩ = some (.bool b.there) ∧ Below w.heap.size w w1) := ⟨hx.1, hx.2.1, hx.2.2, HR1.out, HR2.out, hB.out⟩
 clear hx hX hB HM HR1 HR2 HP0 HLT
 have HK := Aside0.mk (show ∀ Wa Wb : World, Below Wa.heap.size Wa Wb → (Wa.cell? ⟨w.heap.size, 0, none⟩ = some (.int .i64 p.n) ∧ Wa.cell? ⟨w.heap.size, 1, none⟩ = some (.int .i64 p.b) ∧ Wa.cell? ⟨w.heap.size, 2, none⟩ = some (.int .i64 p.f) ∧ Wa.cell? ⟨g, (p.b.toNat - 1) * 3 + 1, none⟩ = some (.slice (some ⟨b.gb, 0, none⟩) b.n b.n) ∧ Wa.cell? ⟨g, (p.b.toNat - 1) * 3 + 2, none⟩ = some (.bool b.there) ∧ Below w.heap.size w Wa) → (Wb.cell? ⟨w.heap.size, 0, none⟩ = some (.int .i64 p.n) ∧ Wb.cell? ⟨w.heap.size, 1, none⟩ = some (.int .i64 p.b) ∧ Wb.cell? ⟨w.heap.size, 2, none⟩ = some (.int .i64 p.f) ∧ Wb.cell? ⟨g, (p.b.toNat - 1) * 3 + 1, none⟩ = some (.slice (some ⟨b.gb, 0, none⟩) b.n b.n) ∧ Wb.cell? ⟨g, (p.b.toNat - 1) * 3 + 2, none⟩ = some (.bool b.there) ∧ Below w.heap.size w Wb) from fun _ _ hb h => ⟨q22 hb h.1, q22 hb h.2.1, q22 hb h.2.2.1, q22 hb h.2.2.2.1, q22 hb h.2.2.2.2.1, q20 h.2.2.2.2.2 hb⟩)
 have HQ := Aside0.mk (show ∀ Wa : World, (Wa.cell? ⟨w.heap.size, 0, none⟩ = some (.int .i64 p.n) ∧ Wa.cell? ⟨w.heap.size, 1, none⟩ = some (.int .i64 p.b) ∧ Wa.cell? ⟨w.heap.size, 2, none⟩ = some (.int .i64 p.f) ∧ Wa.cell? ⟨g, (p.b.toNat - 1) * 3 + 1, none⟩ = some (.slice (some ⟨b.gb, 0, none⟩) b.n b.n) ∧ Wa.cell? ⟨g, (p.b.toNat - 1) * 3 + 2, none⟩ = some (.bool b.there) ∧ Below w.heap.size w Wa) → Below w.heap.size w Wa from fun _ h => h.2.2.2.2.2)
 go_wp2_with fail
 refine wp_region_held_drew (S := fun w' => w'.cell? ⟨w.heap.size, 0, none⟩ = some (.int .i64 p.n) ∧ w'.cell? ⟨w.heap.size, 1, none⟩ = some (.int .i64 p.b) ∧ w'.cell? ⟨w.heap.size, 2, none⟩ = some (.int .i64 p.f) ∧ w'.cell? ⟨g, (p.b.toNat - 1) * 3 + 1, none⟩ = some (.slice (some ⟨b.gb, 0, none⟩) b.n b.n) ∧ w'.cell? ⟨g, (p.b.toNat - 1) * 3 + 2, none⟩ = some (.bool b.there) ∧ Below w.heap.size w w') (by kernel_rfl) ⟨hS.1, hS.2.1, hS.2.2.1, hS.2.2.2.1, hS.2.2.2.2.1, q39 hS.2.2.2.2.2⟩ (fun hHeld => ?_)
 refine wpAnyH_take (i := 0) (oi := { dst := (some 13), op := (Op.load 23 (Operand.tmp 4)), type := 23, pos := "mem.go:102", after := #[], guard := none }) (v := ?_) rfl (by kernel_rfl) (by kernel_rfl) (by kernel_rfl) (fun _ _ _ h => h) (Or.inl ⟨by rfl, ?_⟩) hHeld ?_
 rotate_left
 ·intro w hSw; (try dsimp only at hSw); go_simp; try with_reducible rfl
 try simp only [Act.put, List.setIfInBounds_toArray, List.set_cons_zero, List.set_cons_succ]
 refine wpAnyH_ready (rs := [1]) (by kernel_rfl) (by simp) ?_
 refine AllReadyH.cons (o := { dst := (some 14), op := (Op.call { callee := (Callee.value (Operand.func 34)), args := #[(Operand.tmp 13)], argTypes := #[23] }), type := 4, pos := "mem.go:102", after := #[{ on := 0, ground := Ground.data }], guard := none }) rfl (fun K hK => ?_) AllReadyH.nil
 go_simp
 refine (q34 p _).mono ?_
 rintro e w2 ⟨rfl, hb2⟩
 go_wp2_with fail
 refine hK.out _ _ (HK.out _ _ hb2 hHeld) (fun hHeld => ?_)
 clear hK K
 try simp only [Act.put, List.setIfInBounds_toArray, List.set_cons_zero, List.set_cons_succ]
 refine wpAnyH_take (i := 2) (oi := { dst := (some 15), op := (Op.unOp UnOp.not 4 (Operand.tmp 14)), type := 4, pos := "mem.go:102", after := #[{ on := 1, ground := Ground.data }], guard := none }) (v := ?_) rfl (by kernel_rfl) (by kernel_rfl) (by kernel_rfl) (fun _ _ _ h => h) (Or.inl ⟨by rfl, ?_⟩) hHeld ?_
 rotate_left
 ·intro w hSw; (try dsimp only at hSw); go_simp; try with_reducible rfl
 try simp only [Act.put, List.setIfInBounds_toArray, List.set_cons_zero, List.set_cons_succ]
 refine wpAnyH_take (i := 3) (oi := { dst := (some 16), op := (Op.move (Operand.tmp 15)), type := 4, pos := "mem.go:102", after := #[{ on := 2, ground := Ground.data }, { on := 1, ground := Ground.chain }], guard := none }) (v := ?_) rfl (by kernel_rfl) (by kernel_rfl) (by kernel_rfl) (fun _ _ _ h => h) (Or.inl ⟨by rfl, ?_⟩) hHeld ?_
 rotate_left
 ·intro w hSw; (try dsimp only at hSw); go_simp; try with_reducible rfl
 try simp only [Act.put, List.setIfInBounds_toArray, List.set_cons_zero, List.set_cons_succ]
 refine wpAnyH_take (i := 4) (oi := { dst := (some 17), op := (Op.move (Operand.tmp 8)), type := 79, pos := "mem.go:102", after := #[{ on := 3, ground := Ground.guard }], guard := (some (3, false)) }) (v := ?_) rfl (by kernel_rfl) (by kernel_rfl) (by kernel_rfl) (fun _ _ _ h => h) (Or.inl ⟨by rfl, ?_⟩) hHeld ?_
 rotate_left
 ·intro w hSw; (try dsimp only at hSw); go_simp; try with_reducible rfl
 try simp only [Act.put, List.setIfInBounds_toArray, List.set_cons_zero, List.set_cons_succ]
 refine wpAnyH_take (i := 5) (oi := { dst := (some 18), op := (Op.binOp BinOp.eql 79 (Operand.tmp 17) (Operand.const (Value.pointer none)) 79), type := 4, pos := "mem.go:102", after := #[{ on := 4, ground := Ground.data }, { on := 3, ground := Ground.guard }], guard := (some (3, false)) }) (v := ?_) rfl (by kernel_rfl) (by kernel_rfl) (by kernel_rfl) (fun _ _ _ h => h) (Or.inl ⟨by rfl, ?_⟩) hHeld ?_
 rotate_left
 ·intro w hSw; (try dsimp only at hSw); go_simp; try with_reducible rfl
 try simp only [Act.put, List.setIfInBounds_toArray, List.set_cons_zero, List.set_cons_succ]
 refine wpAnyH_take (i := 6) (oi := { dst := (some 19), op := (Op.pick (Operand.tmp 16) (Operand.const (Value.bool true)) (Operand.tmp 18)), type := 4, pos := "mem.go:102", after := #[{ on := 3, ground := Ground.data }, { on := 5, ground := Ground.data }], guard := none }) (v := ?_) rfl (by kernel_rfl) (by kernel_rfl) (by kernel_rfl) (fun _ _ _ h => h) (Or.inl ⟨by rfl, ?_⟩) hHeld ?_
 rotate_left
 ·intro w hSw; (try dsimp only at hSw); go_simp; try with_reducible rfl
 try simp only [Act.put, List.setIfInBounds_toArray, List.set_cons_zero, List.set_cons_succ]
 refine wpAnyH_take (i := 7) (oi := { dst := (some 20), op := (Op.move (Operand.tmp 19)), type := 4, pos := "mem.go:102", after := #[{ on := 6, ground := Ground.data }, { on := 3, ground := Ground.chain }], guard := none }) (v := ?_) rfl (by kernel_rfl) (by kernel_rfl) (by kernel_rfl) (fun _ _ _ h => h) (Or.inl ⟨by rfl, ?_⟩) hHeld ?_
 rotate_left
 ·intro w hSw; (try dsimp only at hSw); go_simp; try with_reducible rfl
 try simp only [Act.put, List.setIfInBounds_toArray, List.set_cons_zero, List.set_cons_succ]
 refine wpAnyH_take (i := 8) (oi := { dst := (some 21), op := (Op.move (Operand.tmp 8)), type := 79, pos := "mem.go:102", after := #[{ on := 7, ground := Ground.guard }], guard := (some (7, false)) }) (v := ?_) rfl (by kernel_rfl) (by kernel_rfl) (by kernel_rfl) (fun _ _ _ h => h) (Or.inl ⟨by rfl, ?_⟩) hHeld ?_
 rotate_left
 ·intro w hSw; (try dsimp only at hSw); go_simp; try with_reducible rfl
 try simp only [Act.put, List.setIfInBounds_toArray, List.set_cons_zero, List.set_cons_succ]
 refine wpAnyH_take (i := 9) (oi := { dst := (some 22), op := (Op.nilCheck (Operand.tmp 21)), type := 0, pos := "mem.go:102", after := #[{ on := 8, ground := Ground.data }, { on := 7, ground := Ground.guard }], guard := (some (7, false)) }) (v := ?_) rfl (by kernel_rfl) (by kernel_rfl) (by kernel_rfl) (fun _ _ _ h => h) (Or.inl ⟨by rfl, ?_⟩) hHeld ?_
 rotate_left
 ·intro w hSw; (try dsimp only at hSw); go_simp; try with_reducible rfl
 try simp only [Act.put, List.setIfInBounds_toArray, List.set_cons_zero, List.set_cons_succ]
 refine wpAnyH_take (i := 10) (oi := { dst := (some 23), op := (Op.fieldAddr 75 (Operand.tmp 22) 2), type := 0, pos := "mem.go:102", after := #[{ on := 9, ground := Ground.data }, { on := 7, ground := Ground.guard }], guard := (some (7, false)) }) (v := ?_) rfl (by kernel_rfl) (by kernel_rfl) (by kernel_rfl) (fun _ _ _ h => h) (Or.inl ⟨by rfl, ?_⟩) hHeld ?_
 rotate_left
 ·intro w hSw; (try dsimp only at hSw); go_simp; try with_reducible rfl
 try simp only [Act.put, List.setIfInBounds_toArray, List.set_cons_zero, List.set_cons_succ]
 refine wpAnyH_take (i := 11) (oi := { dst := (some 24), op := (Op.load 4 (Operand.tmp 23)), type := 4, pos := "mem.go:102", after := #[{ on := 10, ground := Ground.data }, { on := 7, ground := Ground.guard }], guard := (some (7, false)) }) (v := ?_) rfl (by kernel_rfl) (by kernel_rfl) (by kernel_rfl) (fun _ _ _ h => h) (Or.inl ⟨by rfl, ?_⟩) hHeld ?_
 rotate_left
 ·intro w hSw; (try dsimp only at hSw); go_simp; try with_reducible rfl
 try simp only [Act.put, List.setIfInBounds_toArray, List.set_cons_zero, List.set_cons_succ]
 refine wpAnyH_take (i := 12) (oi := { dst := (some 25), op := (Op.unOp UnOp.not 4 (Operand.tmp 24)), type := 4, pos := "mem.go:102", after := #[{ on := 11, ground := Ground.data }, { on := 7, ground := Ground.guard }], guard := (some (7, false)) }) (v := ?_) rfl (by kernel_rfl) (by kernel_rfl) (by kernel_rfl) (fun _ _ _ h => h) (Or.inl ⟨by rfl, ?_⟩) hHeld ?_
 rotate_left
 ·intro w hSw; (try dsimp only at hSw); go_simp; try with_reducible rfl
 try simp only [Act.put, List.setIfInBounds_toArray, List.set_cons_zero, List.set_cons_succ]
 refine wpAnyH_take (i := 13) (oi := { dst := (some 26), op := (Op.pick (Operand.tmp 20) (Operand.const (Value.bool true)) (Operand.tmp 25)), type := 4, pos := "mem.go:102", after := #[{ on := 7, ground := Ground.data }, { on := 12, ground := Ground.data }], guard := none }) (v := ?_) rfl (by kernel_rfl) (by kernel_rfl) (by kernel_rfl) (fun _ _ _ h => h) (Or.inl ⟨by rfl, ?_⟩) hHeld ?_
 rotate_left
 ·intro w hSw; (try dsimp only at hSw); go_simp; try with_reducible rfl
 try simp only [Act.put, List.setIfInBounds_toArray, List.set_cons_zero, List.set_cons_succ]
 refine wpAnyH_take (i := 14) (oi := { dst := (some 27), op := (Op.move (Operand.tmp 26)), type := 4, pos := "mem.go:102", after := #[{ on := 13, ground := Ground.data }, { on := 7, ground := Ground.chain }], guard := none }) (v := ?_) rfl (by kernel_rfl) (by kernel_rfl) (by kernel_rfl) (fun _ _ _ h => h) (Or.inl ⟨by rfl, ?_⟩) hHeld ?_
 rotate_left
 ·intro w hSw; (try dsimp only at hSw); go_simp; try with_reducible rfl
 try simp only [Act.put, List.setIfInBounds_toArray, List.set_cons_zero, List.set_cons_succ]
 refine wpAnyH_take (i := 15) (oi := { dst := (some 28), op := (Op.move (Operand.tmp 2)), type := 2, pos := "mem.go:102", after := #[{ on := 14, ground := Ground.guard }], guard := (some (14, false)) }) (v := ?_) rfl (by kernel_rfl) (by kernel_rfl) (by kernel_rfl) (fun _ _ _ h => h) (Or.inl ⟨by rfl, ?_⟩) hHeld ?_
 rotate_left
 ·intro w hSw; (try dsimp only at hSw); go_simp; try with_reducible rfl
 try simp only [Act.put, List.setIfInBounds_toArray, List.set_cons_zero, List.set_cons_succ]
 refine wpAnyH_take (i := 16) (oi := { dst := (some 29), op := (Op.binOp BinOp.lss 2 (Operand.tmp 28) (Operand.const (Value.int IntKind.i64 0)) 2), type := 4, pos := "mem.go:102", after := #[{ on := 15, ground := Ground.data }, { on := 14, ground := Ground.guard }], guard := (some (14, false)) }) (v := ?_) rfl (by kernel_rfl) (by kernel_rfl) (by kernel_rfl) (fun _ _ _ h => h) (Or.inl ⟨by rfl, ?_⟩) hHeld ?_
 rotate_left
 ·intro w hSw; (try dsimp only at hSw); go_simp; try with_reducible rfl
 try simp only [Act.put, List.setIfInBounds_toArray, List.set_cons_zero, List.set_cons_succ]
 refine wpAnyH_take (i := 17) (oi := { dst := (some 30), op := (Op.pick (Operand.tmp 27) (Operand.const (Value.bool true)) (Operand.tmp 29)), type := 4, pos := "mem.go:102", after := #[{ on := 14, ground := Ground.data }, { on := 16, ground := Ground.data }], guard := none }) (v := ?_) rfl (by kernel_rfl) (by kernel_rfl) (by kernel_rfl) (fun _ _ _ h => h) (Or.inl ⟨by rfl, ?_⟩) hHeld ?_
 rotate_left
 ·intro w hSw; (try dsimp only at hSw); go_simp; try with_reducible rfl
 try simp only [Act.put, List.setIfInBounds_toArray, List.set_cons_zero, List.set_cons_succ]
 refine wpAnyH_take (i := 18) (oi := { dst := (some 31), op := (Op.move (Operand.tmp 30)), type := 4, pos := "mem.go:102", after := #[{ on := 17, ground := Ground.data }, { on := 14, ground := Ground.chain }], guard := none }) (v := ?_) rfl (by kernel_rfl) (by kernel_rfl) (by kernel_rfl) (fun _ _ _ h => h) (Or.inl ⟨by rfl, ?_⟩) hHeld ?_
 rotate_left
 ·intro w hSw; (try dsimp only at hSw); go_simp; try with_reducible rfl
 try simp only [Act.put, List.setIfInBounds_toArray, List.set_cons_zero, List.set_cons_succ]
 refine wpAnyH_take (i := 19) (oi := { dst := (some 32), op := (Op.move (Operand.tmp 2)), type := 2, pos := "mem.go:102", after := #[{ on := 18, ground := Ground.guard }], guard := (some (18, false)) }) (v := ?_) rfl (by kernel_rfl) (by kernel_rfl) (by kernel_rfl) (fun _ _ _ h => h) (Or.inl ⟨by rfl, ?_⟩) hHeld ?_
 rotate_left
 ·intro w hSw; (try dsimp only at hSw); go_simp; try with_reducible rfl
 try simp only [Act.put, List.setIfInBounds_toArray, List.set_cons_zero, List.set_cons_succ]
 refine wpAnyH_take (i := 20) (oi := { dst := (some 33), op := (Op.binOp BinOp.gtr 2 (Operand.tmp 32) (Operand.const (Value.int IntKind.i64 4096)) 2), type := 4, pos := "mem.go:102", after := #[{ on := 19, ground := Ground.data }, { on := 18, ground := Ground.guard }], guard := (some (18, false)) }) (v := ?_) rfl (by kernel_rfl) (by kernel_rfl) (by kernel_rfl) (fun _ _ _ h => h) (Or.inl ⟨by rfl, ?_⟩) hHeld ?_
 rotate_left
 ·intro w hSw; (try dsimp only at hSw); go_simp; try with_reducible rfl
 try simp only [Act.put, List.setIfInBounds_toArray, List.set_cons_zero, List.set_cons_succ]
 refine wpAnyH_take (i := 21) (oi := { dst := (some 34), op := (Op.pick (Operand.tmp 31) (Operand.const (Value.bool true)) (Operand.tmp 33)), type := 4, pos := "mem.go:102", after := #[{ on := 18, ground := Ground.data }, { on := 20, ground := Ground.data }], guard := none }) (v := ?_) rfl (by kernel_rfl) (by kernel_rfl) (by kernel_rfl) (fun _ _ _ h => h) (Or.inl ⟨by rfl, ?_⟩) hHeld ?_
 rotate_left
 ·intro w hSw; (try dsimp only at hSw); go_simp; try with_reducible rfl
 try simp only [Act.put, List.setIfInBounds_toArray, List.set_cons_zero, List.set_cons_succ]
 refine wpAnyH_take (i := 22) (oi := { dst := (some 35), op := (Op.move (Operand.tmp 34)), type := 4, pos := "mem.go:102", after := #[{ on := 21, ground := Ground.data }, { on := 18, ground := Ground.chain }], guard := none }) (v := ?_) rfl (by kernel_rfl) (by kernel_rfl) (by kernel_rfl) (fun _ _ _ h => h) (Or.inl ⟨by rfl, ?_⟩) hHeld ?_
 rotate_left
 ·intro w hSw; (try dsimp only at hSw); go_simp; try with_reducible rfl
 try simp only [Act.put, List.setIfInBounds_toArray, List.set_cons_zero, List.set_cons_succ]
 refine wpAnyH_take (i := 23) (oi := { dst := (some 36), op := (Op.fieldAddr 23 (Operand.tmp 4) 0), type := 0, pos := "mem.go:102", after := #[{ on := 22, ground := Ground.guard }], guard := (some (22, false)) }) rfl (by kernel_rfl) (by kernel_rfl) (by kernel_rfl) (fun _ _ _ h => h) (Or.inr ⟨by rfl, rfl⟩) hHeld ?_
 try simp only [Act.put, List.setIfInBounds_toArray, List.set_cons_zero, List.set_cons_succ]
 refine wpAnyH_take (i := 24) (oi := { dst := (some 37), op := (Op.load 2 (Operand.tmp 36)), type := 2, pos := "mem.go:102", after := #[{ on := 23, ground := Ground.data }, { on := 22, ground := Ground.guard }], guard := (some (22, false)) }) rfl (by kernel_rfl) (by kernel_rfl) (by kernel_rfl) (fun _ _ _ h => h) (Or.inr ⟨by rfl, rfl⟩) hHeld ?_
 try simp only [Act.put, List.setIfInBounds_toArray, List.set_cons_zero, List.set_cons_succ]
 refine wpAnyH_take (i := 25) (oi := { dst := (some 38), op := (Op.binOp BinOp.lss 2 (Operand.tmp 37) (Operand.const (Value.int IntKind.i64 0)) 2), type := 4, pos := "mem.go:102", after := #[{ on := 24, ground := Ground.data }, { on := 22, ground := Ground.guard }], guard := (some (22, false)) }) rfl (by kernel_rfl) (by kernel_rfl) (by kernel_rfl) (fun _ _ _ h => h) (Or.inr ⟨by rfl, rfl⟩) hHeld ?_
 try simp only [Act.put, List.setIfInBounds_toArray, List.set_cons_zero, List.set_cons_succ]
 refine wpAnyH_take (i := 26) (oi := { dst := (some 39), op := (Op.pick (Operand.tmp 35) (Operand.const (Value.bool true)) (Operand.tmp 38)), type := 4, pos := "mem.go:102", after := #[{ on := 22, ground := Ground.data }, { on := 25, ground := Ground.data }], guard := none }) (v := ?_) rfl (by kernel_rfl) (by kernel_rfl) (by kernel_rfl) (fun _ _ _ h => h) (Or.inl ⟨by rfl, ?_⟩) hHeld ?_
 rotate_left
 ·intro w hSw; (try dsimp only at hSw); go_simp; try with_reducible rfl
 try simp only [Act.put, List.setIfInBounds_toArray, List.set_cons_zero, List.set_cons_succ]
 refine wpAnyH_take (i := 27) (oi := { dst := (some 40), op := (Op.move (Operand.tmp 39)), type := 4, pos := "mem.go:102", after := #[{ on := 26, ground := Ground.data }, { on := 22, ground := Ground.chain }], guard := none }) (v := ?_) rfl (by kernel_rfl) (by kernel_rfl) (by kernel_rfl) (fun _ _ _ h => h) (Or.inl ⟨by rfl, ?_⟩) hHeld ?_
 rotate_left
 ·intro w hSw; (try dsimp only at hSw); go_simp; try with_reducible rfl
 try simp only [Act.put, List.setIfInBounds_toArray, List.set_cons_zero, List.set_cons_succ]
 refine wpAnyH_take (i := 28) (oi := { dst := (some 41), op := (Op.fieldAddr 23 (Operand.tmp 4) 0), type := 0, pos := "mem.go:102", after := #[{ on := 27, ground := Ground.guard }], guard := (some (27, false)) }) rfl (by kernel_rfl) (by kernel_rfl) (by kernel_rfl) (fun _ _ _ h => h) (Or.inr ⟨by rfl, rfl⟩) hHeld ?_
 try simp only [Act.put, List.setIfInBounds_toArray, List.set_cons_zero, List.set_cons_succ]
 refine wpAnyH_take (i := 29) (oi := { dst := (some 42), op := (Op.load 2 (Operand.tmp 41)), type := 2, pos := "mem.go:102", after := #[{ on := 28, ground := Ground.data }, { on := 27, ground := Ground.guard }], guard := (some (27, false)) }) rfl (by kernel_rfl) (by kernel_rfl) (by kernel_rfl) (fun _ _ _ h => h) (Or.inr ⟨by rfl, rfl⟩) hHeld ?_
 try simp only [Act.put, List.setIfInBounds_toArray, List.set_cons_zero, List.set_cons_succ]
 refine wpAnyH_take (i := 30) (oi := { dst := (some 43), op := (Op.move (Operand.tmp 8)), type := 79, pos := "mem.go:102", after := #[{ on := 27, ground := Ground.guard }], guard := (some (27, false)) }) rfl (by kernel_rfl) (by kernel_rfl) (by kernel_rfl) (fun _ _ _ h => h) (Or.inr ⟨by rfl, rfl⟩) hHeld ?_
 try simp only [Act.put, List.setIfInBounds_toArray, List.set_cons_zero, List.set_cons_succ]
 refine wpAnyH_take (i := 31) (oi := { dst := (some 44), op := (Op.nilCheck (Operand.tmp 43)), type := 0, pos := "mem.go:102", after := #[{ on := 30, ground := Ground.data }, { on := 27, ground := Ground.guard }], guard := (some (27, false)) }) rfl (by kernel_rfl) (by kernel_rfl) (by kernel_rfl) (fun _ _ _ h => h) (Or.inr ⟨by rfl, rfl⟩) hHeld ?_
 try simp only [Act.put, List.setIfInBounds_toArray, List.set_cons_zero, List.set_cons_succ]
 refine wpAnyH_take (i := 32) (oi := { dst := (some 45), op := (Op.fieldAddr 75 (Operand.tmp 44) 1), type := 0, pos := "mem.go:102", after := #[{ on := 31, ground := Ground.data }, { on := 27, ground := Ground.guard }], guard := (some (27, false)) }) rfl (by kernel_rfl) (by kernel_rfl) (by kernel_rfl) (fun _ _ _ h => h) (Or.inr ⟨by rfl, rfl⟩) hHeld ?_
 try simp only [Act.put, List.setIfInBounds_toArray, List.set_cons_zero, List.set_cons_succ]
 refine wpAnyH_take (i := 33) (oi := { dst := (some 46), op := (Op.load 38 (Operand.tmp 45)), type := 38, pos := "mem.go:102", after := #[{ on := 32, ground := Ground.data }, { on := 27, ground := Ground.guard }], guard := (some (27, false)) }) rfl (by kernel_rfl) (by kernel_rfl) (by kernel_rfl) (fun _ _ _ h => h) (Or.inr ⟨by rfl, rfl⟩) hHeld ?_
 try simp only [Act.put, List.setIfInBounds_toArray, List.set_cons_zero, List.set_cons_succ]
 refine wpAnyH_take (i := 34) (oi := { dst := (some 47), op := (Op.call { callee := (Callee.builtin Builtin.len), args := #[(Operand.tmp 46)], argTypes := #[38] }), type := 3, pos := "mem.go:102", after := #[{ on := 33, ground := Ground.data }, { on := 27, ground := Ground.guard }], guard := (some (27, false)) }) rfl (by kernel_rfl) (by kernel_rfl) (by kernel_rfl) (fun _ _ _ h => h) (Or.inr ⟨by rfl, rfl⟩) hHeld ?_
 try simp only [Act.put, List.setIfInBounds_toArray, List.set_cons_zero, List.set_cons_succ]
 refine wpAnyH_take (i := 35) (oi := { dst := (some 48), op := (Op.move (Operand.tmp 2)), type := 2, pos := "mem.go:102", after := #[{ on := 27, ground := Ground.guard }], guard := (some (27, false)) }) rfl (by kernel_rfl) (by kernel_rfl) (by kernel_rfl) (fun _ _ _ h => h) (Or.inr ⟨by rfl, rfl⟩) hHeld ?_
 try simp only [Act.put, List.setIfInBounds_toArray, List.set_cons_zero, List.set_cons_succ]
 refine wpAnyH_take (i := 36) (oi := { dst := (some 49), op := (Op.binOp BinOp.sub 2 (Operand.tmp 47) (Operand.tmp 48) 2), type := 2, pos := "mem.go:102", after := #[{ on := 34, ground := Ground.data }, { on := 35, ground := Ground.data }, { on := 27, ground := Ground.guard }], guard := (some (27, false)) }) rfl (by kernel_rfl) (by kernel_rfl) (by kernel_rfl) (fun _ _ _ h => h) (Or.inr ⟨by rfl, rfl⟩) hHeld ?_
 try simp only [Act.put, List.setIfInBounds_toArray, List.set_cons_zero, List.set_cons_succ]
 refine wpAnyH_take (i := 37) (oi := { dst := (some 50), op := (Op.binOp BinOp.gtr 2 (Operand.tmp 42) (Operand.tmp 49) 2), type := 4, pos := "mem.go:102", after := #[{ on := 29, ground := Ground.data }, { on := 36, ground := Ground.data }, { on := 27, ground := Ground.guard }], guard := (some (27, false)) }) rfl (by kernel_rfl) (by kernel_rfl) (by kernel_rfl) (fun _ _ _ h => h) (Or.inr ⟨by rfl, rfl⟩) hHeld ?_
 try simp only [Act.put, List.setIfInBounds_toArray, List.set_cons_zero, List.set_cons_succ]
 refine wpAnyH_take (i := 38) (oi := { dst := (some 51), op := (Op.pick (Operand.tmp 40) (Operand.const (Value.bool true)) (Operand.tmp 50)), type := 4, pos := "mem.go:102", after := #[{ on := 27, ground := Ground.data }, { on := 37, ground := Ground.data }], guard := none }) (v := ?_) rfl (by kernel_rfl) (by kernel_rfl) (by kernel_rfl) (fun _ _ _ h => h) (Or.inl ⟨by rfl, ?_⟩) hHeld ?_
 rotate_left
 ·intro w hSw; (try dsimp only at hSw); go_simp; try with_reducible rfl
 try simp only [Act.put, List.setIfInBounds_toArray, List.set_cons_zero, List.set_cons_succ]
 refine wpAnyH_done (by kernel_rfl) ?_ _
 go_wp2_with fail
 exact bodyPost_ret (v := .tuple #[.slice none 0 0, .bool false]) (by simp [results, Try.results37, go_sem]) rfl ⟨rfl, HQ.out _ hHeld⟩
set_option maxRecDepth 100000 in
set_option maxHeartbeats 4000000 in
theorem part_low (p : Vl) (n : Int) (gm g cap : Nat) (bs : List Blk) (b : Blk) (w : World) (hM : IsMem w gm (.slice (some ⟨g, 0, none⟩) bs.length cap) bs) (hp : (decide (0 < p.b) && p.f == 0) = true) (hb : bs[p.b.toNat - 1]? = some b) (hs : b.n ≤ 4096) (ht : b.there = true) (h4 : 0 ≤ n) (h5 : n ≤ 4096) (h6 : p.n < 0) :
  Calls Try.prog 37 #[.pointer (some ⟨gm, 0, none⟩), .agg #[.int .i64 p.n, .int .i64 p.b, .int .i64 p.f], .int .i64 n] w fun e w' => e = .returned (.tuple #[.slice none 0 0, .bool false]) ∧ Below w.heap.size w w' := by
 have hp0 : 0 < p.b := by simp at hp; exact hp.1
 have hlt : p.b ≤ bs.length := by have := (List.getElem?_eq_some_iff.1 hb).1; omega
 obtain ⟨g', cap', hv, _, _, _, hf⟩ := hM.form (by omega)
 cases hv
 have hr1 := hf _ _ hb 1 _ rfl
 have hr2 := hf _ _ hb 2 _ rfl
 rw [Nat.mul_comm 3] at hr1 hr2
 have HR1 := Aside0.mk hr1
 have HR2 := Aside0.mk hr2
 have HP0 := Aside0.mk hp0
 have HLT := Aside0.mk hlt
 clear hf hr1 hr2 hb hp0 hlt
 have q4 : decide (n < 0) = false := decide_eq_false (by omega)
 have q5 : decide (4096 < n) = false := decide_eq_false (by omega)
 have q6 : decide (p.n < 0) = true := decide_eq_true (by omega)
 have hB := Aside0.mk (q10 (Below.refl w.heap.size w) (.cells #[.int .i64 p.n, .int .i64 p.b, .int .i64 p.f] 23))
 have hX := Aside0.mk (q33 w (.cells #[.int .i64 p.n, .int .i64 p.b, .int .i64 p.f] 23))
 have HM := Aside0.mk (IsMem.alloc hM (.cells #[.int .i64 p.n, .int .i64 p.b, .int .i64 p.f] 23))
 clear hM
 go_enter Try.func37, Try.ntmps37
 go_upto_region 1 with (fail)
 replace HR1 := Aside0.mk (q22 (q10 (Below.refl w.heap.size w) (.cells #[.int .i64 p.n, .int .i64 p.b, .int .i64 p.f] 23)) HR1.out)
 replace HR2 := Aside0.mk (q22 (q10 (Below.refl w.heap.size w) (.cells #[.int .i64 p.n, .int .i64 p.b, .int .i64 p.f] 23)) HR2.out)
 generalize w.alloc (.cells #[.int .i64 p.n, .int .i64 p.b, .int .i64 p.f] 23) = W at hB hX HM HR1 HR2 ⊢
 have hx := cell3 hX.out
 go_upto_region 2 with (first | (go_at_call 35; refine (find_hit _ gm g cap bs _ HM.out (by have := HP0.out; omega) HLT.out).mono ?_))
 rintro e w1 ⟨rfl, rfl⟩
 have hS : (w1.cell? ⟨w.heap.size, 0, none⟩ = some (.int .i64 p.n) ∧ w1.cell? ⟨w.heap.size, 1, none⟩ = some (.int .i64 p.b) ∧ w1.cell? ⟨w.heap.size, 2, none⟩ = some (.int .i64 p.f) ∧ w1.cell? ⟨g, (p.b.toNat - 1) * 3 + 1, none⟩ = some (.slice (some ⟨b.gb, 0, none⟩) b.n b.n) ∧ w1.cell? ⟨g, (p.b.toNat - 1) * 3 + 2, none⟩ = some (.bool b.there) ∧ Below w.heap.size w w1) := ⟨hx.1, hx.2.1, hx.2.2, HR1.out, HR2.out, hB.out⟩
 clear hx hX hB HM HR1 HR2 HP0 HLT
 have HK := Aside0.mk (show ∀ Wa Wb : World, Below Wa.heap.size Wa Wb → (Wa.cell? ⟨w.heap.size, 0, none⟩ = some (.int .i64 p.n) ∧ Wa.cell? ⟨w.heap.size, 1, none⟩ = some (.int .i64 p.b) ∧ Wa.cell? ⟨w.heap.size, 2, none⟩ = some (.int .i64 p.f) ∧ Wa.cell? ⟨g, (p.b.toNat - 1) * 3 + 1, none⟩ = some (.slice (some ⟨b.gb, 0, none⟩) b.n b.n) ∧ Wa.cell? ⟨g, (p.b.toNat - 1) * 3 + 2, none⟩ = some (.bool b.there) ∧ Below w.heap.size w Wa) → (Wb.cell? ⟨w.heap.size, 0, none⟩ = some (.int .i64 p.n) ∧ Wb.cell? ⟨w.heap.size, 1, none⟩ = some (.int .i64 p.b) ∧ Wb.cell? ⟨w.heap.size, 2, none⟩ = some (.int .i64 p.f) ∧ Wb.cell? ⟨g, (p.b.toNat - 1) * 3 + 1, none⟩ = some (.slice (some ⟨b.gb, 0, none⟩) b.n b.n) ∧ Wb.cell? ⟨g, (p.b.toNat - 1) * 3 + 2, none⟩ = some (.bool b.there) ∧ Below w.heap.size w Wb) from fun _ _ hb h => ⟨q22 hb h.1, q22 hb h.2.1, q22 hb h.2.2.1, q22 hb h.2.2.2.1, q22 hb h.2.2.2.2.1, q20 h.2.2.2.2.2 hb⟩)
 have HQ := Aside0.mk (show ∀ Wa : World, (Wa.cell? ⟨w.heap.size, 0, none⟩ = some (.int .i64 p.n) ∧ Wa.cell? ⟨w.heap.size, 1, none⟩ = some (.int .i64 p.b) ∧ Wa.cell? ⟨w.heap.size, 2, none⟩ = some (.int .i64 p.f) ∧ Wa.cell? ⟨g, (p.b.toNat - 1) * 3 + 1, none⟩ = some (.slice (some ⟨b.gb, 0, none⟩) b.n b.n) ∧ Wa.cell? ⟨g, (p.b.toNat - 1) * 3 + 2, none⟩ = some (.bool b.there) ∧ Below w.heap.size w Wa) → Below w.heap.size w Wa from fun _ h => h.2.2.2.2.2)
 go_wp2_with fail
 refine wp_region_held_drew (S := fun w' => w'.cell? ⟨w.heap.size, 0, none⟩ = some (.int .i64 p.n) ∧ w'.cell? ⟨w.heap.size, 1, none⟩ = some (.int .i64 p.b) ∧ w'.cell? ⟨w.heap.size, 2, none⟩ = some (.int .i64 p.f) ∧ w'.cell? ⟨g, (p.b.toNat - 1) * 3 + 1, none⟩ = some (.slice (some ⟨b.gb, 0, none⟩) b.n b.n) ∧ w'.cell? ⟨g, (p.b.toNat - 1) * 3 + 2, none⟩ = some (.bool b.there) ∧ Below w.heap.size w w') (by kernel_rfl) ⟨hS.1, hS.2.1, hS.2.2.1, hS.2.2.2.1, hS.2.2.2.2.1, q39 hS.2.2.2.2.2⟩ (fun hHeld => ?_)
 refine wpAnyH_take (i := 0) (oi := { dst := (some 13), op := (Op.load 23 (Operand.tmp 4)), type := 23, pos := "mem.go:102", after := #[], guard := none }) (v := ?_) rfl (by kernel_rfl) (by kernel_rfl) (by kernel_rfl) (fun _ _ _ h => h) (Or.inl ⟨by rfl, ?_⟩) hHeld ?_
 rotate_left
 ·intro w hSw; (try dsimp only at hSw); go_simp; try with_reducible rfl
 try simp only [Act.put, List.setIfInBounds_toArray, List.set_cons_zero, List.set_cons_succ]
 refine wpAnyH_ready (rs := [1]) (by kernel_rfl) (by simp) ?_
 refine AllReadyH.cons (o := { dst := (some 14), op := (Op.call { callee := (Callee.value (Operand.func 34)), args := #[(Operand.tmp 13)], argTypes := #[23] }), type := 4, pos := "mem.go:102", after := #[{ on := 0, ground := Ground.data }], guard := none }) rfl (fun K hK => ?_) AllReadyH.nil
 go_simp
 refine (q34 p _).mono ?_
 rintro e w2 ⟨rfl, hb2⟩
 go_wp2_with fail
 refine hK.out _ _ (HK.out _ _ hb2 hHeld) (fun hHeld => ?_)
 clear hK K
 try simp only [Act.put, List.setIfInBounds_toArray, List.set_cons_zero, List.set_cons_succ]
 refine wpAnyH_take (i := 2) (oi := { dst := (some 15), op := (Op.unOp UnOp.not 4 (Operand.tmp 14)), type := 4, pos := "mem.go:102", after := #[{ on := 1, ground := Ground.data }], guard := none }) (v := ?_) rfl (by kernel_rfl) (by kernel_rfl) (by kernel_rfl) (fun _ _ _ h => h) (Or.inl ⟨by rfl, ?_⟩) hHeld ?_
 rotate_left
 ·intro w hSw; (try dsimp only at hSw); go_simp; try with_reducible rfl
 try simp only [Act.put, List.setIfInBounds_toArray, List.set_cons_zero, List.set_cons_succ]
 refine wpAnyH_take (i := 3) (oi := { dst := (some 16), op := (Op.move (Operand.tmp 15)), type := 4, pos := "mem.go:102", after := #[{ on := 2, ground := Ground.data }, { on := 1, ground := Ground.chain }], guard := none }) (v := ?_) rfl (by kernel_rfl) (by kernel_rfl) (by kernel_rfl) (fun _ _ _ h => h) (Or.inl ⟨by rfl, ?_⟩) hHeld ?_
 rotate_left
 ·intro w hSw; (try dsimp only at hSw); go_simp; try with_reducible rfl
 try simp only [Act.put, List.setIfInBounds_toArray, List.set_cons_zero, List.set_cons_succ]
 refine wpAnyH_take (i := 4) (oi := { dst := (some 17), op := (Op.move (Operand.tmp 8)), type := 79, pos := "mem.go:102", after := #[{ on := 3, ground := Ground.guard }], guard := (some (3, false)) }) (v := ?_) rfl (by kernel_rfl) (by kernel_rfl) (by kernel_rfl) (fun _ _ _ h => h) (Or.inl ⟨by rfl, ?_⟩) hHeld ?_
 rotate_left
 ·intro w hSw; (try dsimp only at hSw); go_simp; try with_reducible rfl
 try simp only [Act.put, List.setIfInBounds_toArray, List.set_cons_zero, List.set_cons_succ]
 refine wpAnyH_take (i := 5) (oi := { dst := (some 18), op := (Op.binOp BinOp.eql 79 (Operand.tmp 17) (Operand.const (Value.pointer none)) 79), type := 4, pos := "mem.go:102", after := #[{ on := 4, ground := Ground.data }, { on := 3, ground := Ground.guard }], guard := (some (3, false)) }) (v := ?_) rfl (by kernel_rfl) (by kernel_rfl) (by kernel_rfl) (fun _ _ _ h => h) (Or.inl ⟨by rfl, ?_⟩) hHeld ?_
 rotate_left
 ·intro w hSw; (try dsimp only at hSw); go_simp; try with_reducible rfl
 try simp only [Act.put, List.setIfInBounds_toArray, List.set_cons_zero, List.set_cons_succ]
 refine wpAnyH_take (i := 6) (oi := { dst := (some 19), op := (Op.pick (Operand.tmp 16) (Operand.const (Value.bool true)) (Operand.tmp 18)), type := 4, pos := "mem.go:102", after := #[{ on := 3, ground := Ground.data }, { on := 5, ground := Ground.data }], guard := none }) (v := ?_) rfl (by kernel_rfl) (by kernel_rfl) (by kernel_rfl) (fun _ _ _ h => h) (Or.inl ⟨by rfl, ?_⟩) hHeld ?_
 rotate_left
 ·intro w hSw; (try dsimp only at hSw); go_simp; try with_reducible rfl
 try simp only [Act.put, List.setIfInBounds_toArray, List.set_cons_zero, List.set_cons_succ]
 refine wpAnyH_take (i := 7) (oi := { dst := (some 20), op := (Op.move (Operand.tmp 19)), type := 4, pos := "mem.go:102", after := #[{ on := 6, ground := Ground.data }, { on := 3, ground := Ground.chain }], guard := none }) (v := ?_) rfl (by kernel_rfl) (by kernel_rfl) (by kernel_rfl) (fun _ _ _ h => h) (Or.inl ⟨by rfl, ?_⟩) hHeld ?_
 rotate_left
 ·intro w hSw; (try dsimp only at hSw); go_simp; try with_reducible rfl
 try simp only [Act.put, List.setIfInBounds_toArray, List.set_cons_zero, List.set_cons_succ]
 refine wpAnyH_take (i := 8) (oi := { dst := (some 21), op := (Op.move (Operand.tmp 8)), type := 79, pos := "mem.go:102", after := #[{ on := 7, ground := Ground.guard }], guard := (some (7, false)) }) (v := ?_) rfl (by kernel_rfl) (by kernel_rfl) (by kernel_rfl) (fun _ _ _ h => h) (Or.inl ⟨by rfl, ?_⟩) hHeld ?_
 rotate_left
 ·intro w hSw; (try dsimp only at hSw); go_simp; try with_reducible rfl
 try simp only [Act.put, List.setIfInBounds_toArray, List.set_cons_zero, List.set_cons_succ]
 refine wpAnyH_take (i := 9) (oi := { dst := (some 22), op := (Op.nilCheck (Operand.tmp 21)), type := 0, pos := "mem.go:102", after := #[{ on := 8, ground := Ground.data }, { on := 7, ground := Ground.guard }], guard := (some (7, false)) }) (v := ?_) rfl (by kernel_rfl) (by kernel_rfl) (by kernel_rfl) (fun _ _ _ h => h) (Or.inl ⟨by rfl, ?_⟩) hHeld ?_
 rotate_left
 ·intro w hSw; (try dsimp only at hSw); go_simp; try with_reducible rfl
 try simp only [Act.put, List.setIfInBounds_toArray, List.set_cons_zero, List.set_cons_succ]
 refine wpAnyH_take (i := 10) (oi := { dst := (some 23), op := (Op.fieldAddr 75 (Operand.tmp 22) 2), type := 0, pos := "mem.go:102", after := #[{ on := 9, ground := Ground.data }, { on := 7, ground := Ground.guard }], guard := (some (7, false)) }) (v := ?_) rfl (by kernel_rfl) (by kernel_rfl) (by kernel_rfl) (fun _ _ _ h => h) (Or.inl ⟨by rfl, ?_⟩) hHeld ?_
 rotate_left
 ·intro w hSw; (try dsimp only at hSw); go_simp; try with_reducible rfl
 try simp only [Act.put, List.setIfInBounds_toArray, List.set_cons_zero, List.set_cons_succ]
 refine wpAnyH_take (i := 11) (oi := { dst := (some 24), op := (Op.load 4 (Operand.tmp 23)), type := 4, pos := "mem.go:102", after := #[{ on := 10, ground := Ground.data }, { on := 7, ground := Ground.guard }], guard := (some (7, false)) }) (v := ?_) rfl (by kernel_rfl) (by kernel_rfl) (by kernel_rfl) (fun _ _ _ h => h) (Or.inl ⟨by rfl, ?_⟩) hHeld ?_
 rotate_left
 ·intro w hSw; (try dsimp only at hSw); go_simp; try with_reducible rfl
 try simp only [Act.put, List.setIfInBounds_toArray, List.set_cons_zero, List.set_cons_succ]
 refine wpAnyH_take (i := 12) (oi := { dst := (some 25), op := (Op.unOp UnOp.not 4 (Operand.tmp 24)), type := 4, pos := "mem.go:102", after := #[{ on := 11, ground := Ground.data }, { on := 7, ground := Ground.guard }], guard := (some (7, false)) }) (v := ?_) rfl (by kernel_rfl) (by kernel_rfl) (by kernel_rfl) (fun _ _ _ h => h) (Or.inl ⟨by rfl, ?_⟩) hHeld ?_
 rotate_left
 ·intro w hSw; (try dsimp only at hSw); go_simp; try with_reducible rfl
 try simp only [Act.put, List.setIfInBounds_toArray, List.set_cons_zero, List.set_cons_succ]
 refine wpAnyH_take (i := 13) (oi := { dst := (some 26), op := (Op.pick (Operand.tmp 20) (Operand.const (Value.bool true)) (Operand.tmp 25)), type := 4, pos := "mem.go:102", after := #[{ on := 7, ground := Ground.data }, { on := 12, ground := Ground.data }], guard := none }) (v := ?_) rfl (by kernel_rfl) (by kernel_rfl) (by kernel_rfl) (fun _ _ _ h => h) (Or.inl ⟨by rfl, ?_⟩) hHeld ?_
 rotate_left
 ·intro w hSw; (try dsimp only at hSw); go_simp; try with_reducible rfl
 try simp only [Act.put, List.setIfInBounds_toArray, List.set_cons_zero, List.set_cons_succ]
 refine wpAnyH_take (i := 14) (oi := { dst := (some 27), op := (Op.move (Operand.tmp 26)), type := 4, pos := "mem.go:102", after := #[{ on := 13, ground := Ground.data }, { on := 7, ground := Ground.chain }], guard := none }) (v := ?_) rfl (by kernel_rfl) (by kernel_rfl) (by kernel_rfl) (fun _ _ _ h => h) (Or.inl ⟨by rfl, ?_⟩) hHeld ?_
 rotate_left
 ·intro w hSw; (try dsimp only at hSw); go_simp; try with_reducible rfl
 try simp only [Act.put, List.setIfInBounds_toArray, List.set_cons_zero, List.set_cons_succ]
 refine wpAnyH_take (i := 15) (oi := { dst := (some 28), op := (Op.move (Operand.tmp 2)), type := 2, pos := "mem.go:102", after := #[{ on := 14, ground := Ground.guard }], guard := (some (14, false)) }) (v := ?_) rfl (by kernel_rfl) (by kernel_rfl) (by kernel_rfl) (fun _ _ _ h => h) (Or.inl ⟨by rfl, ?_⟩) hHeld ?_
 rotate_left
 ·intro w hSw; (try dsimp only at hSw); go_simp; try with_reducible rfl
 try simp only [Act.put, List.setIfInBounds_toArray, List.set_cons_zero, List.set_cons_succ]
 refine wpAnyH_take (i := 16) (oi := { dst := (some 29), op := (Op.binOp BinOp.lss 2 (Operand.tmp 28) (Operand.const (Value.int IntKind.i64 0)) 2), type := 4, pos := "mem.go:102", after := #[{ on := 15, ground := Ground.data }, { on := 14, ground := Ground.guard }], guard := (some (14, false)) }) (v := ?_) rfl (by kernel_rfl) (by kernel_rfl) (by kernel_rfl) (fun _ _ _ h => h) (Or.inl ⟨by rfl, ?_⟩) hHeld ?_
 rotate_left
 ·intro w hSw; (try dsimp only at hSw); go_simp; try with_reducible rfl
 try simp only [Act.put, List.setIfInBounds_toArray, List.set_cons_zero, List.set_cons_succ]
 refine wpAnyH_take (i := 17) (oi := { dst := (some 30), op := (Op.pick (Operand.tmp 27) (Operand.const (Value.bool true)) (Operand.tmp 29)), type := 4, pos := "mem.go:102", after := #[{ on := 14, ground := Ground.data }, { on := 16, ground := Ground.data }], guard := none }) (v := ?_) rfl (by kernel_rfl) (by kernel_rfl) (by kernel_rfl) (fun _ _ _ h => h) (Or.inl ⟨by rfl, ?_⟩) hHeld ?_
 rotate_left
 ·intro w hSw; (try dsimp only at hSw); go_simp; try with_reducible rfl
 try simp only [Act.put, List.setIfInBounds_toArray, List.set_cons_zero, List.set_cons_succ]
 refine wpAnyH_take (i := 18) (oi := { dst := (some 31), op := (Op.move (Operand.tmp 30)), type := 4, pos := "mem.go:102", after := #[{ on := 17, ground := Ground.data }, { on := 14, ground := Ground.chain }], guard := none }) (v := ?_) rfl (by kernel_rfl) (by kernel_rfl) (by kernel_rfl) (fun _ _ _ h => h) (Or.inl ⟨by rfl, ?_⟩) hHeld ?_
 rotate_left
 ·intro w hSw; (try dsimp only at hSw); go_simp; try with_reducible rfl
 try simp only [Act.put, List.setIfInBounds_toArray, List.set_cons_zero, List.set_cons_succ]
 refine wpAnyH_take (i := 19) (oi := { dst := (some 32), op := (Op.move (Operand.tmp 2)), type := 2, pos := "mem.go:102", after := #[{ on := 18, ground := Ground.guard }], guard := (some (18, false)) }) (v := ?_) rfl (by kernel_rfl) (by kernel_rfl) (by kernel_rfl) (fun _ _ _ h => h) (Or.inl ⟨by rfl, ?_⟩) hHeld ?_
 rotate_left
 ·intro w hSw; (try dsimp only at hSw); go_simp; try with_reducible rfl
 try simp only [Act.put, List.setIfInBounds_toArray, List.set_cons_zero, List.set_cons_succ]
 refine wpAnyH_take (i := 20) (oi := { dst := (some 33), op := (Op.binOp BinOp.gtr 2 (Operand.tmp 32) (Operand.const (Value.int IntKind.i64 4096)) 2), type := 4, pos := "mem.go:102", after := #[{ on := 19, ground := Ground.data }, { on := 18, ground := Ground.guard }], guard := (some (18, false)) }) (v := ?_) rfl (by kernel_rfl) (by kernel_rfl) (by kernel_rfl) (fun _ _ _ h => h) (Or.inl ⟨by rfl, ?_⟩) hHeld ?_
 rotate_left
 ·intro w hSw; (try dsimp only at hSw); go_simp; try with_reducible rfl
 try simp only [Act.put, List.setIfInBounds_toArray, List.set_cons_zero, List.set_cons_succ]
 refine wpAnyH_take (i := 21) (oi := { dst := (some 34), op := (Op.pick (Operand.tmp 31) (Operand.const (Value.bool true)) (Operand.tmp 33)), type := 4, pos := "mem.go:102", after := #[{ on := 18, ground := Ground.data }, { on := 20, ground := Ground.data }], guard := none }) (v := ?_) rfl (by kernel_rfl) (by kernel_rfl) (by kernel_rfl) (fun _ _ _ h => h) (Or.inl ⟨by rfl, ?_⟩) hHeld ?_
 rotate_left
 ·intro w hSw; (try dsimp only at hSw); go_simp; try with_reducible rfl
 try simp only [Act.put, List.setIfInBounds_toArray, List.set_cons_zero, List.set_cons_succ]
 refine wpAnyH_take (i := 22) (oi := { dst := (some 35), op := (Op.move (Operand.tmp 34)), type := 4, pos := "mem.go:102", after := #[{ on := 21, ground := Ground.data }, { on := 18, ground := Ground.chain }], guard := none }) (v := ?_) rfl (by kernel_rfl) (by kernel_rfl) (by kernel_rfl) (fun _ _ _ h => h) (Or.inl ⟨by rfl, ?_⟩) hHeld ?_
 rotate_left
 ·intro w hSw; (try dsimp only at hSw); go_simp; try with_reducible rfl
 try simp only [Act.put, List.setIfInBounds_toArray, List.set_cons_zero, List.set_cons_succ]
 refine wpAnyH_take (i := 23) (oi := { dst := (some 36), op := (Op.fieldAddr 23 (Operand.tmp 4) 0), type := 0, pos := "mem.go:102", after := #[{ on := 22, ground := Ground.guard }], guard := (some (22, false)) }) (v := ?_) rfl (by kernel_rfl) (by kernel_rfl) (by kernel_rfl) (fun _ _ _ h => h) (Or.inl ⟨by rfl, ?_⟩) hHeld ?_
 rotate_left
 ·intro w hSw; (try dsimp only at hSw); go_simp; try with_reducible rfl
 try simp only [Act.put, List.setIfInBounds_toArray, List.set_cons_zero, List.set_cons_succ]
 refine wpAnyH_take (i := 24) (oi := { dst := (some 37), op := (Op.load 2 (Operand.tmp 36)), type := 2, pos := "mem.go:102", after := #[{ on := 23, ground := Ground.data }, { on := 22, ground := Ground.guard }], guard := (some (22, false)) }) (v := ?_) rfl (by kernel_rfl) (by kernel_rfl) (by kernel_rfl) (fun _ _ _ h => h) (Or.inl ⟨by rfl, ?_⟩) hHeld ?_
 rotate_left
 ·intro w hSw; (try dsimp only at hSw); go_simp; try with_reducible rfl
 try simp only [Act.put, List.setIfInBounds_toArray, List.set_cons_zero, List.set_cons_succ]
 refine wpAnyH_take (i := 25) (oi := { dst := (some 38), op := (Op.binOp BinOp.lss 2 (Operand.tmp 37) (Operand.const (Value.int IntKind.i64 0)) 2), type := 4, pos := "mem.go:102", after := #[{ on := 24, ground := Ground.data }, { on := 22, ground := Ground.guard }], guard := (some (22, false)) }) (v := ?_) rfl (by kernel_rfl) (by kernel_rfl) (by kernel_rfl) (fun _ _ _ h => h) (Or.inl ⟨by rfl, ?_⟩) hHeld ?_
 rotate_left
 ·intro w hSw; (try dsimp only at hSw); go_simp; try with_reducible rfl
 try simp only [Act.put, List.setIfInBounds_toArray, List.set_cons_zero, List.set_cons_succ]
 refine wpAnyH_take (i := 26) (oi := { dst := (some 39), op := (Op.pick (Operand.tmp 35) (Operand.const (Value.bool true)) (Operand.tmp 38)), type := 4, pos := "mem.go:102", after := #[{ on := 22, ground := Ground.data }, { on := 25, ground := Ground.data }], guard := none }) (v := ?_) rfl (by kernel_rfl) (by kernel_rfl) (by kernel_rfl) (fun _ _ _ h => h) (Or.inl ⟨by rfl, ?_⟩) hHeld ?_
 rotate_left
 ·intro w hSw; (try dsimp only at hSw); go_simp; try with_reducible rfl
 try simp only [Act.put, List.setIfInBounds_toArray, List.set_cons_zero, List.set_cons_succ]
 refine wpAnyH_take (i := 27) (oi := { dst := (some 40), op := (Op.move (Operand.tmp 39)), type := 4, pos := "mem.go:102", after := #[{ on := 26, ground := Ground.data }, { on := 22, ground := Ground.chain }], guard := none }) (v := ?_) rfl (by kernel_rfl) (by kernel_rfl) (by kernel_rfl) (fun _ _ _ h => h) (Or.inl ⟨by rfl, ?_⟩) hHeld ?_
 rotate_left
 ·intro w hSw; (try dsimp only at hSw); go_simp; try with_reducible rfl
 try simp only [Act.put, List.setIfInBounds_toArray, List.set_cons_zero, List.set_cons_succ]
 refine wpAnyH_take (i := 28) (oi := { dst := (some 41), op := (Op.fieldAddr 23 (Operand.tmp 4) 0), type := 0, pos := "mem.go:102", after := #[{ on := 27, ground := Ground.guard }], guard := (some (27, false)) }) rfl (by kernel_rfl) (by kernel_rfl) (by kernel_rfl) (fun _ _ _ h => h) (Or.inr ⟨by rfl, rfl⟩) hHeld ?_
 try simp only [Act.put, List.setIfInBounds_toArray, List.set_cons_zero, List.set_cons_succ]
 refine wpAnyH_take (i := 29) (oi := { dst := (some 42), op := (Op.load 2 (Operand.tmp 41)), type := 2, pos := "mem.go:102", after := #[{ on := 28, ground := Ground.data }, { on := 27, ground := Ground.guard }], guard := (some (27, false)) }) rfl (by kernel_rfl) (by kernel_rfl) (by kernel_rfl) (fun _ _ _ h => h) (Or.inr ⟨by rfl, rfl⟩) hHeld ?_
 try simp only [Act.put, List.setIfInBounds_toArray, List.set_cons_zero, List.set_cons_succ]
 refine wpAnyH_take (i := 30) (oi := { dst := (some 43), op := (Op.move (Operand.tmp 8)), type := 79, pos := "mem.go:102", after := #[{ on := 27, ground := Ground.guard }], guard := (some (27, false)) }) rfl (by kernel_rfl) (by kernel_rfl) (by kernel_rfl) (fun _ _ _ h => h) (Or.inr ⟨by rfl, rfl⟩) hHeld ?_
 try simp only [Act.put, List.setIfInBounds_toArray, List.set_cons_zero, List.set_cons_succ]
 refine wpAnyH_take (i := 31) (oi := { dst := (some 44), op := (Op.nilCheck (Operand.tmp 43)), type := 0, pos := "mem.go:102", after := #[{ on := 30, ground := Ground.data }, { on := 27, ground := Ground.guard }], guard := (some (27, false)) }) rfl (by kernel_rfl) (by kernel_rfl) (by kernel_rfl) (fun _ _ _ h => h) (Or.inr ⟨by rfl, rfl⟩) hHeld ?_
 try simp only [Act.put, List.setIfInBounds_toArray, List.set_cons_zero, List.set_cons_succ]
 refine wpAnyH_take (i := 32) (oi := { dst := (some 45), op := (Op.fieldAddr 75 (Operand.tmp 44) 1), type := 0, pos := "mem.go:102", after := #[{ on := 31, ground := Ground.data }, { on := 27, ground := Ground.guard }], guard := (some (27, false)) }) rfl (by kernel_rfl) (by kernel_rfl) (by kernel_rfl) (fun _ _ _ h => h) (Or.inr ⟨by rfl, rfl⟩) hHeld ?_
 try simp only [Act.put, List.setIfInBounds_toArray, List.set_cons_zero, List.set_cons_succ]
 refine wpAnyH_take (i := 33) (oi := { dst := (some 46), op := (Op.load 38 (Operand.tmp 45)), type := 38, pos := "mem.go:102", after := #[{ on := 32, ground := Ground.data }, { on := 27, ground := Ground.guard }], guard := (some (27, false)) }) rfl (by kernel_rfl) (by kernel_rfl) (by kernel_rfl) (fun _ _ _ h => h) (Or.inr ⟨by rfl, rfl⟩) hHeld ?_
 try simp only [Act.put, List.setIfInBounds_toArray, List.set_cons_zero, List.set_cons_succ]
 refine wpAnyH_take (i := 34) (oi := { dst := (some 47), op := (Op.call { callee := (Callee.builtin Builtin.len), args := #[(Operand.tmp 46)], argTypes := #[38] }), type := 3, pos := "mem.go:102", after := #[{ on := 33, ground := Ground.data }, { on := 27, ground := Ground.guard }], guard := (some (27, false)) }) rfl (by kernel_rfl) (by kernel_rfl) (by kernel_rfl) (fun _ _ _ h => h) (Or.inr ⟨by rfl, rfl⟩) hHeld ?_
 try simp only [Act.put, List.setIfInBounds_toArray, List.set_cons_zero, List.set_cons_succ]
 refine wpAnyH_take (i := 35) (oi := { dst := (some 48), op := (Op.move (Operand.tmp 2)), type := 2, pos := "mem.go:102", after := #[{ on := 27, ground := Ground.guard }], guard := (some (27, false)) }) rfl (by kernel_rfl) (by kernel_rfl) (by kernel_rfl) (fun _ _ _ h => h) (Or.inr ⟨by rfl, rfl⟩) hHeld ?_
 try simp only [Act.put, List.setIfInBounds_toArray, List.set_cons_zero, List.set_cons_succ]
 refine wpAnyH_take (i := 36) (oi := { dst := (some 49), op := (Op.binOp BinOp.sub 2 (Operand.tmp 47) (Operand.tmp 48) 2), type := 2, pos := "mem.go:102", after := #[{ on := 34, ground := Ground.data }, { on := 35, ground := Ground.data }, { on := 27, ground := Ground.guard }], guard := (some (27, false)) }) rfl (by kernel_rfl) (by kernel_rfl) (by kernel_rfl) (fun _ _ _ h => h) (Or.inr ⟨by rfl, rfl⟩) hHeld ?_
 try simp only [Act.put, List.setIfInBounds_toArray, List.set_cons_zero, List.set_cons_succ]
 refine wpAnyH_take (i := 37) (oi := { dst := (some 50), op := (Op.binOp BinOp.gtr 2 (Operand.tmp 42) (Operand.tmp 49) 2), type := 4, pos := "mem.go:102", after := #[{ on := 29, ground := Ground.data }, { on := 36, ground := Ground.data }, { on := 27, ground := Ground.guard }], guard := (some (27, false)) }) rfl (by kernel_rfl) (by kernel_rfl) (by kernel_rfl) (fun _ _ _ h => h) (Or.inr ⟨by rfl, rfl⟩) hHeld ?_
 try simp only [Act.put, List.setIfInBounds_toArray, List.set_cons_zero, List.set_cons_succ]
 refine wpAnyH_take (i := 38) (oi := { dst := (some 51), op := (Op.pick (Operand.tmp 40) (Operand.const (Value.bool true)) (Operand.tmp 50)), type := 4, pos := "mem.go:102", after := #[{ on := 27, ground := Ground.data }, { on := 37, ground := Ground.data }], guard := none }) (v := ?_) rfl (by kernel_rfl) (by kernel_rfl) (by kernel_rfl) (fun _ _ _ h => h) (Or.inl ⟨by rfl, ?_⟩) hHeld ?_
 rotate_left
 ·intro w hSw; (try dsimp only at hSw); go_simp; try with_reducible rfl
 try simp only [Act.put, List.setIfInBounds_toArray, List.set_cons_zero, List.set_cons_succ]
 refine wpAnyH_done (by kernel_rfl) ?_ _
 go_wp2_with fail
 exact bodyPost_ret (v := .tuple #[.slice none 0 0, .bool false]) (by simp [results, Try.results37, go_sem]) rfl ⟨rfl, HQ.out _ hHeld⟩
set_option maxRecDepth 100000 in
set_option maxHeartbeats 4000000 in
theorem part_high (p : Vl) (n : Int) (gm g cap : Nat) (bs : List Blk) (b : Blk) (w : World) (hM : IsMem w gm (.slice (some ⟨g, 0, none⟩) bs.length cap) bs) (hp : (decide (0 < p.b) && p.f == 0) = true) (hb : bs[p.b.toNat - 1]? = some b) (hs : b.n ≤ 4096) (ht : b.there = true) (h4 : 0 ≤ n) (h5 : n ≤ 4096) (h6 : 0 ≤ p.n) (h7 : (b.n : Int) - n < p.n) :
  Calls Try.prog 37 #[.pointer (some ⟨gm, 0, none⟩), .agg #[.int .i64 p.n, .int .i64 p.b, .int .i64 p.f], .int .i64 n] w fun e w' => e = .returned (.tuple #[.slice none 0 0, .bool false]) ∧ Below w.heap.size w w' := by
 have hp0 : 0 < p.b := by simp at hp; exact hp.1
 have hlt : p.b ≤ bs.length := by have := (List.getElem?_eq_some_iff.1 hb).1; omega
 obtain ⟨g', cap', hv, _, _, _, hf⟩ := hM.form (by omega)
 cases hv
 have hr1 := hf _ _ hb 1 _ rfl
 have hr2 := hf _ _ hb 2 _ rfl
 rw [Nat.mul_comm 3] at hr1 hr2
 have HR1 := Aside0.mk hr1
 have HR2 := Aside0.mk hr2
 have HP0 := Aside0.mk hp0
 have HLT := Aside0.mk hlt
 clear hf hr1 hr2 hb hp0 hlt
 have q4 : decide (n < 0) = false := decide_eq_false (by omega)
 have q5 : decide (4096 < n) = false := decide_eq_false (by omega)
 have q6 : decide (p.n < 0) = false := decide_eq_false (by omega)
 have q7 : decide ((b.n : Int) - n < p.n) = true := decide_eq_true (by omega)
 have hw1 : IntKind.i64.wrap ((b.n : Int) - n) = (b.n : Int) - n := by rw [IntKind.wrap_i64]; omega
 have hB := Aside0.mk (q10 (Below.refl w.heap.size w) (.cells #[.int .i64 p.n, .int .i64 p.b, .int .i64 p.f] 23))
 have hX := Aside0.mk (q33 w (.cells #[.int .i64 p.n, .int .i64 p.b, .int .i64 p.f] 23))
 have HM := Aside0.mk (IsMem.alloc hM (.cells #[.int .i64 p.n, .int .i64 p.b, .int .i64 p.f] 23))
 clear hM
 go_enter Try.func37, Try.ntmps37
 go_upto_region 1 with (fail)
 replace HR1 := Aside0.mk (q22 (q10 (Below.refl w.heap.size w) (.cells #[.int .i64 p.n, .int .i64 p.b, .int .i64 p.f] 23)) HR1.out)
 replace HR2 := Aside0.mk (q22 (q10 (Below.refl w.heap.size w) (.cells #[.int .i64 p.n, .int .i64 p.b, .int .i64 p.f] 23)) HR2.out)
 generalize w.alloc (.cells #[.int .i64 p.n, .int .i64 p.b, .int .i64 p.f] 23) = W at hB hX HM HR1 HR2 ⊢
 have hx := cell3 hX.out
 go_upto_region 2 with (first | (go_at_call 35; refine (find_hit _ gm g cap bs _ HM.out (by have := HP0.out; omega) HLT.out).mono ?_))
 rintro e w1 ⟨rfl, rfl⟩
 have hS : (w1.cell? ⟨w.heap.size, 0, none⟩ = some (.int .i64 p.n) ∧ w1.cell? ⟨w.heap.size, 1, none⟩ = some (.int .i64 p.b) ∧ w1.cell? ⟨w.heap.size, 2, none⟩ = some (.int .i64 p.f) ∧ w1.cell? ⟨g, (p.b.toNat - 1) * 3 + 1, none⟩ = some (.slice (some ⟨b.gb, 0, none⟩) b.n b.n) ∧ w1.cell? ⟨g, (p.b.toNat - 1) * 3 + 2, none⟩ = some (.bool b.there) ∧ Below w.heap.size w w1) := ⟨hx.1, hx.2.1, hx.2.2, HR1.out, HR2.out, hB.out⟩
 clear hx hX hB HM HR1 HR2 HP0 HLT
 have HK := Aside0.mk (show ∀ Wa Wb : World, Below Wa.heap.size Wa Wb → (Wa.cell? ⟨w.heap.size, 0, none⟩ = some (.int .i64 p.n) ∧ Wa.cell? ⟨w.heap.size, 1, none⟩ = some (.int .i64 p.b) ∧ Wa.cell? ⟨w.heap.size, 2, none⟩ = some (.int .i64 p.f) ∧ Wa.cell? ⟨g, (p.b.toNat - 1) * 3 + 1, none⟩ = some (.slice (some ⟨b.gb, 0, none⟩) b.n b.n) ∧ Wa.cell? ⟨g, (p.b.toNat - 1) * 3 + 2, none⟩ = some (.bool b.there) ∧ Below w.heap.size w Wa) → (Wb.cell? ⟨w.heap.size, 0, none⟩ = some (.int .i64 p.n) ∧ Wb.cell? ⟨w.heap.size, 1, none⟩ = some (.int .i64 p.b) ∧ Wb.cell? ⟨w.heap.size, 2, none⟩ = some (.int .i64 p.f) ∧ Wb.cell? ⟨g, (p.b.toNat - 1) * 3 + 1, none⟩ = some (.slice (some ⟨b.gb, 0, none⟩) b.n b.n) ∧ Wb.cell? ⟨g, (p.b.toNat - 1) * 3 + 2, none⟩ = some (.bool b.there) ∧ Below w.heap.size w Wb) from fun _ _ hb h => ⟨q22 hb h.1, q22 hb h.2.1, q22 hb h.2.2.1, q22 hb h.2.2.2.1, q22 hb h.2.2.2.2.1, q20 h.2.2.2.2.2 hb⟩)
 have HQ := Aside0.mk (show ∀ Wa : World, (Wa.cell? ⟨w.heap.size, 0, none⟩ = some (.int .i64 p.n) ∧ Wa.cell? ⟨w.heap.size, 1, none⟩ = some (.int .i64 p.b) ∧ Wa.cell? ⟨w.heap.size, 2, none⟩ = some (.int .i64 p.f) ∧ Wa.cell? ⟨g, (p.b.toNat - 1) * 3 + 1, none⟩ = some (.slice (some ⟨b.gb, 0, none⟩) b.n b.n) ∧ Wa.cell? ⟨g, (p.b.toNat - 1) * 3 + 2, none⟩ = some (.bool b.there) ∧ Below w.heap.size w Wa) → Below w.heap.size w Wa from fun _ h => h.2.2.2.2.2)
 go_wp2_with fail
 refine wp_region_held_drew (S := fun w' => w'.cell? ⟨w.heap.size, 0, none⟩ = some (.int .i64 p.n) ∧ w'.cell? ⟨w.heap.size, 1, none⟩ = some (.int .i64 p.b) ∧ w'.cell? ⟨w.heap.size, 2, none⟩ = some (.int .i64 p.f) ∧ w'.cell? ⟨g, (p.b.toNat - 1) * 3 + 1, none⟩ = some (.slice (some ⟨b.gb, 0, none⟩) b.n b.n) ∧ w'.cell? ⟨g, (p.b.toNat - 1) * 3 + 2, none⟩ = some (.bool b.there) ∧ Below w.heap.size w w') (by kernel_rfl) ⟨hS.1, hS.2.1, hS.2.2.1, hS.2.2.2.1, hS.2.2.2.2.1, q39 hS.2.2.2.2.2⟩ (fun hHeld => ?_)
 refine wpAnyH_take (i := 0) (oi := { dst := (some 13), op := (Op.load 23 (Operand.tmp 4)), type := 23, pos := "mem.go:102", after := #[], guard := none }) (v := ?_) rfl (by kernel_rfl) (by kernel_rfl) (by kernel_rfl) (fun _ _ _ h => h) (Or.inl ⟨by rfl, ?_⟩) hHeld ?_
 rotate_left
 ·intro w hSw; (try dsimp only at hSw); go_simp; try with_reducible rfl
 try simp only [Act.put, List.setIfInBounds_toArray, List.set_cons_zero, List.set_cons_succ]
 refine wpAnyH_ready (rs := [1]) (by kernel_rfl) (by simp) ?_
 refine AllReadyH.cons (o := { dst := (some 14), op := (Op.call { callee := (Callee.value (Operand.func 34)), args := #[(Operand.tmp 13)], argTypes := #[23] }), type := 4, pos := "mem.go:102", after := #[{ on := 0, ground := Ground.data }], guard := none }) rfl (fun K hK => ?_) AllReadyH.nil
 go_simp
 refine (q34 p _).mono ?_
 rintro e w2 ⟨rfl, hb2⟩
 go_wp2_with fail
 refine hK.out _ _ (HK.out _ _ hb2 hHeld) (fun hHeld => ?_)
 clear hK K
 try simp only [Act.put, List.setIfInBounds_toArray, List.set_cons_zero, List.set_cons_succ]
 refine wpAnyH_take (i := 2) (oi := { dst := (some 15), op := (Op.unOp UnOp.not 4 (Operand.tmp 14)), type := 4, pos := "mem.go:102", after := #[{ on := 1, ground := Ground.data }], guard := none }) (v := ?_) rfl (by kernel_rfl) (by kernel_rfl) (by kernel_rfl) (fun _ _ _ h => h) (Or.inl ⟨by rfl, ?_⟩) hHeld ?_
 rotate_left
 ·intro w hSw; (try dsimp only at hSw); go_simp; try with_reducible rfl
 try simp only [Act.put, List.setIfInBounds_toArray, List.set_cons_zero, List.set_cons_succ]
 refine wpAnyH_take (i := 3) (oi := { dst := (some 16), op := (Op.move (Operand.tmp 15)), type := 4, pos := "mem.go:102", after := #[{ on := 2, ground := Ground.data }, { on := 1, ground := Ground.chain }], guard := none }) (v := ?_) rfl (by kernel_rfl) (by kernel_rfl) (by kernel_rfl) (fun _ _ _ h => h) (Or.inl ⟨by rfl, ?_⟩) hHeld ?_
 rotate_left
 ·intro w hSw; (try dsimp only at hSw); go_simp; try with_reducible rfl
 try simp only [Act.put, List.setIfInBounds_toArray, List.set_cons_zero, List.set_cons_succ]
 refine wpAnyH_take (i := 4) (oi := { dst := (some 17), op := (Op.move (Operand.tmp 8)), type := 79, pos := "mem.go:102", after := #[{ on := 3, ground := Ground.guard }], guard := (some (3, false)) }) (v := ?_) rfl (by kernel_rfl) (by kernel_rfl) (by kernel_rfl) (fun _ _ _ h => h) (Or.inl ⟨by rfl, ?_⟩) hHeld ?_
 rotate_left
 ·intro w hSw; (try dsimp only at hSw); go_simp; try with_reducible rfl
 try simp only [Act.put, List.setIfInBounds_toArray, List.set_cons_zero, List.set_cons_succ]
 refine wpAnyH_take (i := 5) (oi := { dst := (some 18), op := (Op.binOp BinOp.eql 79 (Operand.tmp 17) (Operand.const (Value.pointer none)) 79), type := 4, pos := "mem.go:102", after := #[{ on := 4, ground := Ground.data }, { on := 3, ground := Ground.guard }], guard := (some (3, false)) }) (v := ?_) rfl (by kernel_rfl) (by kernel_rfl) (by kernel_rfl) (fun _ _ _ h => h) (Or.inl ⟨by rfl, ?_⟩) hHeld ?_
 rotate_left
 ·intro w hSw; (try dsimp only at hSw); go_simp; try with_reducible rfl
 try simp only [Act.put, List.setIfInBounds_toArray, List.set_cons_zero, List.set_cons_succ]
 refine wpAnyH_take (i := 6) (oi := { dst := (some 19), op := (Op.pick (Operand.tmp 16) (Operand.const (Value.bool true)) (Operand.tmp 18)), type := 4, pos := "mem.go:102", after := #[{ on := 3, ground := Ground.data }, { on := 5, ground := Ground.data }], guard := none }) (v := ?_) rfl (by kernel_rfl) (by kernel_rfl) (by kernel_rfl) (fun _ _ _ h => h) (Or.inl ⟨by rfl, ?_⟩) hHeld ?_
 rotate_left
 ·intro w hSw; (try dsimp only at hSw); go_simp; try with_reducible rfl
 try simp only [Act.put, List.setIfInBounds_toArray, List.set_cons_zero, List.set_cons_succ]
 refine wpAnyH_take (i := 7) (oi := { dst := (some 20), op := (Op.move (Operand.tmp 19)), type := 4, pos := "mem.go:102", after := #[{ on := 6, ground := Ground.data }, { on := 3, ground := Ground.chain }], guard := none }) (v := ?_) rfl (by kernel_rfl) (by kernel_rfl) (by kernel_rfl) (fun _ _ _ h => h) (Or.inl ⟨by rfl, ?_⟩) hHeld ?_
 rotate_left
 ·intro w hSw; (try dsimp only at hSw); go_simp; try with_reducible rfl
 try simp only [Act.put, List.setIfInBounds_toArray, List.set_cons_zero, List.set_cons_succ]
 refine wpAnyH_take (i := 8) (oi := { dst := (some 21), op := (Op.move (Operand.tmp 8)), type := 79, pos := "mem.go:102", after := #[{ on := 7, ground := Ground.guard }], guard := (some (7, false)) }) (v := ?_) rfl (by kernel_rfl) (by kernel_rfl) (by kernel_rfl) (fun _ _ _ h => h) (Or.inl ⟨by rfl, ?_⟩) hHeld ?_
 rotate_left
 ·intro w hSw; (try dsimp only at hSw); go_simp; try with_reducible rfl
 try simp only [Act.put, List.setIfInBounds_toArray, List.set_cons_zero, List.set_cons_succ]
 refine wpAnyH_take (i := 9) (oi := { dst := (some 22), op := (Op.nilCheck (Operand.tmp 21)), type := 0, pos := "mem.go:102", after := #[{ on := 8, ground := Ground.data }, { on := 7, ground := Ground.guard }], guard := (some (7, false)) }) (v := ?_) rfl (by kernel_rfl) (by kernel_rfl) (by kernel_rfl) (fun _ _ _ h => h) (Or.inl ⟨by rfl, ?_⟩) hHeld ?_
 rotate_left
 ·intro w hSw; (try dsimp only at hSw); go_simp; try with_reducible rfl
 try simp only [Act.put, List.setIfInBounds_toArray, List.set_cons_zero, List.set_cons_succ]
 refine wpAnyH_take (i := 10) (oi := { dst := (some 23), op := (Op.fieldAddr 75 (Operand.tmp 22) 2), type := 0, pos := "mem.go:102", after := #[{ on := 9, ground := Ground.data }, { on := 7, ground := Ground.guard }], guard := (some (7, false)) }) (v := ?_) rfl (by kernel_rfl) (by kernel_rfl) (by kernel_rfl) (fun _ _ _ h => h) (Or.inl ⟨by rfl, ?_⟩) hHeld ?_
 rotate_left
 ·intro w hSw; (try dsimp only at hSw); go_simp; try with_reducible rfl
 try simp only [Act.put, List.setIfInBounds_toArray, List.set_cons_zero, List.set_cons_succ]
 refine wpAnyH_take (i := 11) (oi := { dst := (some 24), op := (Op.load 4 (Operand.tmp 23)), type := 4, pos := "mem.go:102", after := #[{ on := 10, ground := Ground.data }, { on := 7, ground := Ground.guard }], guard := (some (7, false)) }) (v := ?_) rfl (by kernel_rfl) (by kernel_rfl) (by kernel_rfl) (fun _ _ _ h => h) (Or.inl ⟨by rfl, ?_⟩) hHeld ?_
 rotate_left
 ·intro w hSw; (try dsimp only at hSw); go_simp; try with_reducible rfl
 try simp only [Act.put, List.setIfInBounds_toArray, List.set_cons_zero, List.set_cons_succ]
 refine wpAnyH_take (i := 12) (oi := { dst := (some 25), op := (Op.unOp UnOp.not 4 (Operand.tmp 24)), type := 4, pos := "mem.go:102", after := #[{ on := 11, ground := Ground.data }, { on := 7, ground := Ground.guard }], guard := (some (7, false)) }) (v := ?_) rfl (by kernel_rfl) (by kernel_rfl) (by kernel_rfl) (fun _ _ _ h => h) (Or.inl ⟨by rfl, ?_⟩) hHeld ?_
 rotate_left
 ·intro w hSw; (try dsimp only at hSw); go_simp; try with_reducible rfl
 try simp only [Act.put, List.setIfInBounds_toArray, List.set_cons_zero, List.set_cons_succ]
 refine wpAnyH_take (i := 13) (oi := { dst := (some 26), op := (Op.pick (Operand.tmp 20) (Operand.const (Value.bool true)) (Operand.tmp 25)), type := 4, pos := "mem.go:102", after := #[{ on := 7, ground := Ground.data }, { on := 12, ground := Ground.data }], guard := none }) (v := ?_) rfl (by kernel_rfl) (by kernel_rfl) (by kernel_rfl) (fun _ _ _ h => h) (Or.inl ⟨by rfl, ?_⟩) hHeld ?_
 rotate_left
 ·intro w hSw; (try dsimp only at hSw); go_simp; try with_reducible rfl
 try simp only [Act.put, List.setIfInBounds_toArray, List.set_cons_zero, List.set_cons_succ]
 refine wpAnyH_take (i := 14) (oi := { dst := (some 27), op := (Op.move (Operand.tmp 26)), type := 4, pos := "mem.go:102", after := #[{ on := 13, ground := Ground.data }, { on := 7, ground := Ground.chain }], guard := none }) (v := ?_) rfl (by kernel_rfl) (by kernel_rfl) (by kernel_rfl) (fun _ _ _ h => h) (Or.inl ⟨by rfl, ?_⟩) hHeld ?_
 rotate_left
 ·intro w hSw; (try dsimp only at hSw); go_simp; try with_reducible rfl
 try simp only [Act.put, List.setIfInBounds_toArray, List.set_cons_zero, List.set_cons_succ]
 refine wpAnyH_take (i := 15) (oi := { dst := (some 28), op := (Op.move (Operand.tmp 2)), type := 2, pos := "mem.go:102", after := #[{ on := 14, ground := Ground.guard }], guard := (some (14, false)) }) (v := ?_) rfl (by kernel_rfl) (by kernel_rfl) (by kernel_rfl) (fun _ _ _ h => h) (Or.inl ⟨by rfl, ?_⟩) hHeld ?_
 rotate_left
 ·intro w hSw; (try dsimp only at hSw); go_simp; try with_reducible rfl
 try simp only [Act.put, List.setIfInBounds_toArray, List.set_cons_zero, List.set_cons_succ]
 refine wpAnyH_take (i := 16) (oi := { dst := (some 29), op := (Op.binOp BinOp.lss 2 (Operand.tmp 28) (Operand.const (Value.int IntKind.i64 0)) 2), type := 4, pos := "mem.go:102", after := #[{ on := 15, ground := Ground.data }, { on := 14, ground := Ground.guard }], guard := (some (14, false)) }) (v := ?_) rfl (by kernel_rfl) (by kernel_rfl) (by kernel_rfl) (fun _ _ _ h => h) (Or.inl ⟨by rfl, ?_⟩) hHeld ?_
 rotate_left
 ·intro w hSw; (try dsimp only at hSw); go_simp; try with_reducible rfl
 try simp only [Act.put, List.setIfInBounds_toArray, List.set_cons_zero, List.set_cons_succ]
 refine wpAnyH_take (i := 17) (oi := { dst := (some 30), op := (Op.pick (Operand.tmp 27) (Operand.const (Value.bool true)) (Operand.tmp 29)), type := 4, pos := "mem.go:102", after := #[{ on := 14, ground := Ground.data }, { on := 16, ground := Ground.data }], guard := none }) (v := ?_) rfl (by kernel_rfl) (by kernel_rfl) (by kernel_rfl) (fun _ _ _ h => h) (Or.inl ⟨by rfl, ?_⟩) hHeld ?_
 rotate_left
 ·intro w hSw; (try dsimp only at hSw); go_simp; try with_reducible rfl
 try simp only [Act.put, List.setIfInBounds_toArray, List.set_cons_zero, List.set_cons_succ]
 refine wpAnyH_take (i := 18) (oi := { dst := (some 31), op := (Op.move (Operand.tmp 30)), type := 4, pos := "mem.go:102", after := #[{ on := 17, ground := Ground.data }, { on := 14, ground := Ground.chain }], guard := none }) (v := ?_) rfl (by kernel_rfl) (by kernel_rfl) (by kernel_rfl) (fun _ _ _ h => h) (Or.inl ⟨by rfl, ?_⟩) hHeld ?_
 rotate_left
 ·intro w hSw; (try dsimp only at hSw); go_simp; try with_reducible rfl
 try simp only [Act.put, List.setIfInBounds_toArray, List.set_cons_zero, List.set_cons_succ]
 refine wpAnyH_take (i := 19) (oi := { dst := (some 32), op := (Op.move (Operand.tmp 2)), type := 2, pos := "mem.go:102", after := #[{ on := 18, ground := Ground.guard }], guard := (some (18, false)) }) (v := ?_) rfl (by kernel_rfl) (by kernel_rfl) (by kernel_rfl) (fun _ _ _ h => h) (Or.inl ⟨by rfl, ?_⟩) hHeld ?_
 rotate_left
 ·intro w hSw; (try dsimp only at hSw); go_simp; try with_reducible rfl
 try simp only [Act.put, List.setIfInBounds_toArray, List.set_cons_zero, List.set_cons_succ]
 refine wpAnyH_take (i := 20) (oi := { dst := (some 33), op := (Op.binOp BinOp.gtr 2 (Operand.tmp 32) (Operand.const (Value.int IntKind.i64 4096)) 2), type := 4, pos := "mem.go:102", after := #[{ on := 19, ground := Ground.data }, { on := 18, ground := Ground.guard }], guard := (some (18, false)) }) (v := ?_) rfl (by kernel_rfl) (by kernel_rfl) (by kernel_rfl) (fun _ _ _ h => h) (Or.inl ⟨by rfl, ?_⟩) hHeld ?_
 rotate_left
 ·intro w hSw; (try dsimp only at hSw); go_simp; try with_reducible rfl
 try simp only [Act.put, List.setIfInBounds_toArray, List.set_cons_zero, List.set_cons_succ]
 refine wpAnyH_take (i := 21) (oi := { dst := (some 34), op := (Op.pick (Operand.tmp 31) (Operand.const (Value.bool true)) (Operand.tmp 33)), type := 4, pos := "mem.go:102", after := #[{ on := 18, ground := Ground.data }, { on := 20, ground := Ground.data }], guard := none }) (v := ?_) rfl (by kernel_rfl) (by kernel_rfl) (by kernel_rfl) (fun _ _ _ h => h) (Or.inl ⟨by rfl, ?_⟩) hHeld ?_
 rotate_left
 ·intro w hSw; (try dsimp only at hSw); go_simp; try with_reducible rfl
 try simp only [Act.put, List.setIfInBounds_toArray, List.set_cons_zero, List.set_cons_succ]
 refine wpAnyH_take (i := 22) (oi := { dst := (some 35), op := (Op.move (Operand.tmp 34)), type := 4, pos := "mem.go:102", after := #[{ on := 21, ground := Ground.data }, { on := 18, ground := Ground.chain }], guard := none }) (v := ?_) rfl (by kernel_rfl) (by kernel_rfl) (by kernel_rfl) (fun _ _ _ h => h) (Or.inl ⟨by rfl, ?_⟩) hHeld ?_
 rotate_left
 ·intro w hSw; (try dsimp only at hSw); go_simp; try with_reducible rfl
 try simp only [Act.put, List.setIfInBounds_toArray, List.set_cons_zero, List.set_cons_succ]
 refine wpAnyH_take (i := 23) (oi := { dst := (some 36), op := (Op.fieldAddr 23 (Operand.tmp 4) 0), type := 0, pos := "mem.go:102", after := #[{ on := 22, ground := Ground.guard }], guard := (some (22, false)) }) (v := ?_) rfl (by kernel_rfl) (by kernel_rfl) (by kernel_rfl) (fun _ _ _ h => h) (Or.inl ⟨by rfl, ?_⟩) hHeld ?_
 rotate_left
 ·intro w hSw; (try dsimp only at hSw); go_simp; try with_reducible rfl
 try simp only [Act.put, List.setIfInBounds_toArray, List.set_cons_zero, List.set_cons_succ]
 refine wpAnyH_take (i := 24) (oi := { dst := (some 37), op := (Op.load 2 (Operand.tmp 36)), type := 2, pos := "mem.go:102", after := #[{ on := 23, ground := Ground.data }, { on := 22, ground := Ground.guard }], guard := (some (22, false)) }) (v := ?_) rfl (by kernel_rfl) (by kernel_rfl) (by kernel_rfl) (fun _ _ _ h => h) (Or.inl ⟨by rfl, ?_⟩) hHeld ?_
 rotate_left
 ·intro w hSw; (try dsimp only at hSw); go_simp; try with_reducible rfl
 try simp only [Act.put, List.setIfInBounds_toArray, List.set_cons_zero, List.set_cons_succ]
 refine wpAnyH_take (i := 25) (oi := { dst := (some 38), op := (Op.binOp BinOp.lss 2 (Operand.tmp 37) (Operand.const (Value.int IntKind.i64 0)) 2), type := 4, pos := "mem.go:102", after := #[{ on := 24, ground := Ground.data }, { on := 22, ground := Ground.guard }], guard := (some (22, false)) }) (v := ?_) rfl (by kernel_rfl) (by kernel_rfl) (by kernel_rfl) (fun _ _ _ h => h) (Or.inl ⟨by rfl, ?_⟩) hHeld ?_
 rotate_left
 ·intro w hSw; (try dsimp only at hSw); go_simp; try with_reducible rfl
 try simp only [Act.put, List.setIfInBounds_toArray, List.set_cons_zero, List.set_cons_succ]
 refine wpAnyH_take (i := 26) (oi := { dst := (some 39), op := (Op.pick (Operand.tmp 35) (Operand.const (Value.bool true)) (Operand.tmp 38)), type := 4, pos := "mem.go:102", after := #[{ on := 22, ground := Ground.data }, { on := 25, ground := Ground.data }], guard := none }) (v := ?_) rfl (by kernel_rfl) (by kernel_rfl) (by kernel_rfl) (fun _ _ _ h => h) (Or.inl ⟨by rfl, ?_⟩) hHeld ?_
 rotate_left
 ·intro w hSw; (try dsimp only at hSw); go_simp; try with_reducible rfl
 try simp only [Act.put, List.setIfInBounds_toArray, List.set_cons_zero, List.set_cons_succ]
 refine wpAnyH_take (i := 27) (oi := { dst := (some 40), op := (Op.move (Operand.tmp 39)), type := 4, pos := "mem.go:102", after := #[{ on := 26, ground := Ground.data }, { on := 22, ground := Ground.chain }], guard := none }) (v := ?_) rfl (by kernel_rfl) (by kernel_rfl) (by kernel_rfl) (fun _ _ _ h => h) (Or.inl ⟨by rfl, ?_⟩) hHeld ?_
 rotate_left
 ·intro w hSw; (try dsimp only at hSw); go_simp; try with_reducible rfl
 try simp only [Act.put, List.setIfInBounds_toArray, List.set_cons_zero, List.set_cons_succ]
 refine wpAnyH_take (i := 28) (oi := { dst := (some 41), op := (Op.fieldAddr 23 (Operand.tmp 4) 0), type := 0, pos := "mem.go:102", after := #[{ on := 27, ground := Ground.guard }], guard := (some (27, false)) }) (v := ?_) rfl (by kernel_rfl) (by kernel_rfl) (by kernel_rfl) (fun _ _ _ h => h) (Or.inl ⟨by rfl, ?_⟩) hHeld ?_
 rotate_left
 ·intro w hSw; (try dsimp only at hSw); go_simp; try with_reducible rfl
 try simp only [Act.put, List.setIfInBounds_toArray, List.set_cons_zero, List.set_cons_succ]
 refine wpAnyH_take (i := 29) (oi := { dst := (some 42), op := (Op.load 2 (Operand.tmp 41)), type := 2, pos := "mem.go:102", after := #[{ on := 28, ground := Ground.data }, { on := 27, ground := Ground.guard }], guard := (some (27, false)) }) (v := ?_) rfl (by kernel_rfl) (by kernel_rfl) (by kernel_rfl) (fun _ _ _ h => h) (Or.inl ⟨by rfl, ?_⟩) hHeld ?_
 rotate_left
 ·intro w hSw; (try dsimp only at hSw); go_simp; try with_reducible rfl
 try simp only [Act.put, List.setIfInBounds_toArray, List.set_cons_zero, List.set_cons_succ]
 refine wpAnyH_take (i := 30) (oi := { dst := (some 43), op := (Op.move (Operand.tmp 8)), type := 79, pos := "mem.go:102", after := #[{ on := 27, ground := Ground.guard }], guard := (some (27, false)) }) (v := ?_) rfl (by kernel_rfl) (by kernel_rfl) (by kernel_rfl) (fun _ _ _ h => h) (Or.inl ⟨by rfl, ?_⟩) hHeld ?_
 rotate_left
 ·intro w hSw; (try dsimp only at hSw); go_simp; try with_reducible rfl
 try simp only [Act.put, List.setIfInBounds_toArray, List.set_cons_zero, List.set_cons_succ]
 refine wpAnyH_take (i := 31) (oi := { dst := (some 44), op := (Op.nilCheck (Operand.tmp 43)), type := 0, pos := "mem.go:102", after := #[{ on := 30, ground := Ground.data }, { on := 27, ground := Ground.guard }], guard := (some (27, false)) }) (v := ?_) rfl (by kernel_rfl) (by kernel_rfl) (by kernel_rfl) (fun _ _ _ h => h) (Or.inl ⟨by rfl, ?_⟩) hHeld ?_
 rotate_left
 ·intro w hSw; (try dsimp only at hSw); go_simp; try with_reducible rfl
 try simp only [Act.put, List.setIfInBounds_toArray, List.set_cons_zero, List.set_cons_succ]
 refine wpAnyH_take (i := 32) (oi := { dst := (some 45), op := (Op.fieldAddr 75 (Operand.tmp 44) 1), type := 0, pos := "mem.go:102", after := #[{ on := 31, ground := Ground.data }, { on := 27, ground := Ground.guard }], guard := (some (27, false)) }) (v := ?_) rfl (by kernel_rfl) (by kernel_rfl) (by kernel_rfl) (fun _ _ _ h => h) (Or.inl ⟨by rfl, ?_⟩) hHeld ?_
 rotate_left
 ·intro w hSw; (try dsimp only at hSw); go_simp; try with_reducible rfl
 try simp only [Act.put, List.setIfInBounds_toArray, List.set_cons_zero, List.set_cons_succ]
 refine wpAnyH_take (i := 33) (oi := { dst := (some 46), op := (Op.load 38 (Operand.tmp 45)), type := 38, pos := "mem.go:102", after := #[{ on := 32, ground := Ground.data }, { on := 27, ground := Ground.guard }], guard := (some (27, false)) }) (v := ?_) rfl (by kernel_rfl) (by kernel_rfl) (by kernel_rfl) (fun _ _ _ h => h) (Or.inl ⟨by rfl, ?_⟩) hHeld ?_
 rotate_left
 ·intro w hSw; (try dsimp only at hSw); go_simp; try with_reducible rfl
 try simp only [Act.put, List.setIfInBounds_toArray, List.set_cons_zero, List.set_cons_succ]
 refine wpAnyH_take (i := 34) (oi := { dst := (some 47), op := (Op.call { callee := (Callee.builtin Builtin.len), args := #[(Operand.tmp 46)], argTypes := #[38] }), type := 3, pos := "mem.go:102", after := #[{ on := 33, ground := Ground.data }, { on := 27, ground := Ground.guard }], guard := (some (27, false)) }) (v := ?_) rfl (by kernel_rfl) (by kernel_rfl) (by kernel_rfl) (fun _ _ _ h => h) (Or.inl ⟨by rfl, ?_⟩) hHeld ?_
 rotate_left
 ·intro w hSw; (try dsimp only at hSw); go_simp; try with_reducible rfl
 try simp only [Act.put, List.setIfInBounds_toArray, List.set_cons_zero, List.set_cons_succ]
 refine wpAnyH_take (i := 35) (oi := { dst := (some 48), op := (Op.move (Operand.tmp 2)), type := 2, pos := "mem.go:102", after := #[{ on := 27, ground := Ground.guard }], guard := (some (27, false)) }) (v := ?_) rfl (by kernel_rfl) (by kernel_rfl) (by kernel_rfl) (fun _ _ _ h => h) (Or.inl ⟨by rfl, ?_⟩) hHeld ?_
 rotate_left
 ·intro w hSw; (try dsimp only at hSw); go_simp; try with_reducible rfl
 try simp only [Act.put, List.setIfInBounds_toArray, List.set_cons_zero, List.set_cons_succ]
 refine wpAnyH_take (i := 36) (oi := { dst := (some 49), op := (Op.binOp BinOp.sub 2 (Operand.tmp 47) (Operand.tmp 48) 2), type := 2, pos := "mem.go:102", after := #[{ on := 34, ground := Ground.data }, { on := 35, ground := Ground.data }, { on := 27, ground := Ground.guard }], guard := (some (27, false)) }) (v := ?_) rfl (by kernel_rfl) (by kernel_rfl) (by kernel_rfl) (fun _ _ _ h => h) (Or.inl ⟨by rfl, ?_⟩) hHeld ?_
 rotate_left
 ·intro w hSw; (try dsimp only at hSw); go_simp; try with_reducible rfl
 try simp only [Act.put, List.setIfInBounds_toArray, List.set_cons_zero, List.set_cons_succ]
 refine wpAnyH_take (i := 37) (oi := { dst := (some 50), op := (Op.binOp BinOp.gtr 2 (Operand.tmp 42) (Operand.tmp 49) 2), type := 4, pos := "mem.go:102", after := #[{ on := 29, ground := Ground.data }, { on := 36, ground := Ground.data }, { on := 27, ground := Ground.guard }], guard := (some (27, false)) }) (v := ?_) rfl (by kernel_rfl) (by kernel_rfl) (by kernel_rfl) (fun _ _ _ h => h) (Or.inl ⟨by rfl, ?_⟩) hHeld ?_
 rotate_left
 ·intro w hSw; (try dsimp only at hSw); go_simp; try with_reducible rfl
 try simp only [Act.put, List.setIfInBounds_toArray, List.set_cons_zero, List.set_cons_succ]
 refine wpAnyH_take (i := 38) (oi := { dst := (some 51), op := (Op.pick (Operand.tmp 40) (Operand.const (Value.bool true)) (Operand.tmp 50)), type := 4, pos := "mem.go:102", after := #[{ on := 27, ground := Ground.data }, { on := 37, ground := Ground.data }], guard := none }) (v := ?_) rfl (by kernel_rfl) (by kernel_rfl) (by kernel_rfl) (fun _ _ _ h => h) (Or.inl ⟨by rfl, ?_⟩) hHeld ?_
 rotate_left
 ·intro w hSw; (try dsimp only at hSw); go_simp; try with_reducible rfl
 try simp only [Act.put, List.setIfInBounds_toArray, List.set_cons_zero, List.set_cons_succ]
 refine wpAnyH_done (by kernel_rfl) ?_ _
 go_wp2_with fail
 exact bodyPost_ret (v := .tuple #[.slice none 0 0, .bool false]) (by simp [results, Try.results37, go_sem]) rfl ⟨rfl, HQ.out _ hHeld⟩
end Go.Proofs.Yteogfjhmjlelnaa.G
set_option linter.unusedVariables false
set_option linter.unusedSimpArgs false
namespace Go.Proofs.Yteogfjhmjlelnaa.G
open Go.RowKit Go.Proofs.Yteogfjhmjlelnaa.B Go.Proofs.YteogfjhmjlelnaaW.PrintWords Go.Proofs.YteogfjhmjlelnaaW.PrintLast Go.Proofs.YteogfjhmjlelnaaW.PrintMore
set_option maxRecDepth 100000 in
set_option maxHeartbeats 4000000 in
theorem part_ok (p : Vl) (n : Int) (gm g cap : Nat) (bs : List Blk) (b : Blk) (w : World) (hM : IsMem w gm (.slice (some ⟨g, 0, none⟩) bs.length cap) bs) (hp : (decide (0 < p.b) && p.f == 0) = true) (hb : bs[p.b.toNat - 1]? = some b) (hs : b.n ≤ 4096) (ht : b.there = true) (h4 : 0 ≤ n) (h5 : n ≤ 4096) (h6 : 0 ≤ p.n) (h7 : p.n ≤ (b.n : Int) - n) :
  Calls Try.prog 37 #[.pointer (some ⟨gm, 0, none⟩), .agg #[.int .i64 p.n, .int .i64 p.b, .int .i64 p.f], .int .i64 n] w fun e w' => ∃ A, e = .returned (.tuple #[.slice A n.toNat n.toNat, .bool true]) ∧ (0 < n → A = some ⟨b.gb, p.n.toNat * 5, none⟩) ∧ Below w.heap.size w w' := by
 have hp0 : 0 < p.b := by simp at hp; exact hp.1
 have hlt : p.b ≤ bs.length := by have := (List.getElem?_eq_some_iff.1 hb).1; omega
 obtain ⟨g', cap', hv, _, _, _, hf⟩ := hM.form (by omega)
 cases hv
 have hr1 := hf _ _ hb 1 _ rfl
 have hr2 := hf _ _ hb 2 _ rfl
 rw [Nat.mul_comm 3] at hr1 hr2
 have HR1 := Aside0.mk hr1
 have HR2 := Aside0.mk hr2
 have HP0 := Aside0.mk hp0
 have HLT := Aside0.mk hlt
 clear hf hr1 hr2 hb hp0 hlt
 have q4 : decide (n < 0) = false := decide_eq_false (by omega)
 have q5 : decide (4096 < n) = false := decide_eq_false (by omega)
 have q6 : decide (p.n < 0) = false := decide_eq_false (by omega)
 have q7 : decide ((b.n : Int) - n < p.n) = false := decide_eq_false (by omega)
 have hw1 : IntKind.i64.wrap ((b.n : Int) - n) = (b.n : Int) - n := by rw [IntKind.wrap_i64]; omega
 have hB := Aside0.mk (q10 (Below.refl w.heap.size w) (.cells #[.int .i64 p.n, .int .i64 p.b, .int .i64 p.f] 23))
 have hX := Aside0.mk (q33 w (.cells #[.int .i64 p.n, .int .i64 p.b, .int .i64 p.f] 23))
 have HM := Aside0.mk (IsMem.alloc hM (.cells #[.int .i64 p.n, .int .i64 p.b, .int .i64 p.f] 23))
 clear hM
 go_enter Try.func37, Try.ntmps37
 go_upto_region 1 with (fail)
 replace HR1 := Aside0.mk (q22 (q10 (Below.refl w.heap.size w) (.cells #[.int .i64 p.n, .int .i64 p.b, .int .i64 p.f] 23)) HR1.out)
 replace HR2 := Aside0.mk (q22 (q10 (Below.refl w.heap.size w) (.cells #[.int .i64 p.n, .int .i64 p.b, .int .i64 p.f] 23)) HR2.out)
 generalize w.alloc (.cells #[.int .i64 p.n, .int .i64 p.b, .int .i64 p.f] 23) = W at hB hX HM HR1 HR2 ⊢
 have hx := cell3 hX.out
 go_upto_region 2 with (first | (go_at_call 35; refine (find_hit _ gm g cap bs _ HM.out (by have := HP0.out; omega) HLT.out).mono ?_))
 rintro e w1 ⟨rfl, rfl⟩
 have hS : (w1.cell? ⟨w.heap.size, 0, none⟩ = some (.int .i64 p.n) ∧ w1.cell? ⟨w.heap.size, 1, none⟩ = some (.int .i64 p.b) ∧ w1.cell? ⟨w.heap.size, 2, none⟩ = some (.int .i64 p.f) ∧ w1.cell? ⟨g, (p.b.toNat - 1) * 3 + 1, none⟩ = some (.slice (some ⟨b.gb, 0, none⟩) b.n b.n) ∧ w1.cell? ⟨g, (p.b.toNat - 1) * 3 + 2, none⟩ = some (.bool b.there) ∧ Below w.heap.size w w1) := ⟨hx.1, hx.2.1, hx.2.2, HR1.out, HR2.out, hB.out⟩
 clear hx hX hB HM HR1 HR2 HP0 HLT
 have HK := Aside0.mk (show ∀ Wa Wb : World, Below Wa.heap.size Wa Wb → (Wa.cell? ⟨w.heap.size, 0, none⟩ = some (.int .i64 p.n) ∧ Wa.cell? ⟨w.heap.size, 1, none⟩ = some (.int .i64 p.b) ∧ Wa.cell? ⟨w.heap.size, 2, none⟩ = some (.int .i64 p.f) ∧ Wa.cell? ⟨g, (p.b.toNat - 1) * 3 + 1, none⟩ = some (.slice (some ⟨b.gb, 0, none⟩) b.n b.n) ∧ Wa.cell? ⟨g, (p.b.toNat - 1) * 3 + 2, none⟩ = some (.bool b.there) ∧ Below w.heap.size w Wa) → (Wb.cell? ⟨w.heap.size, 0, none⟩ = some (.int .i64 p.n) ∧ Wb.cell? ⟨w.heap.size, 1, none⟩ = some (.int .i64 p.b) ∧ Wb.cell? ⟨w.heap.size, 2, none⟩ = some (.int .i64 p.f) ∧ Wb.cell? ⟨g, (p.b.toNat - 1) * 3 + 1, none⟩ = some (.slice (some ⟨b.gb, 0, none⟩) b.n b.n) ∧ Wb.cell? ⟨g, (p.b.toNat - 1) * 3 + 2, none⟩ = some (.bool b.there) ∧ Below w.heap.size w Wb) from fun _ _ hb h => ⟨q22 hb h.1, q22 hb h.2.1, q22 hb h.2.2.1, q22 hb h.2.2.2.1, q22 hb h.2.2.2.2.1, q20 h.2.2.2.2.2 hb⟩)
 have HQ := Aside0.mk (show ∀ Wa : World, (Wa.cell? ⟨w.heap.size, 0, none⟩ = some (.int .i64 p.n) ∧ Wa.cell? ⟨w.heap.size, 1, none⟩ = some (.int .i64 p.b) ∧ Wa.cell? ⟨w.heap.size, 2, none⟩ = some (.int .i64 p.f) ∧ Wa.cell? ⟨g, (p.b.toNat - 1) * 3 + 1, none⟩ = some (.slice (some ⟨b.gb, 0, none⟩) b.n b.n) ∧ Wa.cell? ⟨g, (p.b.toNat - 1) * 3 + 2, none⟩ = some (.bool b.there) ∧ Below w.heap.size w Wa) → Below w.heap.size w Wa from fun _ h => h.2.2.2.2.2)
 go_wp2_with fail
 refine wp_region_held_drew (S := fun w' => w'.cell? ⟨w.heap.size, 0, none⟩ = some (.int .i64 p.n) ∧ w'.cell? ⟨w.heap.size, 1, none⟩ = some (.int .i64 p.b) ∧ w'.cell? ⟨w.heap.size, 2, none⟩ = some (.int .i64 p.f) ∧ w'.cell? ⟨g, (p.b.toNat - 1) * 3 + 1, none⟩ = some (.slice (some ⟨b.gb, 0, none⟩) b.n b.n) ∧ w'.cell? ⟨g, (p.b.toNat - 1) * 3 + 2, none⟩ = some (.bool b.there) ∧ Below w.heap.size w w') (by kernel_rfl) ⟨hS.1, hS.2.1, hS.2.2.1, hS.2.2.2.1, hS.2.2.2.2.1, q39 hS.2.2.2.2.2⟩ (fun hHeld => ?_)
 refine wpAnyH_take (i := 0) (oi := { dst := (some 13), op := (Op.load 23 (Operand.tmp 4)), type := 23, pos := "mem.go:102", after := #[], guard := none }) (v := ?_) rfl (by kernel_rfl) (by kernel_rfl) (by kernel_rfl) (fun _ _ _ h => h) (Or.inl ⟨by rfl, ?_⟩) hHeld ?_
 rotate_left
 ·intro w hSw; (try dsimp only at hSw); go_simp; try with_reducible rfl
 try simp only [Act.put, List.setIfInBounds_toArray, List.set_cons_zero, List.set_cons_succ]
 refine wpAnyH_ready (rs := [1]) (by kernel_rfl) (by simp) ?_
 refine AllReadyH.cons (o := { dst := (some 14), op := (Op.call { callee := (Callee.value (Operand.func 34)), args := #[(Operand.tmp 13)], argTypes := #[23] }), type := 4, pos := "mem.go:102", after := #[{ on := 0, ground := Ground.data }], guard := none }) rfl (fun K hK => ?_) AllReadyH.nil
 go_simp
 refine (q34 p _).mono ?_
 rintro e w2 ⟨rfl, hb2⟩
 go_wp2_with fail
 refine hK.out _ _ (HK.out _ _ hb2 hHeld) (fun hHeld => ?_)
 clear hK K
 try simp only [Act.put, List.setIfInBounds_toArray, List.set_cons_zero, List.set_cons_succ]
 refine wpAnyH_take (i := 2) (oi := { dst := (some 15), op := (Op.unOp UnOp.not 4 (Operand.tmp 14)), type := 4, pos := "mem.go:102", after := #[{ on := 1, ground := Ground.data }], guard := none }) (v := ?_) rfl (by kernel_rfl) (by kernel_rfl) (by kernel_rfl) (fun _ _ _ h => h) (Or.inl ⟨by rfl, ?_⟩) hHeld ?_
 rotate_left
 ·intro w hSw; (try dsimp only at hSw); go_simp; try with_reducible rfl
 try simp only [Act.put, List.setIfInBounds_toArray, List.set_cons_zero, List.set_cons_succ]
 refine wpAnyH_take (i := 3) (oi := { dst := (some 16), op := (Op.move (Operand.tmp 15)), type := 4, pos := "mem.go:102", after := #[{ on := 2, ground := Ground.data }, { on := 1, ground := Ground.chain }], guard := none }) (v := ?_) rfl (by kernel_rfl) (by kernel_rfl) (by kernel_rfl) (fun _ _ _ h => h) (Or.inl ⟨by rfl, ?_⟩) hHeld ?_
 rotate_left
 ·intro w hSw; (try dsimp only at hSw); go_simp; try with_reducible rfl
 try simp only [Act.put, List.setIfInBounds_toArray, List.set_cons_zero, List.set_cons_succ]
 refine wpAnyH_take (i := 4) (oi := { dst := (some 17), op := (Op.move (Operand.tmp 8)), type := 79, pos := "mem.go:102", after := #[{ on := 3, ground := Ground.guard }], guard := (some (3, false)) }) (v := ?_) rfl (by kernel_rfl) (by kernel_rfl) (by kernel_rfl) (fun _ _ _ h => h) (Or.inl ⟨by rfl, ?_⟩) hHeld ?_
 rotate_left
 ·intro w hSw; (try dsimp only at hSw); go_simp; try with_reducible rfl
 try simp only [Act.put, List.setIfInBounds_toArray, List.set_cons_zero, List.set_cons_succ]
 refine wpAnyH_take (i := 5) (oi := { dst := (some 18), op := (Op.binOp BinOp.eql 79 (Operand.tmp 17) (Operand.const (Value.pointer none)) 79), type := 4, pos := "mem.go:102", after := #[{ on := 4, ground := Ground.data }, { on := 3, ground := Ground.guard }], guard := (some (3, false)) }) (v := ?_) rfl (by kernel_rfl) (by kernel_rfl) (by kernel_rfl) (fun _ _ _ h => h) (Or.inl ⟨by rfl, ?_⟩) hHeld ?_
 rotate_left
 ·intro w hSw; (try dsimp only at hSw); go_simp; try with_reducible rfl
 try simp only [Act.put, List.setIfInBounds_toArray, List.set_cons_zero, List.set_cons_succ]
 refine wpAnyH_take (i := 6) (oi := { dst := (some 19), op := (Op.pick (Operand.tmp 16) (Operand.const (Value.bool true)) (Operand.tmp 18)), type := 4, pos := "mem.go:102", after := #[{ on := 3, ground := Ground.data }, { on := 5, ground := Ground.data }], guard := none }) (v := ?_) rfl (by kernel_rfl) (by kernel_rfl) (by kernel_rfl) (fun _ _ _ h => h) (Or.inl ⟨by rfl, ?_⟩) hHeld ?_
 rotate_left
 ·intro w hSw; (try dsimp only at hSw); go_simp; try with_reducible rfl
 try simp only [Act.put, List.setIfInBounds_toArray, List.set_cons_zero, List.set_cons_succ]
 refine wpAnyH_take (i := 7) (oi := { dst := (some 20), op := (Op.move (Operand.tmp 19)), type := 4, pos := "mem.go:102", after := #[{ on := 6, ground := Ground.data }, { on := 3, ground := Ground.chain }], guard := none }) (v := ?_) rfl (by kernel_rfl) (by kernel_rfl) (by kernel_rfl) (fun _ _ _ h => h) (Or.inl ⟨by rfl, ?_⟩) hHeld ?_
 rotate_left
 ·intro w hSw; (try dsimp only at hSw); go_simp; try with_reducible rfl
 try simp only [Act.put, List.setIfInBounds_toArray, List.set_cons_zero, List.set_cons_succ]
 refine wpAnyH_take (i := 8) (oi := { dst := (some 21), op := (Op.move (Operand.tmp 8)), type := 79, pos := "mem.go:102", after := #[{ on := 7, ground := Ground.guard }], guard := (some (7, false)) }) (v := ?_) rfl (by kernel_rfl) (by kernel_rfl) (by kernel_rfl) (fun _ _ _ h => h) (Or.inl ⟨by rfl, ?_⟩) hHeld ?_
 rotate_left
 ·intro w hSw; (try dsimp only at hSw); go_simp; try with_reducible rfl
 try simp only [Act.put, List.setIfInBounds_toArray, List.set_cons_zero, List.set_cons_succ]
 refine wpAnyH_take (i := 9) (oi := { dst := (some 22), op := (Op.nilCheck (Operand.tmp 21)), type := 0, pos := "mem.go:102", after := #[{ on := 8, ground := Ground.data }, { on := 7, ground := Ground.guard }], guard := (some (7, false)) }) (v := ?_) rfl (by kernel_rfl) (by kernel_rfl) (by kernel_rfl) (fun _ _ _ h => h) (Or.inl ⟨by rfl, ?_⟩) hHeld ?_
 rotate_left
 ·intro w hSw; (try dsimp only at hSw); go_simp; try with_reducible rfl
 try simp only [Act.put, List.setIfInBounds_toArray, List.set_cons_zero, List.set_cons_succ]
 refine wpAnyH_take (i := 10) (oi := { dst := (some 23), op := (Op.fieldAddr 75 (Operand.tmp 22) 2), type := 0, pos := "mem.go:102", after := #[{ on := 9, ground := Ground.data }, { on := 7, ground := Ground.guard }], guard := (some (7, false)) }) (v := ?_) rfl (by kernel_rfl) (by kernel_rfl) (by kernel_rfl) (fun _ _ _ h => h) (Or.inl ⟨by rfl, ?_⟩) hHeld ?_
 rotate_left
 ·intro w hSw; (try dsimp only at hSw); go_simp; try with_reducible rfl
 try simp only [Act.put, List.setIfInBounds_toArray, List.set_cons_zero, List.set_cons_succ]
 refine wpAnyH_take (i := 11) (oi := { dst := (some 24), op := (Op.load 4 (Operand.tmp 23)), type := 4, pos := "mem.go:102", after := #[{ on := 10, ground := Ground.data }, { on := 7, ground := Ground.guard }], guard := (some (7, false)) }) (v := ?_) rfl (by kernel_rfl) (by kernel_rfl) (by kernel_rfl) (fun _ _ _ h => h) (Or.inl ⟨by rfl, ?_⟩) hHeld ?_
 rotate_left
 ·intro w hSw; (try dsimp only at hSw); go_simp; try with_reducible rfl
 try simp only [Act.put, List.setIfInBounds_toArray, List.set_cons_zero, List.set_cons_succ]
 refine wpAnyH_take (i := 12) (oi := { dst := (some 25), op := (Op.unOp UnOp.not 4 (Operand.tmp 24)), type := 4, pos := "mem.go:102", after := #[{ on := 11, ground := Ground.data }, { on := 7, ground := Ground.guard }], guard := (some (7, false)) }) (v := ?_) rfl (by kernel_rfl) (by kernel_rfl) (by kernel_rfl) (fun _ _ _ h => h) (Or.inl ⟨by rfl, ?_⟩) hHeld ?_
 rotate_left
 ·intro w hSw; (try dsimp only at hSw); go_simp; try with_reducible rfl
 try simp only [Act.put, List.setIfInBounds_toArray, List.set_cons_zero, List.set_cons_succ]
 refine wpAnyH_take (i := 13) (oi := { dst := (some 26), op := (Op.pick (Operand.tmp 20) (Operand.const (Value.bool true)) (Operand.tmp 25)), type := 4, pos := "mem.go:102", after := #[{ on := 7, ground := Ground.data }, { on := 12, ground := Ground.data }], guard := none }) (v := ?_) rfl (by kernel_rfl) (by kernel_rfl) (by kernel_rfl) (fun _ _ _ h => h) (Or.inl ⟨by rfl, ?_⟩) hHeld ?_
 rotate_left
 ·intro w hSw; (try dsimp only at hSw); go_simp; try with_reducible rfl
 try simp only [Act.put, List.setIfInBounds_toArray, List.set_cons_zero, List.set_cons_succ]
 refine wpAnyH_take (i := 14) (oi := { dst := (some 27), op := (Op.move (Operand.tmp 26)), type := 4, pos := "mem.go:102", after := #[{ on := 13, ground := Ground.data }, { on := 7, ground := Ground.chain }], guard := none }) (v := ?_) rfl (by kernel_rfl) (by kernel_rfl) (by kernel_rfl) (fun _ _ _ h => h) (Or.inl ⟨by rfl, ?_⟩) hHeld ?_
 rotate_left
 ·intro w hSw; (try dsimp only at hSw); go_simp; try with_reducible rfl
 try simp only [Act.put, List.setIfInBounds_toArray, List.set_cons_zero, List.set_cons_succ]
 refine wpAnyH_take (i := 15) (oi := { dst := (some 28), op := (Op.move (Operand.tmp 2)), type := 2, pos := "mem.go:102", after := #[{ on := 14, ground := Ground.guard }], guard := (some (14, false)) }) (v := ?_) rfl (by kernel_rfl) (by kernel_rfl) (by kernel_rfl) (fun _ _ _ h => h) (Or.inl ⟨by rfl, ?_⟩) hHeld ?_
 rotate_left
 ·intro w hSw; (try dsimp only at hSw); go_simp; try with_reducible rfl
 try simp only [Act.put, List.setIfInBounds_toArray, List.set_cons_zero, List.set_cons_succ]
 refine wpAnyH_take (i := 16) (oi := { dst := (some 29), op := (Op.binOp BinOp.lss 2 (Operand.tmp 28) (Operand.const (Value.int IntKind.i64 0)) 2), type := 4, pos := "mem.go:102", after := #[{ on := 15, ground := Ground.data }, { on := 14, ground := Ground.guard }], guard := (some (14, false)) }) (v := ?_) rfl (by kernel_rfl) (by kernel_rfl) (by kernel_rfl) (fun _ _ _ h => h) (Or.inl ⟨by rfl, ?_⟩) hHeld ?_
 rotate_left
 ·intro w hSw; (try dsimp only at hSw); go_simp; try with_reducible rfl
 try simp only [Act.put, List.setIfInBounds_toArray, List.set_cons_zero, List.set_cons_succ]
 refine wpAnyH_take (i := 17) (oi := { dst := (some 30), op := (Op.pick (Operand.tmp 27) (Operand.const (Value.bool true)) (Operand.tmp 29)), type := 4, pos := "mem.go:102", after := #[{ on := 14, ground := Ground.data }, { on := 16, ground := Ground.data }], guard := none }) (v := ?_) rfl (by kernel_rfl) (by kernel_rfl) (by kernel_rfl) (fun _ _ _ h => h) (Or.inl ⟨by rfl, ?_⟩) hHeld ?_
 rotate_left
 ·intro w hSw; (try dsimp only at hSw); go_simp; try with_reducible rfl
 try simp only [Act.put, List.setIfInBounds_toArray, List.set_cons_zero, List.set_cons_succ]
 refine wpAnyH_take (i := 18) (oi := { dst := (some 31), op := (Op.move (Operand.tmp 30)), type := 4, pos := "mem.go:102", after := #[{ on := 17, ground := Ground.data }, { on := 14, ground := Ground.chain }], guard := none }) (v := ?_) rfl (by kernel_rfl) (by kernel_rfl) (by kernel_rfl) (fun _ _ _ h => h) (Or.inl ⟨by rfl, ?_⟩) hHeld ?_
 rotate_left
 ·intro w hSw; (try dsimp only at hSw); go_simp; try with_reducible rfl
 try simp only [Act.put, List.setIfInBounds_toArray, List.set_cons_zero, List.set_cons_succ]
 refine wpAnyH_take (i := 19) (oi := { dst := (some 32), op := (Op.move (Operand.tmp 2)), type := 2, pos := "mem.go:102", after := #[{ on := 18, ground := Ground.guard }], guard := (some (18, false)) }) (v := ?_) rfl (by kernel_rfl) (by kernel_rfl) (by kernel_rfl) (fun _ _ _ h => h) (Or.inl ⟨by rfl, ?_⟩) hHeld ?_
 rotate_left
 ·intro w hSw; (try dsimp only at hSw); go_simp; try with_reducible rfl
 try simp only [Act.put, List.setIfInBounds_toArray, List.set_cons_zero, List.set_cons_succ]
 refine wpAnyH_take (i := 20) (oi := { dst := (some 33), op := (Op.binOp BinOp.gtr 2 (Operand.tmp 32) (Operand.const (Value.int IntKind.i64 4096)) 2), type := 4, pos := "mem.go:102", after := #[{ on := 19, ground := Ground.data }, { on := 18, ground := Ground.guard }], guard := (some (18, false)) }) (v := ?_) rfl (by kernel_rfl) (by kernel_rfl) (by kernel_rfl) (fun _ _ _ h => h) (Or.inl ⟨by rfl, ?_⟩) hHeld ?_
 rotate_left
 ·intro w hSw; (try dsimp only at hSw); go_simp; try with_reducible rfl
 try simp only [Act.put, List.setIfInBounds_toArray, List.set_cons_zero, List.set_cons_succ]
 refine wpAnyH_take (i := 21) (oi := { dst := (some 34), op := (Op.pick (Operand.tmp 31) (Operand.const (Value.bool true)) (Operand.tmp 33)), type := 4, pos := "mem.go:102", after := #[{ on := 18, ground := Ground.data }, { on := 20, ground := Ground.data }], guard := none }) (v := ?_) rfl (by kernel_rfl) (by kernel_rfl) (by kernel_rfl) (fun _ _ _ h => h) (Or.inl ⟨by rfl, ?_⟩) hHeld ?_
 rotate_left
 ·intro w hSw; (try dsimp only at hSw); go_simp; try with_reducible rfl
 try simp only [Act.put, List.setIfInBounds_toArray, List.set_cons_zero, List.set_cons_succ]
 refine wpAnyH_take (i := 22) (oi := { dst := (some 35), op := (Op.move (Operand.tmp 34)), type := 4, pos := "mem.go:102", after := #[{ on := 21, ground := Ground.data }, { on := 18, ground := Ground.chain }], guard := none }) (v := ?_) rfl (by kernel_rfl) (by kernel_rfl) (by kernel_rfl) (fun _ _ _ h => h) (Or.inl ⟨by rfl, ?_⟩) hHeld ?_
 rotate_left
 ·intro w hSw; (try dsimp only at hSw); go_simp; try with_reducible rfl
 try simp only [Act.put, List.setIfInBounds_toArray, List.set_cons_zero, List.set_cons_succ]
 refine wpAnyH_take (i := 23) (oi := { dst := (some 36), op := (Op.fieldAddr 23 (Operand.tmp 4) 0), type := 0, pos := "mem.go:102", after := #[{ on := 22, ground := Ground.guard }], guard := (some (22, false)) }) (v := ?_) rfl (by kernel_rfl) (by kernel_rfl) (by kernel_rfl) (fun _ _ _ h => h) (Or.inl ⟨by rfl, ?_⟩) hHeld ?_
 rotate_left
 ·intro w hSw; (try dsimp only at hSw); go_simp; try with_reducible rfl
 try simp only [Act.put, List.setIfInBounds_toArray, List.set_cons_zero, List.set_cons_succ]
 refine wpAnyH_take (i := 24) (oi := { dst := (some 37), op := (Op.load 2 (Operand.tmp 36)), type := 2, pos := "mem.go:102", after := #[{ on := 23, ground := Ground.data }, { on := 22, ground := Ground.guard }], guard := (some (22, false)) }) (v := ?_) rfl (by kernel_rfl) (by kernel_rfl) (by kernel_rfl) (fun _ _ _ h => h) (Or.inl ⟨by rfl, ?_⟩) hHeld ?_
 rotate_left
 ·intro w hSw; (try dsimp only at hSw); go_simp; try with_reducible rfl
 try simp only [Act.put, List.setIfInBounds_toArray, List.set_cons_zero, List.set_cons_succ]
 refine wpAnyH_take (i := 25) (oi := { dst := (some 38), op := (Op.binOp BinOp.lss 2 (Operand.tmp 37) (Operand.const (Value.int IntKind.i64 0)) 2), type := 4, pos := "mem.go:102", after := #[{ on := 24, ground := Ground.data }, { on := 22, ground := Ground.guard }], guard := (some (22, false)) }) (v := ?_) rfl (by kernel_rfl) (by kernel_rfl) (by kernel_rfl) (fun _ _ _ h => h) (Or.inl ⟨by rfl, ?_⟩) hHeld ?_
 rotate_left
 ·intro w hSw; (try dsimp only at hSw); go_simp; try with_reducible rfl
 try simp only [Act.put, List.setIfInBounds_toArray, List.set_cons_zero, List.set_cons_succ]
 refine wpAnyH_take (i := 26) (oi := { dst := (some 39), op := (Op.pick (Operand.tmp 35) (Operand.const (Value.bool true)) (Operand.tmp 38)), type := 4, pos := "mem.go:102", after := #[{ on := 22, ground := Ground.data }, { on := 25, ground := Ground.data }], guard := none }) (v := ?_) rfl (by kernel_rfl) (by kernel_rfl) (by kernel_rfl) (fun _ _ _ h => h) (Or.inl ⟨by rfl, ?_⟩) hHeld ?_
 rotate_left
 ·intro w hSw; (try dsimp only at hSw); go_simp; try with_reducible rfl
 try simp only [Act.put, List.setIfInBounds_toArray, List.set_cons_zero, List.set_cons_succ]
 refine wpAnyH_take (i := 27) (oi := { dst := (some 40), op := (Op.move (Operand.tmp 39)), type := 4, pos := "mem.go:102", after := #[{ on := 26, ground := Ground.data }, { on := 22, ground := Ground.chain }], guard := none }) (v := ?_) rfl (by kernel_rfl) (by kernel_rfl) (by kernel_rfl) (fun _ _ _ h => h) (Or.inl ⟨by rfl, ?_⟩) hHeld ?_
 rotate_left
 ·intro w hSw; (try dsimp only at hSw); go_simp; try with_reducible rfl
 try simp only [Act.put, List.setIfInBounds_toArray, List.set_cons_zero, List.set_cons_succ]
 refine wpAnyH_take (i := 28) (oi := { dst := (some 41), op := (Op.fieldAddr 23 (Operand.tmp 4) 0), type := 0, pos := "mem.go:102", after := #[{ on := 27, ground := Ground.guard }], guard := (some (27, false)) }) (v := ?_) rfl (by kernel_rfl) (by kernel_rfl) (by kernel_rfl) (fun _ _ _ h => h) (Or.inl ⟨by rfl, ?_⟩) hHeld ?_
 rotate_left
 ·intro w hSw; (try dsimp only at hSw); go_simp; try with_reducible rfl
 try simp only [Act.put, List.setIfInBounds_toArray, List.set_cons_zero, List.set_cons_succ]
 refine wpAnyH_take (i := 29) (oi := { dst := (some 42), op := (Op.load 2 (Operand.tmp 41)), type := 2, pos := "mem.go:102", after := #[{ on := 28, ground := Ground.data }, { on := 27, ground := Ground.guard }], guard := (some (27, false)) }) (v := ?_) rfl (by kernel_rfl) (by kernel_rfl) (by kernel_rfl) (fun _ _ _ h => h) (Or.inl ⟨by rfl, ?_⟩) hHeld ?_
 rotate_left
 ·intro w hSw; (try dsimp only at hSw); go_simp; try with_reducible rfl
 try simp only [Act.put, List.setIfInBounds_toArray, List.set_cons_zero, List.set_cons_succ]
 refine wpAnyH_take (i := 30) (oi := { dst := (some 43), op := (Op.move (Operand.tmp 8)), type := 79, pos := "mem.go:102", after := #[{ on := 27, ground := Ground.guard }], guard := (some (27, false)) }) (v := ?_) rfl (by kernel_rfl) (by kernel_rfl) (by kernel_rfl) (fun _ _ _ h => h) (Or.inl ⟨by rfl, ?_⟩) hHeld ?_
 rotate_left
 ·intro w hSw; (try dsimp only at hSw); go_simp; try with_reducible rfl
 try simp only [Act.put, List.setIfInBounds_toArray, List.set_cons_zero, List.set_cons_succ]
 refine wpAnyH_take (i := 31) (oi := { dst := (some 44), op := (Op.nilCheck (Operand.tmp 43)), type := 0, pos := "mem.go:102", after := #[{ on := 30, ground := Ground.data }, { on := 27, ground := Ground.guard }], guard := (some (27, false)) }) (v := ?_) rfl (by kernel_rfl) (by kernel_rfl) (by kernel_rfl) (fun _ _ _ h => h) (Or.inl ⟨by rfl, ?_⟩) hHeld ?_
 rotate_left
 ·intro w hSw; (try dsimp only at hSw); go_simp; try with_reducible rfl
 try simp only [Act.put, List.setIfInBounds_toArray, List.set_cons_zero, List.set_cons_succ]
 refine wpAnyH_take (i := 32) (oi := { dst := (some 45), op := (Op.fieldAddr 75 (Operand.tmp 44) 1), type := 0, pos := "mem.go:102", after := #[{ on := 31, ground := Ground.data }, { on := 27, ground := Ground.guard }], guard := (some (27, false)) }) (v := ?_) rfl (by kernel_rfl) (by kernel_rfl) (by kernel_rfl) (fun _ _ _ h => h) (Or.inl ⟨by rfl, ?_⟩) hHeld ?_
 rotate_left
 ·intro w hSw; (try dsimp only at hSw); go_simp; try with_reducible rfl
 try simp only [Act.put, List.setIfInBounds_toArray, List.set_cons_zero, List.set_cons_succ]
 refine wpAnyH_take (i := 33) (oi := { dst := (some 46), op := (Op.load 38 (Operand.tmp 45)), type := 38, pos := "mem.go:102", after := #[{ on := 32, ground := Ground.data }, { on := 27, ground := Ground.guard }], guard := (some (27, false)) }) (v := ?_) rfl (by kernel_rfl) (by kernel_rfl) (by kernel_rfl) (fun _ _ _ h => h) (Or.inl ⟨by rfl, ?_⟩) hHeld ?_
 rotate_left
 ·intro w hSw; (try dsimp only at hSw); go_simp; try with_reducible rfl
 try simp only [Act.put, List.setIfInBounds_toArray, List.set_cons_zero, List.set_cons_succ]
 refine wpAnyH_take (i := 34) (oi := { dst := (some 47), op := (Op.call { callee := (Callee.builtin Builtin.len), args := #[(Operand.tmp 46)], argTypes := #[38] }), type := 3, pos := "mem.go:102", after := #[{ on := 33, ground := Ground.data }, { on := 27, ground := Ground.guard }], guard := (some (27, false)) }) (v := ?_) rfl (by kernel_rfl) (by kernel_rfl) (by kernel_rfl) (fun _ _ _ h => h) (Or.inl ⟨by rfl, ?_⟩) hHeld ?_
 rotate_left
 ·intro w hSw; (try dsimp only at hSw); go_simp; try with_reducible rfl
 try simp only [Act.put, List.setIfInBounds_toArray, List.set_cons_zero, List.set_cons_succ]
 refine wpAnyH_take (i := 35) (oi := { dst := (some 48), op := (Op.move (Operand.tmp 2)), type := 2, pos := "mem.go:102", after := #[{ on := 27, ground := Ground.guard }], guard := (some (27, false)) }) (v := ?_) rfl (by kernel_rfl) (by kernel_rfl) (by kernel_rfl) (fun _ _ _ h => h) (Or.inl ⟨by rfl, ?_⟩) hHeld ?_
 rotate_left
 ·intro w hSw; (try dsimp only at hSw); go_simp; try with_reducible rfl
 try simp only [Act.put, List.setIfInBounds_toArray, List.set_cons_zero, List.set_cons_succ]
 refine wpAnyH_take (i := 36) (oi := { dst := (some 49), op := (Op.binOp BinOp.sub 2 (Operand.tmp 47) (Operand.tmp 48) 2), type := 2, pos := "mem.go:102", after := #[{ on := 34, ground := Ground.data }, { on := 35, ground := Ground.data }, { on := 27, ground := Ground.guard }], guard := (some (27, false)) }) (v := ?_) rfl (by kernel_rfl) (by kernel_rfl) (by kernel_rfl) (fun _ _ _ h => h) (Or.inl ⟨by rfl, ?_⟩) hHeld ?_
 rotate_left
 ·intro w hSw; (try dsimp only at hSw); go_simp; try with_reducible rfl
 try simp only [Act.put, List.setIfInBounds_toArray, List.set_cons_zero, List.set_cons_succ]
 refine wpAnyH_take (i := 37) (oi := { dst := (some 50), op := (Op.binOp BinOp.gtr 2 (Operand.tmp 42) (Operand.tmp 49) 2), type := 4, pos := "mem.go:102", after := #[{ on := 29, ground := Ground.data }, { on := 36, ground := Ground.data }, { on := 27, ground := Ground.guard }], guard := (some (27, false)) }) (v := ?_) rfl (by kernel_rfl) (by kernel_rfl) (by kernel_rfl) (fun _ _ _ h => h) (Or.inl ⟨by rfl, ?_⟩) hHeld ?_
 rotate_left
 ·intro w hSw; (try dsimp only at hSw); go_simp; try with_reducible rfl
 try simp only [Act.put, List.setIfInBounds_toArray, List.set_cons_zero, List.set_cons_succ]
 refine wpAnyH_take (i := 38) (oi := { dst := (some 51), op := (Op.pick (Operand.tmp 40) (Operand.const (Value.bool true)) (Operand.tmp 50)), type := 4, pos := "mem.go:102", after := #[{ on := 27, ground := Ground.data }, { on := 37, ground := Ground.data }], guard := none }) (v := ?_) rfl (by kernel_rfl) (by kernel_rfl) (by kernel_rfl) (fun _ _ _ h => h) (Or.inl ⟨by rfl, ?_⟩) hHeld ?_
 rotate_left
 ·intro w hSw; (try dsimp only at hSw); go_simp; try with_reducible rfl
 try simp only [Act.put, List.setIfInBounds_toArray, List.set_cons_zero, List.set_cons_succ]
 refine wpAnyH_done (by kernel_rfl) ?_ _
 have hw2 : IntKind.i64.wrap (p.n + n) = p.n + n := by rw [IntKind.wrap_i64]; omega
 go_wp2_with fail
 have b1 : 0 ≤ p.n + n := by omega
 have b2 : p.n + n ≤ (b.n : Int) := by omega
 have b3 : max (p.n + n) 0 = p.n + n := by omega
 have b4 : p.n ≤ p.n + n := by omega
 have b5 : (p.n + n).toNat - p.n.toNat = n.toNat := by omega
 obtain ⟨A, hA⟩ : ∃ A : Option Addr, (if (p.n + n).toNat = p.n.toNat then some (⟨b.gb, 0, none⟩ : Addr) else some ⟨b.gb, p.n.toNat * 5, none⟩) = A := ⟨_, rfl⟩
 have HA := Aside0.mk hA
 clear q4 q5 q6 q7 h5 hw1
 refine wp_region_held_drew (S := fun w' => w'.cell? ⟨w.heap.size, 0, none⟩ = some (.int .i64 p.n) ∧ w'.cell? ⟨w.heap.size, 1, none⟩ = some (.int .i64 p.b) ∧ w'.cell? ⟨w.heap.size, 2, none⟩ = some (.int .i64 p.f) ∧ w'.cell? ⟨g, (p.b.toNat - 1) * 3 + 1, none⟩ = some (.slice (some ⟨b.gb, 0, none⟩) b.n b.n) ∧ w'.cell? ⟨g, (p.b.toNat - 1) * 3 + 2, none⟩ = some (.bool b.there) ∧ Below w.heap.size w w') (by kernel_rfl) ⟨hHeld.1, hHeld.2.1, hHeld.2.2.1, hHeld.2.2.2.1, hHeld.2.2.2.2.1, q39 hHeld.2.2.2.2.2⟩ (fun hHeld => ?_)
 refine wpAnyH_take (i := 0) (oi := { dst := (some 52), op := (Op.move (Operand.tmp 8)), type := 79, pos := "mem.go:105", after := #[], guard := none }) (v := ?_) rfl (by kernel_rfl) (by kernel_rfl) (by kernel_rfl) (fun _ _ _ h => h) (Or.inl ⟨by rfl, ?_⟩) hHeld ?_
 rotate_left
 ·intro w hSw; (try dsimp only at hSw); go_simp; try with_reducible rfl
 try simp only [Act.put, List.setIfInBounds_toArray, List.set_cons_zero, List.set_cons_succ]
 refine wpAnyH_take (i := 1) (oi := { dst := (some 53), op := (Op.nilCheck (Operand.tmp 52)), type := 0, pos := "mem.go:105", after := #[{ on := 0, ground := Ground.data }], guard := none }) (v := ?_) rfl (by kernel_rfl) (by kernel_rfl) (by kernel_rfl) (fun _ _ _ h => h) (Or.inl ⟨by rfl, ?_⟩) hHeld ?_
 rotate_left
 ·intro w hSw; (try dsimp only at hSw); go_simp; try with_reducible rfl
 try simp only [Act.put, List.setIfInBounds_toArray, List.set_cons_zero, List.set_cons_succ]
 refine wpAnyH_take (i := 2) (oi := { dst := (some 54), op := (Op.fieldAddr 75 (Operand.tmp 53) 1), type := 0, pos := "mem.go:105", after := #[{ on := 1, ground := Ground.data }], guard := none }) (v := ?_) rfl (by kernel_rfl) (by kernel_rfl) (by kernel_rfl) (fun _ _ _ h => h) (Or.inl ⟨by rfl, ?_⟩) hHeld ?_
 rotate_left
 ·intro w hSw; (try dsimp only at hSw); go_simp; try with_reducible rfl
 try simp only [Act.put, List.setIfInBounds_toArray, List.set_cons_zero, List.set_cons_succ]
 refine wpAnyH_take (i := 3) (oi := { dst := (some 55), op := (Op.load 38 (Operand.tmp 54)), type := 38, pos := "mem.go:105", after := #[{ on := 2, ground := Ground.data }], guard := none }) (v := ?_) rfl (by kernel_rfl) (by kernel_rfl) (by kernel_rfl) (fun _ _ _ h => h) (Or.inl ⟨by rfl, ?_⟩) hHeld ?_
 rotate_left
 ·intro w hSw; (try dsimp only at hSw); go_simp; try with_reducible rfl
 try simp only [Act.put, List.setIfInBounds_toArray, List.set_cons_zero, List.set_cons_succ]
 refine wpAnyH_take (i := 4) (oi := { dst := (some 56), op := (Op.fieldAddr 23 (Operand.tmp 4) 0), type := 0, pos := "mem.go:105", after := #[], guard := none }) (v := ?_) rfl (by kernel_rfl) (by kernel_rfl) (by kernel_rfl) (fun _ _ _ h => h) (Or.inl ⟨by rfl, ?_⟩) hHeld ?_
 rotate_left
 ·intro w hSw; (try dsimp only at hSw); go_simp; try with_reducible rfl
 try simp only [Act.put, List.setIfInBounds_toArray, List.set_cons_zero, List.set_cons_succ]
 refine wpAnyH_take (i := 5) (oi := { dst := (some 57), op := (Op.load 2 (Operand.tmp 56)), type := 2, pos := "mem.go:105", after := #[{ on := 4, ground := Ground.data }], guard := none }) (v := ?_) rfl (by kernel_rfl) (by kernel_rfl) (by kernel_rfl) (fun _ _ _ h => h) (Or.inl ⟨by rfl, ?_⟩) hHeld ?_
 rotate_left
 ·intro w hSw; (try dsimp only at hSw); go_simp; try with_reducible rfl
 try simp only [Act.put, List.setIfInBounds_toArray, List.set_cons_zero, List.set_cons_succ]
 refine wpAnyH_take (i := 6) (oi := { dst := (some 58), op := (Op.fieldAddr 23 (Operand.tmp 4) 0), type := 0, pos := "mem.go:105", after := #[], guard := none }) (v := ?_) rfl (by kernel_rfl) (by kernel_rfl) (by kernel_rfl) (fun _ _ _ h => h) (Or.inl ⟨by rfl, ?_⟩) hHeld ?_
 rotate_left
 ·intro w hSw; (try dsimp only at hSw); go_simp; try with_reducible rfl
 try simp only [Act.put, List.setIfInBounds_toArray, List.set_cons_zero, List.set_cons_succ]
 refine wpAnyH_take (i := 7) (oi := { dst := (some 59), op := (Op.load 2 (Operand.tmp 58)), type := 2, pos := "mem.go:105", after := #[{ on := 6, ground := Ground.data }], guard := none }) (v := ?_) rfl (by kernel_rfl) (by kernel_rfl) (by kernel_rfl) (fun _ _ _ h => h) (Or.inl ⟨by rfl, ?_⟩) hHeld ?_
 rotate_left
 ·intro w hSw; (try dsimp only at hSw); go_simp; try with_reducible rfl
 try simp only [Act.put, List.setIfInBounds_toArray, List.set_cons_zero, List.set_cons_succ]
 refine wpAnyH_take (i := 8) (oi := { dst := (some 60), op := (Op.move (Operand.tmp 2)), type := 2, pos := "mem.go:105", after := #[], guard := none }) (v := ?_) rfl (by kernel_rfl) (by kernel_rfl) (by kernel_rfl) (fun _ _ _ h => h) (Or.inl ⟨by rfl, ?_⟩) hHeld ?_
 rotate_left
 ·intro w hSw; (try dsimp only at hSw); go_simp; try with_reducible rfl
 try simp only [Act.put, List.setIfInBounds_toArray, List.set_cons_zero, List.set_cons_succ]
 refine wpAnyH_take (i := 9) (oi := { dst := (some 61), op := (Op.binOp BinOp.add 2 (Operand.tmp 59) (Operand.tmp 60) 2), type := 2, pos := "mem.go:105", after := #[{ on := 7, ground := Ground.data }, { on := 8, ground := Ground.data }], guard := none }) (v := ?_) rfl (by kernel_rfl) (by kernel_rfl) (by kernel_rfl) (fun _ _ _ h => h) (Or.inl ⟨by rfl, ?_⟩) hHeld ?_
 rotate_left
 ·intro w hSw; (try dsimp only at hSw); go_simp; try with_reducible rfl
 try simp only [Act.put, List.setIfInBounds_toArray, List.set_cons_zero, List.set_cons_succ]
 refine wpAnyH_take (i := 10) (oi := { dst := (some 62), op := (Op.fieldAddr 23 (Operand.tmp 4) 0), type := 0, pos := "mem.go:105", after := #[], guard := none }) (v := ?_) rfl (by kernel_rfl) (by kernel_rfl) (by kernel_rfl) (fun _ _ _ h => h) (Or.inl ⟨by rfl, ?_⟩) hHeld ?_
 rotate_left
 ·intro w hSw; (try dsimp only at hSw); go_simp; try with_reducible rfl
 try simp only [Act.put, List.setIfInBounds_toArray, List.set_cons_zero, List.set_cons_succ]
 refine wpAnyH_take (i := 11) (oi := { dst := (some 63), op := (Op.load 2 (Operand.tmp 62)), type := 2, pos := "mem.go:105", after := #[{ on := 10, ground := Ground.data }], guard := none }) (v := ?_) rfl (by kernel_rfl) (by kernel_rfl) (by kernel_rfl) (fun _ _ _ h => h) (Or.inl ⟨by rfl, ?_⟩) hHeld ?_
 rotate_left
 ·intro w hSw; (try dsimp only at hSw); go_simp; try with_reducible rfl
 try simp only [Act.put, List.setIfInBounds_toArray, List.set_cons_zero, List.set_cons_succ]
 refine wpAnyH_take (i := 12) (oi := { dst := (some 64), op := (Op.move (Operand.tmp 2)), type := 2, pos := "mem.go:105", after := #[], guard := none }) (v := ?_) rfl (by kernel_rfl) (by kernel_rfl) (by kernel_rfl) (fun _ _ _ h => h) (Or.inl ⟨by rfl, ?_⟩) hHeld ?_
 rotate_left
 ·intro w hSw; (try dsimp only at hSw); go_simp; try with_reducible rfl
 try simp only [Act.put, List.setIfInBounds_toArray, List.set_cons_zero, List.set_cons_succ]
 refine wpAnyH_take (i := 13) (oi := { dst := (some 65), op := (Op.binOp BinOp.add 2 (Operand.tmp 63) (Operand.tmp 64) 2), type := 2, pos := "mem.go:105", after := #[{ on := 11, ground := Ground.data }, { on := 12, ground := Ground.data }], guard := none }) (v := ?_) rfl (by kernel_rfl) (by kernel_rfl) (by kernel_rfl) (fun _ _ _ h => h) (Or.inl ⟨by rfl, ?_⟩) hHeld ?_
 rotate_left
 ·intro w hSw; (try dsimp only at hSw); go_simp; try with_reducible rfl
 try simp only [Act.put, List.setIfInBounds_toArray, List.set_cons_zero, List.set_cons_succ]
 refine wpAnyH_take (i := 14) (oi := { dst := (some 66), op := (Op.slice 38 (Operand.tmp 55) (some (Operand.tmp 57)) (some (Operand.tmp 61)) (some (Operand.tmp 65))), type := 38, pos := "mem.go:105", after := #[{ on := 3, ground := Ground.data }, { on := 5, ground := Ground.data }, { on := 9, ground := Ground.data }, { on := 13, ground := Ground.data }], guard := none }) (v := ?_) rfl (by kernel_rfl) (by kernel_rfl) (by kernel_rfl) (fun _ _ _ h => h) (Or.inl ⟨by rfl, ?_⟩) hHeld ?_
 rotate_left
 ·intro w hSw; (try dsimp only at hSw); go_simp; try with_reducible rfl
 try simp only [Act.put, List.setIfInBounds_toArray, List.set_cons_zero, List.set_cons_succ]
 refine wpAnyH_take (i := 15) (oi := { dst := (some 6), op := (Op.assign (Operand.tmp 66)), type := 38, pos := "mem.go:105", after := #[{ on := 14, ground := Ground.data }, { on := 0, ground := Ground.phase }, { on := 1, ground := Ground.phase }, { on := 2, ground := Ground.phase }, { on := 3, ground := Ground.phase }, { on := 4, ground := Ground.phase }, { on := 5, ground := Ground.phase }, { on := 6, ground := Ground.phase }, { on := 7, ground := Ground.phase }, { on := 8, ground := Ground.phase }, { on := 9, ground := Ground.phase }, { on := 10, ground := Ground.phase }, { on := 11, ground := Ground.phase }, { on := 12, ground := Ground.phase }, { on := 13, ground := Ground.phase }, { on := 14, ground := Ground.phase }], guard := none }) (v := ?_) rfl (by kernel_rfl) (by kernel_rfl) (by kernel_rfl) (fun _ _ _ h => h) (Or.inl ⟨by rfl, ?_⟩) hHeld ?_
 rotate_left
 ·intro w hSw; (try dsimp only at hSw); go_simp; try with_reducible rfl
 try simp only [Act.put, List.setIfInBounds_toArray, List.set_cons_zero, List.set_cons_succ]
 refine wpAnyH_take (i := 16) (oi := { dst := (some 7), op := (Op.assign (Operand.const (Value.bool true))), type := 4, pos := "mem.go:105", after := #[{ on := 15, ground := Ground.chain }, { on := 0, ground := Ground.phase }, { on := 1, ground := Ground.phase }, { on := 2, ground := Ground.phase }, { on := 3, ground := Ground.phase }, { on := 4, ground := Ground.phase }, { on := 5, ground := Ground.phase }, { on := 6, ground := Ground.phase }, { on := 7, ground := Ground.phase }, { on := 8, ground := Ground.phase }, { on := 9, ground := Ground.phase }, { on := 10, ground := Ground.phase }, { on := 11, ground := Ground.phase }, { on := 12, ground := Ground.phase }, { on := 13, ground := Ground.phase }, { on := 14, ground := Ground.phase }, { on := 15, ground := Ground.phase }], guard := none }) (v := ?_) rfl (by kernel_rfl) (by kernel_rfl) (by kernel_rfl) (fun _ _ _ h => h) (Or.inl ⟨by rfl, ?_⟩) hHeld ?_
 rotate_left
 ·intro w hSw; (try dsimp only at hSw); go_simp; try with_reducible rfl
 try simp only [Act.put, List.setIfInBounds_toArray, List.set_cons_zero, List.set_cons_succ]
 refine wpAnyH_done (by kernel_rfl) ?_ _
 go_wp2_with fail
 exact bodyPost_ret (v := .tuple #[.slice A n.toNat n.toNat, .bool true]) (by simp [results, Try.results37, go_sem]) rfl ⟨A, rfl, fun h0 => by rw [← HA.out, if_neg (by omega)], HQ.out _ hHeld⟩
end Go.Proofs.Yteogfjhmjlelnaa.G
set_option linter.unusedVariables false
set_option linter.unusedSimpArgs false
namespace Go.Proofs.Yteogfjhmjlelnaa.G
open Go.RowKit Go.Proofs.Yteogfjhmjlelnaa.B Go.Proofs.YteogfjhmjlelnaaW.PrintWords Go.Proofs.YteogfjhmjlelnaaW.PrintLast Go.Proofs.YteogfjhmjlelnaaW.PrintMore
def okAt (bs : List Blk) (p : Vl) (n : Int) : Option Blk :=
  if (decide (0 < p.b) && p.f == 0) = true then
    match bs[p.b.toNat - 1]? with
    | some b => if b.there = true ∧ 0 ≤ n ∧ n ≤ 4096 ∧ 0 ≤ p.n ∧ p.n ≤ (b.n : Int) - n then some b else none
    | none => none
  else none
theorem part_good (p : Vl) (n : Int) (gm : Nat) (v : Value) (bs : List Blk) (b : Blk) (w : World) (hM : IsMem w gm v bs) (hs : ∀ b ∈ bs, b.n ≤ 4096) (h : okAt bs p n = some b) :
    Calls Try.prog 37 #[.pointer (some ⟨gm, 0, none⟩), .agg #[.int .i64 p.n, .int .i64 p.b, .int .i64 p.f], .int .i64 n] w fun e w' => ∃ A, e = .returned (.tuple #[.slice A n.toNat n.toNat, .bool true]) ∧ (0 < n → A = some ⟨b.gb, p.n.toNat * 5, none⟩) ∧ Below w.heap.size w w' := by
  unfold okAt at h
  split at h
  · rename_i hp
    split at h
    · rename_i b' hb
      split at h
      · rename_i hc
        cases h
        obtain ⟨g, cap, rfl, _⟩ := hM.form (by have := (List.getElem?_eq_some_iff.1 hb).1; omega)
        exact part_ok p n gm g cap bs b w hM hp hb (hs b (List.mem_of_getElem? hb)) hc.1 hc.2.1 hc.2.2.1 hc.2.2.2.1 hc.2.2.2.2
      · cases h
    · cases h
  · cases h
theorem part_bad (p : Vl) (n : Int) (gm : Nat) (v : Value) (bs : List Blk) (w : World) (hM : IsMem w gm v bs) (hs : ∀ b ∈ bs, b.n ≤ 4096) (h : okAt bs p n = none) :
    Calls Try.prog 37 #[.pointer (some ⟨gm, 0, none⟩), .agg #[.int .i64 p.n, .int .i64 p.b, .int .i64 p.f], .int .i64 n] w fun e w' => e = .returned (.tuple #[.slice none 0 0, .bool false]) ∧ Below w.heap.size w w' := by
  unfold okAt at h
  split at h
  · rename_i hp
    split at h
    · rename_i b hb
      obtain ⟨g, cap, rfl, _⟩ := hM.form (by have := (List.getElem?_eq_some_iff.1 hb).1; omega)
      have hsb := hs b (List.mem_of_getElem? hb)
      split at h
      · cases h
      · rename_i hc
        cases ht : b.there with
        | false => exact part_gone p n gm g cap bs b w hM hp hb hsb ht
        | true =>
          by_cases h4 : 0 ≤ n
          · by_cases h5 : n ≤ 4096
            · by_cases h6 : 0 ≤ p.n
              · exact part_high p n gm g cap bs b w hM hp hb hsb ht h4 h5 h6 (by
                  by_cases h7 : p.n ≤ (b.n : Int) - n
                  · exact absurd ⟨ht, h4, h5, h6, h7⟩ hc
                  · omega)
              · exact part_low p n gm g cap bs b w hM hp hb hsb ht h4 h5 (by omega)
            · exact part_big p n gm g cap bs b w hM hp hb hsb ht h4 (by omega)
          · exact part_neg p n gm g cap bs b w hM hp hb hsb ht (by omega)
    · rename_i hb
      have h1 : 0 < p.b := by simp at hp; exact hp.1
      have h2 := List.getElem?_eq_none_iff.1 hb
      exact part_miss p n gm v bs w hM hp (by omega)
  · rename_i hp
    exact part_nop p n gm v bs w hM (by simpa using hp)
theorem wide_arg (p : Vl) (k : Int) (q : Option Addr) (w : World) (h1 : k ≠ 1) (h4 : k ≠ 4) (h8 : k ≠ 8) :
    Calls Try.prog 32 #[.pointer q, .agg #[.int .i64 p.n, .int .i64 p.b, .int .i64 p.f], .int .i64 k] w fun e w' => e = .returned (.tuple #[.slice none 0 0, .int .i64 1]) ∧ Below w.heap.size w w' := by
  have hB := Aside0.mk (q10 (Below.refl w.heap.size w) (.cells #[.int .i64 p.n, .int .i64 p.b, .int .i64 p.f] 23))
  have k1 : (k != 1) = true := bne_iff_ne.mpr h1
  have k4 : (k != 4) = true := bne_iff_ne.mpr h4
  have k8 : (k != 8) = true := bne_iff_ne.mpr h8
  clear h1 h4 h8
  go_enter Try.func32, Try.ntmps32
  go_wp2_with fail
  exact bodyPost_ret (v := .tuple #[.slice none 0 0, .int .i64 1]) (by simp [results, Try.results32, go_sem]) rfl ⟨rfl, hB.out⟩
theorem wide_good (p : Vl) (k : Nat) (hk : k = 1 ∨ k = 4 ∨ k = 8) (gm : Nat) (v : Value) (bs : List Blk) (b : Blk) (w : World) (hM : IsMem w gm v bs) (hs : ∀ b ∈ bs, b.n ≤ 4096) (h : okAt bs p k = some b) :
    Calls Try.prog 32 #[.pointer (some ⟨gm, 0, none⟩), .agg #[.int .i64 p.n, .int .i64 p.b, .int .i64 p.f], .int .i64 k] w fun e w' => e = .returned (.tuple #[.slice (some ⟨b.gb, p.n.toNat * 5, none⟩) k k, .int .i64 0]) ∧ Below w.heap.size w w' := by
  rcases hk with rfl | rfl | rfl
  · have hB := Aside0.mk (q10 (Below.refl w.heap.size w) (.cells #[.int .i64 p.n, .int .i64 p.b, .int .i64 p.f] 23))
    have hX := Aside0.mk (q33 w (.cells #[.int .i64 p.n, .int .i64 p.b, .int .i64 p.f] 23))
    have HM := Aside0.mk (IsMem.alloc hM (.cells #[.int .i64 p.n, .int .i64 p.b, .int .i64 p.f] 23))
    have HS := Aside0.mk hs
    have HO := Aside0.mk h
    clear hM hs h
    go_enter Try.func32, Try.ntmps32
    go_upto_region 3 with (fail)
    generalize w.alloc (.cells #[.int .i64 p.n, .int .i64 p.b, .int .i64 p.f] 23) = W at hB hX HM ⊢
    have hx := cell3 hX.out
    go_wp2_with fail
    refine (part_good p 1 gm v bs b _ HM.out HS.out HO.out).mono ?_
    rintro e w1 ⟨A, rfl, hA, hb1⟩
    have HB1 := Aside0.mk (q20 hB.out hb1)
    have HA := Aside0.mk hA
    clear hx hX HM HS HO hB hb1 hA
    go_wp2_with fail
    exact bodyPost_ret (v := .tuple #[.slice A 1 1, .int .i64 0]) (by simp [results, Try.results32, go_sem]) rfl ⟨by rw [HA.out (by omega)], HB1.out⟩
  · have hB := Aside0.mk (q10 (Below.refl w.heap.size w) (.cells #[.int .i64 p.n, .int .i64 p.b, .int .i64 p.f] 23))
    have hX := Aside0.mk (q33 w (.cells #[.int .i64 p.n, .int .i64 p.b, .int .i64 p.f] 23))
    have HM := Aside0.mk (IsMem.alloc hM (.cells #[.int .i64 p.n, .int .i64 p.b, .int .i64 p.f] 23))
    have HS := Aside0.mk hs
    have HO := Aside0.mk h
    clear hM hs h
    go_enter Try.func32, Try.ntmps32
    go_upto_region 3 with (fail)
    generalize w.alloc (.cells #[.int .i64 p.n, .int .i64 p.b, .int .i64 p.f] 23) = W at hB hX HM ⊢
    have hx := cell3 hX.out
    go_wp2_with fail
    refine (part_good p 4 gm v bs b _ HM.out HS.out HO.out).mono ?_
    rintro e w1 ⟨A, rfl, hA, hb1⟩
    have HB1 := Aside0.mk (q20 hB.out hb1)
    have HA := Aside0.mk hA
    clear hx hX HM HS HO hB hb1 hA
    go_wp2_with fail
    exact bodyPost_ret (v := .tuple #[.slice A 4 4, .int .i64 0]) (by simp [results, Try.results32, go_sem]) rfl ⟨by rw [HA.out (by omega)], HB1.out⟩
  · have hB := Aside0.mk (q10 (Below.refl w.heap.size w) (.cells #[.int .i64 p.n, .int .i64 p.b, .int .i64 p.f] 23))
    have hX := Aside0.mk (q33 w (.cells #[.int .i64 p.n, .int .i64 p.b, .int .i64 p.f] 23))
    have HM := Aside0.mk (IsMem.alloc hM (.cells #[.int .i64 p.n, .int .i64 p.b, .int .i64 p.f] 23))
    have HS := Aside0.mk hs
    have HO := Aside0.mk h
    clear hM hs h
    go_enter Try.func32, Try.ntmps32
    go_upto_region 3 with (fail)
    generalize w.alloc (.cells #[.int .i64 p.n, .int .i64 p.b, .int .i64 p.f] 23) = W at hB hX HM ⊢
    have hx := cell3 hX.out
    go_wp2_with fail
    refine (part_good p 8 gm v bs b _ HM.out HS.out HO.out).mono ?_
    rintro e w1 ⟨A, rfl, hA, hb1⟩
    have HB1 := Aside0.mk (q20 hB.out hb1)
    have HA := Aside0.mk hA
    clear hx hX HM HS HO hB hb1 hA
    go_wp2_with fail
    exact bodyPost_ret (v := .tuple #[.slice A 8 8, .int .i64 0]) (by simp [results, Try.results32, go_sem]) rfl ⟨by rw [HA.out (by omega)], HB1.out⟩
theorem wide_bad (p : Vl) (k : Nat) (hk : k = 1 ∨ k = 4 ∨ k = 8) (gm : Nat) (v : Value) (bs : List Blk) (w : World) (hM : IsMem w gm v bs) (hs : ∀ b ∈ bs, b.n ≤ 4096) (h : okAt bs p k = none) :
    Calls Try.prog 32 #[.pointer (some ⟨gm, 0, none⟩), .agg #[.int .i64 p.n, .int .i64 p.b, .int .i64 p.f], .int .i64 k] w fun e w' => e = .returned (.tuple #[.slice none 0 0, .int .i64 9]) ∧ Below w.heap.size w w' := by
  rcases hk with rfl | rfl | rfl
  · have hB := Aside0.mk (q10 (Below.refl w.heap.size w) (.cells #[.int .i64 p.n, .int .i64 p.b, .int .i64 p.f] 23))
    have hX := Aside0.mk (q33 w (.cells #[.int .i64 p.n, .int .i64 p.b, .int .i64 p.f] 23))
    have HM := Aside0.mk (IsMem.alloc hM (.cells #[.int .i64 p.n, .int .i64 p.b, .int .i64 p.f] 23))
    have HS := Aside0.mk hs
    have HO := Aside0.mk h
    clear hM hs h
    go_enter Try.func32, Try.ntmps32
    go_upto_region 3 with (fail)
    generalize w.alloc (.cells #[.int .i64 p.n, .int .i64 p.b, .int .i64 p.f] 23) = W at hB hX HM ⊢
    have hx := cell3 hX.out
    go_wp2_with fail
    refine (part_bad p 1 gm v bs _ HM.out HS.out HO.out).mono ?_
    rintro e w1 ⟨rfl, hb1⟩
    have HB1 := Aside0.mk (q20 hB.out hb1)
    clear hx hX HM HS HO hB hb1
    go_wp2_with fail
    exact bodyPost_ret (v := .tuple #[.slice none 0 0, .int .i64 9]) (by simp [results, Try.results32, go_sem]) rfl ⟨rfl, HB1.out⟩
  · have hB := Aside0.mk (q10 (Below.refl w.heap.size w) (.cells #[.int .i64 p.n, .int .i64 p.b, .int .i64 p.f] 23))
    have hX := Aside0.mk (q33 w (.cells #[.int .i64 p.n, .int .i64 p.b, .int .i64 p.f] 23))
    have HM := Aside0.mk (IsMem.alloc hM (.cells #[.int .i64 p.n, .int .i64 p.b, .int .i64 p.f] 23))
    have HS := Aside0.mk hs
    have HO := Aside0.mk h
    clear hM hs h
    go_enter Try.func32, Try.ntmps32
    go_upto_region 3 with (fail)
    generalize w.alloc (.cells #[.int .i64 p.n, .int .i64 p.b, .int .i64 p.f] 23) = W at hB hX HM ⊢
    have hx := cell3 hX.out
    go_wp2_with fail
    refine (part_bad p 4 gm v bs _ HM.out HS.out HO.out).mono ?_
    rintro e w1 ⟨rfl, hb1⟩
    have HB1 := Aside0.mk (q20 hB.out hb1)
    clear hx hX HM HS HO hB hb1
    go_wp2_with fail
    exact bodyPost_ret (v := .tuple #[.slice none 0 0, .int .i64 9]) (by simp [results, Try.results32, go_sem]) rfl ⟨rfl, HB1.out⟩
  · have hB := Aside0.mk (q10 (Below.refl w.heap.size w) (.cells #[.int .i64 p.n, .int .i64 p.b, .int .i64 p.f] 23))
    have hX := Aside0.mk (q33 w (.cells #[.int .i64 p.n, .int .i64 p.b, .int .i64 p.f] 23))
    have HM := Aside0.mk (IsMem.alloc hM (.cells #[.int .i64 p.n, .int .i64 p.b, .int .i64 p.f] 23))
    have HS := Aside0.mk hs
    have HO := Aside0.mk h
    clear hM hs h
    go_enter Try.func32, Try.ntmps32
    go_upto_region 3 with (fail)
    generalize w.alloc (.cells #[.int .i64 p.n, .int .i64 p.b, .int .i64 p.f] 23) = W at hB hX HM ⊢
    have hx := cell3 hX.out
    go_wp2_with fail
    refine (part_bad p 8 gm v bs _ HM.out HS.out HO.out).mono ?_
    rintro e w1 ⟨rfl, hb1⟩
    have HB1 := Aside0.mk (q20 hB.out hb1)
    clear hx hX HM HS HO hB hb1
    go_wp2_with fail
    exact bodyPost_ret (v := .tuple #[.slice none 0 0, .int .i64 9]) (by simp [results, Try.results32, go_sem]) rfl ⟨rfl, HB1.out⟩
end Go.Proofs.Yteogfjhmjlelnaa.G
set_option linter.unusedVariables false
set_option linter.unusedSimpArgs false
namespace Go.Proofs.Yteogfjhmjlelnaa.G
open Go.RowKit Go.Proofs.Yteogfjhmjlelnaa.B Go.Proofs.YteogfjhmjlelnaaW.PrintWords Go.Proofs.YteogfjhmjlelnaaW.PrintLast Go.Proofs.YteogfjhmjlelnaaW.PrintMore
theorem encB_length (l : List Bt) : (encB l).length = 5 * l.length := by
  induction l with
  | nil => rfl
  | cons x l ih => simp only [encB, List.flatMap_cons, List.length_append, List.length_cons] at ih ⊢; simp only [Bt.cells, List.length_cons, List.length_nil]; omega
theorem encB_get {l : List Bt} {i j : Nat} {b : Bt} {u : Value} (hi : l[i]? = some b) (hu : b.cells[j]? = some u) : (encB l)[i * 5 + j]? = some u := by
  have hj : j < 5 := by have := (List.getElem?_eq_some_iff.1 hu).1; simpa [Bt.cells] using this
  induction l generalizing i with
  | nil => simp at hi
  | cons x l ih =>
    cases i with
    | zero =>
      obtain rfl : x = b := by simpa using hi
      show (x.cells ++ encB l)[0 * 5 + j]? = some u
      rw [List.getElem?_append_left (by simp [Bt.cells]; omega)]
      simpa using hu
    | succ i =>
      show (x.cells ++ encB l)[(i + 1) * 5 + j]? = some u
      rw [List.getElem?_append_right (by simp [Bt.cells]; omega)]
      rw [show (i + 1) * 5 + j - x.cells.length = i * 5 + j by simp [Bt.cells]; omega]
      exact ih (by simpa using hi)
def Bytes (w : World) (gb : Nat) (l : List Bt) : Prop := w.heap[gb]? = some (.cells (encB l).toArray 42 (0, 0))
theorem Bytes.at_ {w : World} {gb : Nat} {l : List Bt} (h : Bytes w gb l) {i : Nat} {x : Bt} (hi : l[i]? = some x) :
    w.cell? ⟨gb, i * 5, none⟩ = some (.int .i64 x.k) ∧ w.cell? ⟨gb, i * 5 + 1, none⟩ = some (.int .u8 x.v) ∧ w.cell? ⟨gb, i * 5 + 2, none⟩ = some (.int .i64 x.p.n) ∧ w.cell? ⟨gb, i * 5 + 3, none⟩ = some (.int .i64 x.p.b) ∧ w.cell? ⟨gb, i * 5 + 4, none⟩ = some (.int .i64 x.p.f) := by
  have hg : ∀ j u, x.cells[j]? = some u → w.cell? ⟨gb, i * 5 + j, none⟩ = some u := fun j u hu => by
    rw [q16 h]
    have := encB_get hi hu
    simpa using this
  exact ⟨hg 0 _ rfl, hg 1 _ rfl, hg 2 _ rfl, hg 3 _ rfl, hg 4 _ rfl⟩
theorem q36 {P : Program} {fn : Func} {p u : Tmp} {ty : TypeId} (h : fn.results = #[.cell p ty, .tmp u]) (tmps : Array Value) (w : World) (g : Nat) (t : TypeId) (cs : Array Value) (fr : Nat × Nat) (d : TypeDesc)
    (hp : tmps.getD p undef = .pointer (some ⟨g, 0, none⟩)) (hg : w.heap[g]? = some (.cells cs t fr))
    (hu : P.underlying ty = some d) (hd : (match d with | .struct _ | .array _ _ => true | _ => false) = true) (hi : (P.info? ty).map (·.size) = some cs.size) :
    (results fn tmps).run P w = .ok (.tuple #[.agg cs, tmps.getD u undef]) w := by
  have hp' : tmps[p]?.getD undef = .pointer (some ⟨g, 0, none⟩) := by simpa using hp
  simp [results, h, hp', asAddr, run_loadVar_row w g t ty cs fr d hg hu hd hi]
theorem q50 {W : World} {g t : Nat} {a b c : Value} (h : W.heap[g]? = some (.cells #[a, b, c] t (0, 0))) (a' b' c' : Value) :
    (((W.setCell ⟨g, 0, none⟩ a').setCell ⟨g, 1, none⟩ b').setCell ⟨g, 2, none⟩ c').heap[g]? = some (.cells #[a', b', c'] t (0, 0)) :=
  q28 (q28 (q28 h 0 a' rfl) 1 b' rfl) 2 c' rfl
theorem IsMem.below {w W : World} {gm : Nat} {v : Value} {bs : List Blk} (h : IsMem w gm v bs) (hb : Below w.heap.size w W) : IsMem W gm v bs :=
  ⟨q19 h.box hb, own_move h.row (fun k hk => by
    obtain ⟨cells, hc⟩ := q42 h.row k hk
    exact hb.block k (q30 hc))⟩
theorem load_err (p : Vl) (k : Int) (q : Value) (er : Int) (w : World) (he : (er != 0) = true)
    (hW : ∀ W, Below w.heap.size w W → Calls Try.prog 32 #[q, .agg #[.int .i64 p.n, .int .i64 p.b, .int .i64 p.f], .int .i64 k] W fun e w' => e = .returned (.tuple #[.slice none 0 0, .int .i64 er]) ∧ Below W.heap.size W w') :
    Calls Try.prog 14 #[q, .agg #[.int .i64 p.n, .int .i64 p.b, .int .i64 p.f], .int .i64 k] w fun e w' => e = .returned (.tuple #[.agg #[.int .i64 0, .int .i64 0, .int .i64 0], .int .i64 er]) ∧ Below w.heap.size w w' := by
  have HW := Aside0.mk hW
  clear hW
  have hB := Aside0.mk (q10 (q10 (Below.refl w.heap.size w) (.cells #[.int .i64 p.n, .int .i64 p.b, .int .i64 p.f] 23)) (.cells #[.int .i64 0, .int .i64 0, .int .i64 0] 23))
  have hX := Aside0.mk (q12 (q33 w (.cells #[.int .i64 p.n, .int .i64 p.b, .int .i64 p.f] 23)) (.cells #[.int .i64 0, .int .i64 0, .int .i64 0] 23))
  have hZ := Aside0.mk (q46 (W := w.alloc (.cells #[.int .i64 p.n, .int .i64 p.b, .int .i64 p.f] 23)) (n := w.heap.size + 1) (.cells #[.int .i64 0, .int .i64 0, .int .i64 0] 23) (by simp))
  go_enter Try.func14, Try.ntmps14
  go_upto_region 1 with (fail)
  generalize (w.alloc (.cells #[.int .i64 p.n, .int .i64 p.b, .int .i64 p.f] 23)).alloc (.cells #[.int .i64 0, .int .i64 0, .int .i64 0] 23) = W at hB hX hZ ⊢
  have hx := cell3 hX.out
  go_upto_region 2 with (first | (go_at_call 32; refine (HW.out _ hB.out).mono ?_; rintro e w1 ⟨rfl, hb1⟩))
  have hZ1 := Aside0.mk (q19 hZ.out hb1)
  have HB1 := Aside0.mk (q20 hB.out hb1)
  have hz := cell3 hZ1.out
  have hf0 := q0 hZ1.out 0
  have hf1 := q0 hZ1.out 1
  have hf2 := q0 hZ1.out 2
  clear hx hX hZ hB hb1 HW
  go_wp2_with fail
  refine bodyPost_ret (q36 rfl _ _ (w.heap.size + 1) 23 _ (0, 0) _ rfl (q50 hZ1.out _ _ _) Try.underlying23 rfl (by kernel_rfl)) rfl ⟨rfl, ?_⟩
  exact (((Kp.of_below HB1.out (fun _ => False)).setCell (.inr (by simp)) _).setCell (.inr (by simp)) _ |>.setCell (.inr (by simp)) _).to_below (fun _ h => h.elim)
end Go.Proofs.Yteogfjhmjlelnaa.G
