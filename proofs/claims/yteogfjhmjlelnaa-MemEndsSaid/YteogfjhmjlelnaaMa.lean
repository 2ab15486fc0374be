/- The state of a Mem as lists; mem.number, pointer, law's at; find. Each contract names its state. -/
import Derived.Test.YteogfjhmjlelnaaGx0
import Derived.Test.YteogfjhmjlelnaaBase
set_option linter.unusedVariables false
set_option linter.unusedSimpArgs false
namespace Go.Proofs.Yteogfjhmjlelnaa.G
open Go.RowKit Go.Proofs.Yteogfjhmjlelnaa.B Go.Proofs.YteogfjhmjlelnaaW.PrintWords Go.Proofs.YteogfjhmjlelnaaW.PrintLast Go.Proofs.YteogfjhmjlelnaaW.PrintMore

/-- A value of the machine: number, block, part. -/
structure Vl where
  n : Int
  b : Int
  f : Int
/-- A byte of a block. -/
structure Bt where
  k : Int
  v : Int
  p : Vl
def Bt.cells (x : Bt) : List Value := [.int .i64 x.k, .int .u8 x.v, .int .i64 x.p.n, .int .i64 x.p.b, .int .i64 x.p.f]
def encB (l : List Bt) : List Value := l.flatMap Bt.cells
/-- A block's row among the blocks: its site, its bytes' row, whether it is there. -/
structure Blk where
  site : Int
  gb : Nat
  n : Nat
  there : Bool
def Blk.cells (x : Blk) : List Value := [.int .i64 x.site, .slice (some ⟨x.gb, 0, none⟩) x.n x.n, .bool x.there]
def encK (l : List Blk) : List Value := l.flatMap Blk.cells
theorem encK_length (l : List Blk) : (encK l).length = 3 * l.length := by
  induction l with
  | nil => rfl
  | cons x l ih => simp only [encK, List.flatMap_cons, List.length_append, List.length_cons] at ih ⊢; simp only [Blk.cells, List.length_cons, List.length_nil]; omega
theorem encK_get {l : List Blk} {i j : Nat} {b : Blk} {u : Value} (hi : l[i]? = some b) (hu : b.cells[j]? = some u) : (encK l)[3 * i + j]? = some u := by
  have hj : j < 3 := by have := (List.getElem?_eq_some_iff.1 hu).1; simpa [Blk.cells] using this
  induction l generalizing i with
  | nil => simp at hi
  | cons x l ih =>
    cases i with
    | zero =>
      obtain rfl : x = b := by simpa using hi
      show (x.cells ++ encK l)[3 * 0 + j]? = some u
      rw [List.getElem?_append_left (by simp [Blk.cells]; omega)]
      simpa using hu
    | succ i =>
      show (x.cells ++ encK l)[3 * (i + 1) + j]? = some u
      rw [List.getElem?_append_right (by simp [Blk.cells]; omega)]
      rw [show 3 * (i + 1) + j - x.cells.length = 3 * i + j by simp [Blk.cells]; omega]
      exact ih (by simpa using hi)
/-- A Mem at gm, with these blocks; their row is v. -/
structure IsMem (w : World) (gm : Nat) (v : Value) (bs : List Blk) : Prop where
  box : w.heap[gm]? = some (.cells #[v] 73 (0, 0))
  row : w.ownsRow (gm + 1) 75 3 v bs.length (encK bs)
theorem number_calls (x : Vl) (w : World) :
    Calls Try.prog 33 #[.agg #[.int .i64 x.n, .int .i64 x.b, .int .i64 x.f]] w fun e w' => e = .returned (.bool (x.b == 0 && x.f == 0)) ∧ Below w.heap.size w w' := by
  have hB := Aside0.mk (below_alloc (Below.refl w.heap.size w) (.cells #[.int .i64 x.n, .int .i64 x.b, .int .i64 x.f] 23))
  cases h1 : (x.b == 0) with
  | true =>
    go_enter Try.func33, Try.ntmps33
    go_wp2
    go_ret
    exact ⟨ret_bool (by simp), hB.out⟩
  | false =>
    go_enter Try.func33, Try.ntmps33
    go_wp2
    go_ret
    exact ⟨ret_bool (by simp), hB.out⟩
theorem pointer_calls (x : Vl) (w : World) :
    Calls Try.prog 34 #[.agg #[.int .i64 x.n, .int .i64 x.b, .int .i64 x.f]] w fun e w' => e = .returned (.bool (decide (0 < x.b) && x.f == 0)) ∧ Below w.heap.size w w' := by
  have hB := Aside0.mk (below_alloc (Below.refl w.heap.size w) (.cells #[.int .i64 x.n, .int .i64 x.b, .int .i64 x.f] 23))
  cases h1 : decide (0 < x.b) with
  | true =>
    go_enter Try.func34, Try.ntmps34
    go_wp2
    go_ret
    exact ⟨ret_bool (by simp), hB.out⟩
  | false =>
    go_enter Try.func34, Try.ntmps34
    go_wp2
    go_ret
    exact ⟨ret_bool (by simp), hB.out⟩
theorem at_calls (n : Int) (w : World) :
    Calls Try.prog 15 #[.int .i64 n] w fun e w' => e = .returned (.agg #[.int .i64 n, .int .i64 1, .int .i64 0]) ∧ Below w.heap.size w w' := by
  go_enter Try.func15, Try.ntmps15
  go_wp2
  refine bodyPost_ret (results_cell_row rfl _ _ w.heap.size 23 _ (0, 0) _ rfl (blk_new w _) Try.underlying23 rfl (by kernel_rfl)) rfl ⟨rfl, below_alloc (Below.refl _ _) _⟩
theorem new_calls (w : World) :
    Calls Try.prog 11 #[] w fun e w' => e = .returned (.pointer (some ⟨w.heap.size, 0, none⟩)) ∧ w' = w.alloc (.cells #[.slice none 0 0] 73) := by
  go_enter Try.func11, Try.ntmps11
  go_wp2
  go_ret
  exact ⟨rfl, rfl⟩
theorem IsMem.form {w : World} {gm : Nat} {v : Value} {bs : List Blk} (h : IsMem w gm v bs) (h0 : 0 < bs.length) :
    ∃ g cap, v = .slice (some ⟨g, 0, none⟩) bs.length cap ∧ gm < g ∧ bs.length ≤ cap ∧ cap ≤ maxLen ∧ ∀ i b, bs[i]? = some b → ∀ j u, b.cells[j]? = some u → w.cell? ⟨g, 3 * i + j, none⟩ = some u := by
  rcases h.row.2 with ⟨_, h1⟩ | ⟨g, cap, cur, hv, hg, hh, hc, hm, hs, ht⟩
  · omega
  · refine ⟨g, cap, hv, hg, hc, hm, fun i b hi j u hu => ?_⟩
    rw [blk_cell hh]
    have he := encK_get hi hu
    have hlt : 3 * i + j < bs.length * 3 := by
      have h1 := (List.getElem?_eq_some_iff.1 he).1
      rw [encK_length] at h1
      omega
    rw [← ht, List.getElem?_take_of_lt hlt, Array.getElem?_toList] at he
    exact he
theorem IsMem.len {w : World} {gm : Nat} {v : Value} {bs : List Blk} (h : IsMem w gm v bs) : ∃ A cap, v = .slice A bs.length cap ∧ bs.length ≤ 9223372036854775807 := by
  rcases h.row.2 with ⟨hv, h1⟩ | ⟨g, cap, cur, hv, hg, hh, hc, hm, hs, ht⟩
  · exact ⟨none, 0, by rw [hv, h1], by omega⟩
  · exact ⟨_, cap, hv, by unfold maxLen at hm; omega⟩
theorem find_nil (n : Int) (w : World) :
    Calls Try.prog 35 #[.pointer none, .int .i64 n] w fun e w' => e = .returned (.pointer none) ∧ w' = w := by
  go_enter Try.func35, Try.ntmps35
  go_wp2
  go_ret
  exact ⟨rfl, rfl⟩
theorem find_miss (n : Int) (gm : Nat) (v : Value) (bs : List Blk) (w : World) (hM : IsMem w gm v bs) (hn : n < 1 ∨ (bs.length : Int) < n) :
    Calls Try.prog 35 #[.pointer (some ⟨gm, 0, none⟩), .int .i64 n] w fun e w' => e = .returned (.pointer none) ∧ w' = w := by
  have h0 := cell1 hM.box
  obtain ⟨A, cap, rfl, hm⟩ := hM.len
  clear hM
  by_cases h1 : n < 1
  · clear hn
    go_enter Try.func35, Try.ntmps35
    go_wp2
    go_ret
    exact ⟨rfl, rfl⟩
  · have h2 : (bs.length : Int) < n := by omega
    clear hn
    go_enter Try.func35, Try.ntmps35
    go_wp2
    go_ret
    exact ⟨rfl, rfl⟩
theorem find_hit (n : Int) (gm g cap : Nat) (bs : List Blk) (w : World) (hM : IsMem w gm (.slice (some ⟨g, 0, none⟩) bs.length cap) bs) (h1 : 1 ≤ n) (h2 : n ≤ bs.length) :
    Calls Try.prog 35 #[.pointer (some ⟨gm, 0, none⟩), .int .i64 n] w fun e w' => e = .returned (.pointer (some ⟨g, (n.toNat - 1) * 3, none⟩)) ∧ w' = w := by
  have h0 := cell1 hM.box
  obtain ⟨_, _, _, hm⟩ := hM.len
  clear hM
  have h3 : 0 ≤ n - 1 := by omega
  have h4 : n - 1 < bs.length := by omega
  go_enter Try.func35, Try.ntmps35
  go_wp2
  go_ret
  exact ⟨rfl, rfl⟩
end Go.Proofs.Yteogfjhmjlelnaa.G
