/- Words for the walks of scc.Groups. No condition. -/
import Derived.Test.YtjbgealnnlmchaaNa
set_option linter.unusedVariables false
set_option linter.unusedSimpArgs false
namespace Go.Proofs.Ytjbgealnnlmchaa.G
open Go.RowKit Go.Proofs.Ytjbgealnnlmchaa.B Go.Proofs.YtjbgealnnlmchaaW.PrintWords Go.Proofs.YtjbgealnnlmchaaW.PrintLast Go.Proofs.YtjbgealnnlmchaaW.PrintMore

def ints (l : List Nat) : List Int := l.map fun (x : Nat) => (x : Int)
theorem rd_G (G : List (List Nat)) (v : Nat) : rd_L4 (G.map ints) (v : Int) = ints (G.getD v []) := by
  unfold rd_L4
  rw [Int.toNat_natCast, List.getD_eq_getElem?_getD, List.getD_eq_getElem?_getD, List.getElem?_map]
  cases G[v]? <;> rfl
theorem rd_ints (l : List Nat) (i : Nat) (h : i < l.length) : rd (ints l) (i : Int) = ((l[i] : Nat) : Int) := by
  unfold rd ints
  rw [Int.toNat_natCast, List.getD_eq_getElem?_getD, List.getElem?_map, List.getElem?_eq_getElem h]
  rfl
theorem ints_len (l : List Nat) : (ints l).length = l.length := by unfold ints; rw [List.length_map]
theorem own_cap {w : World} {base e size g n cap : Nat} {xs : List Value} (h : w.ownsRow base e size (.slice (some ⟨g, 0, none⟩) n cap) n xs) : n ≤ cap := by
  rcases h.2 with ⟨h', _⟩ | ⟨g', cap', cur, h', _, _, hc, _⟩
  · cases h'
  · injection h' with _ _ h3
    rw [h3]
    exact hc
theorem own_take {w : World} {base e size g n cap k : Nat} {xs : List Value} (h : w.ownsRow base e size (.slice (some ⟨g, 0, none⟩) n cap) n xs) (hk : k ≤ n) : w.ownsRow base e size (.slice (some ⟨g, 0, none⟩) k cap) k (xs.take (k * size)) := by
  have hm := Nat.mul_le_mul_right size hk
  refine ⟨by rw [List.length_take, h.1]; omega, ?_⟩
  rcases h.2 with ⟨h', _⟩ | ⟨g', cap', cur, h', h1, h2, h3, h4, h5, h6⟩
  · cases h'
  · injection h' with e1 _ e3
    injection e1 with e1
    injection e1 with e1
    subst e1 e3
    refine .inr ⟨g, cap, cur, rfl, h1, h2, by omega, h4, h5, ?_⟩
    rw [← h6, List.take_take, Nat.min_eq_left hm]
theorem own_max {w : World} {base e size g n cap : Nat} {xs : List Value} (h : w.ownsRow base e size (.slice (some ⟨g, 0, none⟩) n cap) n xs) : cap ≤ maxLen := by
  rcases h.2 with ⟨h', _⟩ | ⟨g', cap', cur, h', _, _, _, hc, _⟩
  · cases h'
  · injection h' with _ _ h3
    rw [h3]
    exact hc
theorem stack_cell {w : World} {base g cap : Nat} {l : List Nat} (h : w.ownsRow base 3 1 (.slice (some ⟨g, 0, none⟩) l.length cap) l.length (nats l)) (j : Nat) (hj : j < l.length) : w.cell? ⟨g, 0 + j, none⟩ = some (.int .i64 ((ints l).getD j 0)) := by
  rw [Nat.zero_add, h.cellAt j (by omega)]
  unfold nats ints
  rw [List.getElem?_map, List.getD_eq_getElem?_getD, List.getElem?_map, List.getElem?_eq_getElem hj]
  rfl
theorem idx_ints {v : Nat} {l : List Nat} (h : v ∈ l) : Lib.idxOf ((ints l).take l.length) (v : Int) = ((l.idxOf v : Nat) : Int) := by
  have key : ∀ (l : List Nat) (i : Nat), v ∈ l → Lib.idxFrom (ints l) (v : Int) i = ((i + l.idxOf v : Nat) : Int) := by
    intro l
    induction l with
    | nil => intro i h; cases h
    | cons x l ih =>
      intro i h
      show Lib.idxFrom ((x : Int) :: ints l) (v : Int) i = _
      unfold Lib.idxFrom
      by_cases hx : x = v
      · subst hx
        rw [if_pos rfl, List.idxOf_cons, show (x == x) = true from beq_self_eq_true x]
        rfl
      · rw [if_neg (by omega), ih (i + 1) ((List.mem_cons.1 h).resolve_left (fun e => hx e.symm)), List.idxOf_cons, show (x == v) = false from beq_eq_false_iff_ne.mpr hx]
        show ((i + 1 + l.idxOf v : Nat) : Int) = ((i + (l.idxOf v + 1) : Nat) : Int)
        omega
  rw [List.take_of_length_le (by rw [ints_len]; exact Nat.le_refl _)]
  have := key l 0 h
  rw [Nat.zero_add] at this
  exact this
theorem min_ints (l : List Nat) (h : l ≠ []) : Lib.minOf (ints l) = ((leastOf l : Nat) : Int) := by
  have key : ∀ (l : List Nat) (a : Nat), (ints l).foldl min (a : Int) = ((l.foldl min a : Nat) : Int) := by
    intro l
    induction l with
    | nil => intro a; rfl
    | cons x l ih =>
      intro a
      show (ints l).foldl min (min (a : Int) (x : Int)) = _
      rw [show min (a : Int) (x : Int) = ((min a x : Nat) : Int) by omega, ih]
      rfl
  cases l with
  | nil => exact absurd rfl h
  | cons a l =>
    show ((a : Int) :: ints l).foldl min (a : Int) = _
    rw [List.foldl_cons, show min (a : Int) (a : Int) = (a : Int) by omega, key]
    rfl
/-- What a group's first j points leave. -/
def cutS (s : TS) (grp : List Nat) (least j : Nat) : TS := { s with opn := (grp.take j).foldl (fun o w => o.set w false) s.opn, out := (grp.take j).foldl (fun o w => o.set w least) s.out }
theorem cutS_step (s : TS) (grp : List Nat) (least j : Nat) (h : j < grp.length) : ({ { cutS s grp least j with out := (cutS s grp least j).out.set grp[j] least } with opn := (cutS s grp least j).opn.set grp[j] false } : TS) = cutS s grp least (j + 1) := by
  unfold cutS
  rw [List.take_succ_eq_append_getElem h, List.foldl_append, List.foldl_append]
  rfl
theorem app_keeps {w1 W W' : World} {L : Lay} {s : TS} {vs : Value} {o : Obj} (h : Rep w1 L W s vs) (hL : LayOk w1 L) (hg : (W.alloc o).grownBy W' vs.ownBlock) : (∀ k, k < L.top → W'.heap[k]? = W.heap[k]?) ∧ Below w1.heap.size w1 W' ∧ L.top ≤ W'.heap.size := by
  have ht := h.top
  have hl : w1.heap.size ≤ L.top := by have := hL.lo.1; have := hL.hi.1; omega
  have hs : (W.alloc o).heap.size = W.heap.size + 1 := by simp
  refine ⟨fun k hk => ?_, (below_alloc h.below o).grown hg (by omega) (fun k hk => by have := (h.row.lt k hk).1; omega), by have := hg.size; omega⟩
  rw [hg.block k (by omega) (fun e => by have := (h.row.lt k e.symm).1; omega)]
  exact heap_alloc_old W o (by omega)
theorem own_form {w : World} {base e size n : Nat} {v : Value} {xs : List Value} (h : w.ownsRow base e size v n xs) : ∃ A c, v = .slice A n c := by
  rcases h.2 with ⟨h1, h2⟩ | ⟨g, cap, cur, h1, _⟩
  · exact ⟨none, 0, by rw [h1, h2]⟩
  · exact ⟨some ⟨g, 0, none⟩, cap, h1⟩
theorem made_nats (N : Nat) : madeCells #[.int .i64 0] N = (nats (List.replicate N 0)).toArray := by
  unfold nats
  rw [List.map_replicate]
  refine Array.ext (by simp [madeCells]) (fun i h1 h2 => ?_)
  simp [madeCells, Nat.mod_one]
theorem made_bools (N : Nat) : madeCells #[.bool false] N = (bools (List.replicate N false)).toArray := by
  unfold bools
  rw [List.map_replicate]
  refine Array.ext (by simp [madeCells]) (fun i h1 h2 => ?_)
  simp [madeCells, Nat.mod_one]
theorem C_row {w : World} {g : Nat} (l : List Nat) (hb : w.heap[g]? = some (.cells (nats l).toArray 3 (0, 0))) (hm : l.length ≤ 9223372036854775807) : Kd.C (Kd.int .i64) w (some ⟨g, 0, none⟩) l.length (ints l) := by
  refine ⟨ints_len l, hm, fun _ => ⟨_, rfl, fun j p hj => ⟨[.int .i64 p], rfl, rfl, fun i u hu => ?_⟩⟩⟩
  match i, hu with
  | 0, hu =>
    obtain rfl : Value.int .i64 p = u := by simpa using hu
    show w.cell? ((⟨g, 0, none⟩ : Addr).add (j * 1 + 0)) = _
    rw [add_plain, blk_cell hb]
    unfold ints at hj
    unfold nats
    rw [List.getElem?_map] at hj
    obtain ⟨x, hx, rfl⟩ := Option.map_eq_some_iff.1 hj
    simp [hx]
end Go.Proofs.Ytjbgealnnlmchaa.G
