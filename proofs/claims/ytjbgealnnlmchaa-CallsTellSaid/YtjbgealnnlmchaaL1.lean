/- The law CallsTell of calls is true: its walk. No condition. -/
import Derived.Test.YtjbgealnnlmchaaRf
set_option linter.unusedVariables false
set_option linter.unusedSimpArgs false
namespace Go.Proofs.Ytjbgealnnlmchaa.G
open Go.RowKit Go.Proofs.Ytjbgealnnlmchaa.B Go.Proofs.YtjbgealnnlmchaaW.PrintWords Go.Proofs.YtjbgealnnlmchaaW.PrintLast Go.Proofs.YtjbgealnnlmchaaW.PrintMore

theorem mem_ints' {s : List Nat} {x : Nat} : (x : Int) ∈ ints s ↔ x ∈ s := by
  unfold ints
  rw [List.mem_map]
  constructor
  · rintro ⟨y, h1, h2⟩
    have : y = x := by omega
    rw [← this]; exact h1
  · exact fun h => ⟨x, h, rfl⟩
theorem sol_cells {W W' : World} {g : Nat} {A : Option Addr} {n c : Nat} (h : W.heap[g]? = some (.cells #[.slice none 0 0, .slice none 0 0, .slice A n c, .int .i64 0] 28 (0, 0))) (hb : Below W.heap.size W W') :
    W'.cell? ⟨g, 0, none⟩ = some (.slice none 0 0) ∧ W'.cell? ⟨g, 1, none⟩ = some (.slice none 0 0) ∧ W'.cell? ⟨g, 2, none⟩ = some (.slice A n c) ∧ W'.cell? ⟨g, 3, none⟩ = some (.int .i64 0) :=
  ⟨(blk_cell (blk_below h hb) 0).trans rfl, (blk_cell (blk_below h hb) 1).trans rfl, (blk_cell (blk_below h hb) 2).trans rfl, (blk_cell (blk_below h hb) 3).trans rfl⟩
theorem edge_cell {W W' : World} {A : Option Addr} {ad : Addr} {l : List S41} {c : Nat} (h : Edg W A l c) (hA : A = some ad) (hb : Below W.heap.size W W') (i : Nat) (hi : i < l.length) :
    W'.cell? (ad.add (i * 3)) = some (.int .i64 l[i].f0) ∧ W'.cell? ⟨(ad.add (i * 3)).block, (ad.add (i * 3)).off + 1, none⟩ = some (.int .i64 l[i].f1) ∧ W'.cell? ⟨(ad.add (i * 3)).block, (ad.add (i * 3)).off + 2, none⟩ = some (.int .i64 l[i].f2) := by
  obtain ⟨ad', e', q0, q1, q2⟩ := at_T41 (Kd.C_below h.C hb) (i : Int) (Int.natCast_nonneg i) (by omega)
  rw [hA] at e'
  injection e' with e'
  subst e'
  rw [Int.toNat_natCast, rd33_at l i hi] at q0 q1 q2
  exact ⟨q0, q1, q2⟩
theorem Edg.addr {W : World} {A : Option Addr} {l : List S41} {c : Nat} (h : Edg W A l c) (hl : 0 < l.length) : ∃ ad, A = some ad := by
  obtain ⟨ad, e, _⟩ := at_T41 h.C 0 (by omega) (by omega)
  exact ⟨ad, e⟩
theorem w_succ {i : Nat} (h : i ≤ 1000000000) : wrap64 ((i : Int) + 1) = ((i + 1 : Nat) : Int) := by unfold wrap64; omega
def Up (l : List Int) : Prop := l.Pairwise (· < ·)
/-- A number put into a rising list. -/
def ins (x : Int) : List Int → List Int
  | [] => [x]
  | y :: r => if x < y then x :: y :: r else y :: ins x r
theorem mem_ins (x n : Int) (l : List Int) : n ∈ ins x l ↔ n = x ∨ n ∈ l := by
  induction l with
  | nil => simp [ins]
  | cons y l ih =>
    unfold ins
    split
    · simp
    · rw [List.mem_cons, ih, List.mem_cons]
      constructor
      · rintro (h | h | h)
        · exact .inr (.inl h)
        · exact .inl h
        · exact .inr (.inr h)
      · rintro (h | h | h)
        · exact .inr (.inl h)
        · exact .inl h
        · exact .inr (.inr h)
theorem up_ins {x : Int} {l : List Int} (h : Up l) (hx : x ∉ l) : Up (ins x l) := by
  induction l with
  | nil => exact List.pairwise_singleton _ _
  | cons y l ih =>
    obtain ⟨h1, h2⟩ := List.pairwise_cons.1 h
    unfold ins
    split
    · rename_i hlt
      exact List.pairwise_cons.2 ⟨fun z hz => by
        rcases List.mem_cons.1 hz with rfl | hz
        · exact hlt
        · have := h1 z hz
          omega, h⟩
    · rename_i hlt
      refine List.pairwise_cons.2 ⟨fun z hz => ?_, ih h2 (fun hm => hx (List.mem_cons_of_mem _ hm))⟩
      rcases (mem_ins x z l).1 hz with rfl | hz
      · have : z ≠ y := fun he => hx (he ▸ List.mem_cons_self ..)
        omega
      · exact h1 z hz
theorem with_true (l : List Int) (x : Int) (hl : l.length ≤ 4000000) : ∀ (k i : Nat) (out : List Int), i ≤ l.length → l.length - i < k → x ∉ l.drop i → out.length ≤ 4000001 + i → crosstreeref12_WithInt.l0 k l x out true (i : Int) = some (out ++ l.drop i) := by
  intro k
  induction k with
  | zero => intro i out h1 h2; omega
  | succ k ih =>
    intro i out h1 h2 hx ho
    unfold crosstreeref12_WithInt.l0
    by_cases hi : i < l.length
    · have hi' : (i : Int) < (l.length : Int) := by omega
      rw [List.drop_eq_getElem_cons hi] at hx ⊢
      have hne : ¬ (l[i] = x) := fun he => hx (by rw [← he]; exact List.mem_cons_self ..)
      rw [if_pos hi', if_pos (Int.natCast_nonneg i), rd_at l i hi, if_neg hne, if_pos rfl, if_pos (by omega), w_succ (by omega), ih (i + 1) _ (by omega) (by omega) (fun hm => hx (List.mem_cons_of_mem _ hm)) (by rw [List.length_append, List.length_singleton]; omega)]
      simp
    · rw [if_neg (by omega), List.drop_eq_nil_of_le (by omega)]
      simp
theorem with_false (l : List Int) (x : Int) (hl : l.length ≤ 4000000) : ∀ (k i : Nat) (out : List Int), i ≤ l.length → l.length - i < k → x ∉ l.drop i → out.length ≤ i → crosstreeref12_WithInt.l0 k l x out false (i : Int) = some (out ++ ins x (l.drop i)) := by
  intro k
  induction k with
  | zero => intro i out h1 h2; omega
  | succ k ih =>
    intro i out h1 h2 hx ho
    unfold crosstreeref12_WithInt.l0
    by_cases hi : i < l.length
    · have hi' : (i : Int) < (l.length : Int) := by omega
      rw [List.drop_eq_getElem_cons hi] at hx ⊢
      have hne : ¬ (l[i] = x) := fun he => hx (by rw [← he]; exact List.mem_cons_self ..)
      rw [if_pos hi', if_pos (Int.natCast_nonneg i), rd_at l i hi, if_neg hne, if_neg (by simp), w_succ (by omega)]
      have hx2 : x ∉ l.drop (i + 1) := fun hm => hx (List.mem_cons_of_mem _ hm)
      unfold ins
      by_cases hlt : x < l[i]
      · rw [if_pos hlt, if_pos hlt, if_pos (by omega)]
        show (if (out ++ [x]).length < 17592186044416 then crosstreeref12_WithInt.l0 k l x (out ++ [x] ++ [l[i]]) true _ else none) = _
        rw [if_pos (by rw [List.length_append, List.length_singleton]; omega), with_true l x hl k (i + 1) _ (by omega) (by omega) hx2 (by simp only [List.length_append, List.length_singleton]; omega)]
        simp
      · rw [if_neg hlt, if_neg hlt, if_pos (by omega), ih (i + 1) _ (by omega) (by omega) hx2 (by rw [List.length_append, List.length_singleton]; omega)]
        simp
    · rw [if_neg (by omega), List.drop_eq_nil_of_le (by omega), if_neg (by simp), if_pos (by omega)]
      rfl
theorem with_f {l : List Int} {x : Int} (hl : l.length ≤ 4000000) (hx : x ∉ l) (k : Nat) (hk : l.length < k) : crosstreeref12_WithInt.f k l x = some (ins x l) := by
  unfold crosstreeref12_WithInt.f
  have := with_false l x hl k 0 [] (Nat.zero_le _) (by omega) (by simpa using hx) (by simp)
  rwa [List.drop_zero, List.nil_append] at this
theorem with_mem (l : List Int) (x : Int) (hl : l.length ≤ 4000000) : ∀ (k i : Nat) (out : List Int) (b : Bool), l.length - i < k → x ∈ l.drop i → out.length ≤ 2 * i → crosstreeref12_WithInt.l0 k l x out b (i : Int) = some l := by
  intro k
  induction k with
  | zero => intro i out b h; omega
  | succ k ih =>
    intro i out b h2 hx ho
    unfold crosstreeref12_WithInt.l0
    by_cases hi : i < l.length
    · rw [if_pos (by omega), if_pos (Int.natCast_nonneg i), rd_at l i hi]
      rw [List.drop_eq_getElem_cons hi] at hx
      by_cases he : l[i] = x
      · rw [if_pos he]
      · rw [if_neg he]
        have hx2 : x ∈ l.drop (i + 1) := (List.mem_cons.1 hx).resolve_left (fun e => he e.symm)
        cases b with
        | true =>
          rw [if_pos rfl, if_pos (by omega), w_succ (by omega)]
          exact ih (i + 1) _ _ (by omega) hx2 (by rw [List.length_append, List.length_singleton]; omega)
        | false =>
          rw [if_neg (by simp)]
          by_cases hlt : x < l[i]
          · rw [if_pos hlt, if_pos (by omega)]
            show (if (out ++ [x]).length < 17592186044416 then crosstreeref12_WithInt.l0 k l x (out ++ [x] ++ [l[i]]) true _ else none) = _
            rw [if_pos (by rw [List.length_append, List.length_singleton]; omega), w_succ (by omega)]
            exact ih (i + 1) _ _ (by omega) hx2 (by simp only [List.length_append, List.length_singleton]; omega)
          · rw [if_neg hlt, if_pos (by omega), w_succ (by omega)]
            exact ih (i + 1) _ _ (by omega) hx2 (by rw [List.length_append, List.length_singleton]; omega)
    · rw [List.drop_eq_nil_of_le (by omega)] at hx
      cases hx
theorem with_any {l : List Int} (hl : l.length ≤ 4000000) (hu : Up l) (x : Int) (k : Nat) (hk : l.length < k) : ∃ r, crosstreeref12_WithInt.f k l x = some r ∧ Up r ∧ (∀ n, n ∈ r ↔ n = x ∨ n ∈ l) ∧ r.length ≤ l.length + 1 := by
  by_cases hx : x ∈ l
  · refine ⟨l, ?_, hu, fun n => ⟨.inr, fun h => h.elim (fun e => e ▸ hx) id⟩, by omega⟩
    unfold crosstreeref12_WithInt.f
    exact with_mem l x hl k 0 [] false (by omega) (by rw [List.drop_zero]; exact hx) (by simp)
  · refine ⟨ins x l, with_f hl hx k hk, up_ins hu hx, fun n => mem_ins x n l, ?_⟩
    have key : ∀ l : List Int, (ins x l).length = l.length + 1 := by
      intro l
      induction l with
      | nil => rfl
      | cons y l ih => unfold ins; split <;> simp [ih]
    rw [key]
    exact Nat.le_refl _
theorem refTo_l0 (l : List S41) (hl : l.length ≤ 1000000) (fn pc : Int) (t : List Int) (ht : TOk l fn pc t) : ∀ (d i : Nat) (acc : List Int), l.length - i = d → i ≤ l.length → Up acc → (∀ x, x ∈ acc ↔ x ∈ toL (l.take i) fn pc) → acc.length ≤ i →
    crosstreeref19_To.l0 (d + 1 + (l.length + 2)) fn pc acc (i : Int) [] [] l 0 = some t := by
  intro d
  induction d with
  | zero =>
    intro i acc h1 h2 hu hm _
    rw [show 0 + 1 + (l.length + 2) = (l.length + 2) + 1 by omega]
    unfold crosstreeref19_To.l0
    rw [if_neg (by omega)]
    rw [List.take_of_length_le (by omega)] at hm
    rw [TOk.unique ⟨hu, hm⟩ ht]
  | succ d ih =>
    intro i acc h1 h2 hu hm ha
    have hi : i < l.length := by omega
    rw [show d + 1 + 1 + (l.length + 2) = (d + 1 + (l.length + 2)) + 1 by omega]
    unfold crosstreeref19_To.l0
    rw [if_pos (by omega), if_pos (by omega), rd33_at l i hi, w_succ (by omega)]
    have hst := toL_take l fn pc i hi
    unfold isAt at hst
    by_cases c1 : l[i].f0 = fn
    · rw [if_pos c1]
      by_cases c2 : l[i].f1 = pc
      · rw [if_pos c2]
        rw [decide_eq_true c1, decide_eq_true c2, if_pos (by rfl)] at hst
        obtain ⟨r, hr, hru, hrm, hrl⟩ := with_any (l := acc) (by omega) hu l[i].f2 (d + 1 + (l.length + 2)) (by omega)
        rw [hr, Option.bind_some]
        refine ih (i + 1) r (by omega) (by omega) hru (fun x => ?_) (by omega)
        rw [hrm x, hst, List.mem_append, List.mem_singleton, hm x]
        exact ⟨fun h => h.symm, fun h => h.symm⟩
      · rw [if_neg c2]
        rw [decide_eq_false c2, Bool.and_false, if_neg (by simp), List.append_nil] at hst
        exact ih (i + 1) acc (by omega) (by omega) hu (fun x => by rw [hst]; exact hm x) (by omega)
    · rw [if_neg c1]
      rw [decide_eq_false c1, Bool.false_and, if_neg (by simp), List.append_nil] at hst
      exact ih (i + 1) acc (by omega) (by omega) hu (fun x => by rw [hst]; exact hm x) (by omega)
theorem refTo_f (l : List S41) (hl : l.length ≤ 1000000) (fn pc : Int) (t : List Int) (ht : TOk l fn pc t) : ∃ k, crosstreeref19_To.f k [] [] l 0 fn pc = some t := by
  refine ⟨l.length + 1 + (l.length + 2), ?_⟩
  unfold crosstreeref19_To.f
  exact refTo_l0 l hl fn pc t ht l.length 0 [] (by omega) (Nat.zero_le _) List.Pairwise.nil (fun x => by simp [toL]) (by simp)

/-! ### Rings -/
def nxL (l : List S41) (f : Nat) : List Int := (l.filter (fun e => decide (e.f0 = (f : Int)))).map (fun e => e.f2)
theorem nxL_take (l : List S41) (f i : Nat) (h : i < l.length) : nxL (l.take (i + 1)) f = nxL (l.take i) f ++ (if l[i].f0 = (f : Int) then [l[i].f2] else []) := by
  unfold nxL
  rw [List.take_succ_eq_append_getElem h, List.filter_append, List.map_append]
  congr 1
  by_cases hc : l[i].f0 = (f : Int)
  · rw [if_pos hc, List.filter_cons_of_pos (by simpa using hc)]; rfl
  · rw [if_neg hc, List.filter_cons_of_neg (by simpa using hc)]; rfl
theorem nxL_len (l : List S41) (f : Nat) : (nxL l f).length ≤ l.length := by unfold nxL; rw [List.length_map]; exact List.length_filter_le _ _
theorem nx_ring {N : Nat} {l : List S41} {f : Nat} (hf : f < N) {s : List Nat} (hs : ROk N l (nxL l f) s) : f ∈ s ↔ InRing N l f := by
  rw [hs.2 f]
  constructor
  · rintro ⟨u, h1, h2, h3⟩
    unfold nxL at h1
    rw [List.mem_map] at h1
    obtain ⟨e, he, h4⟩ := h1
    rw [List.mem_filter, decide_eq_true_eq] at he
    exact ⟨u, ⟨e, he.1, ⟨by omega, by omega, by omega, by omega⟩, he.2, h4⟩, h3⟩
  · rintro ⟨u, ⟨e, h1, h2, h3, h4⟩, h5⟩
    refine ⟨u, ?_, (EE_lt ⟨e, h1, h2, h3, h4⟩).2, h5⟩
    unfold nxL
    exact List.mem_map.2 ⟨e, List.mem_filter.2 ⟨h1, decide_eq_true h3⟩, h4⟩
theorem rings_l2 (N : Nat) (hN : N ≤ 20000) (l : List S41) (R : List Int) (f : Nat) (hf : f < N) (s : List Nat) (hs : s.Nodup) (hsl : s.length ≤ 20000) : ∀ (d i : Nat) (acc : List Int), s.length - i = d → i ≤ s.length → acc.length ≤ 100000 + i →
    (∃ k, crosstreeref19_Rings.l0 k (acc ++ (if f ∈ s.drop i then [(f : Int)] else [])) (N : Int) ((f + 1 : Nat) : Int) [] [] l 0 = some R) → ∃ k, crosstreeref19_Rings.l2 k acc (N : Int) (f : Int) (ints s) (i : Int) [] [] l 0 = some R := by
  intro d
  induction d with
  | zero =>
    rintro i acc h1 h2 ha ⟨k, hk⟩
    refine ⟨k + 1, ?_⟩
    unfold crosstreeref19_Rings.l2
    rw [if_neg (by rw [ints_len]; omega), w_succ (by omega)]
    rw [List.drop_eq_nil_of_le (by omega), if_neg (by simp), List.append_nil] at hk
    exact hk
  | succ d ih =>
    intro i acc h1 h2 ha hk
    have hi : i < s.length := by omega
    rw [List.drop_eq_getElem_cons hi] at hk
    by_cases hc : s[i] = f
    · have hno : f ∉ s.drop (i + 1) := fun hh => by
        have := hs
        rw [← List.take_append_drop i s, List.drop_eq_getElem_cons hi] at this
        exact (List.nodup_cons.1 (List.nodup_append.1 this).2.1).1 (hc ▸ hh)
      rw [if_pos (by rw [hc]; exact List.mem_cons_self)] at hk
      obtain ⟨k, hk⟩ := ih (i + 1) (acc ++ [(f : Int)]) (by omega) (by omega) (by rw [List.length_append, List.length_singleton]; omega) (by rw [if_neg hno, List.append_nil]; exact hk)
      refine ⟨k + 1, ?_⟩
      unfold crosstreeref19_Rings.l2
      rw [if_pos (by rw [ints_len]; omega), if_pos (by omega), rd_ints s i hi, if_pos (by omega), if_pos (by omega), w_succ (by omega)]
      exact hk
    · have hiff : f ∈ s[i] :: s.drop (i + 1) ↔ f ∈ s.drop (i + 1) := ⟨fun h => (List.mem_cons.1 h).resolve_left (fun e => hc e.symm), List.mem_cons_of_mem _⟩
      simp only [hiff] at hk
      obtain ⟨k, hk⟩ := ih (i + 1) acc (by omega) (by omega) (by omega) hk
      refine ⟨k + 1, ?_⟩
      unfold crosstreeref19_Rings.l2
      rw [if_pos (by rw [ints_len]; omega), if_pos (by omega), rd_ints s i hi, if_neg (by omega), w_succ (by omega)]
      exact hk
section
variable (N : Nat) (hN : N ≤ 20000) (l : List S41) (hl : l.length ≤ 1000000) (R : List Int)
include hN hl
theorem rings_l1 (f : Nat) (hf : f < N) (s : List Nat) (hs : ROk N l (nxL l f) s) (acc : List Int) (hk : ∃ k, crosstreeref19_Rings.l2 k acc (N : Int) (f : Int) (ints s) ((0 : Nat) : Int) [] [] l 0 = some R) : ∀ (d i : Nat), l.length - i = d → i ≤ l.length →
    ∃ k, crosstreeref19_Rings.l1 k acc (N : Int) (f : Int) (nxL (l.take i) f) (i : Int) [] [] l 0 = some R := by
  intro d
  induction d with
  | zero =>
    intro i h1 h2
    obtain ⟨k1, hk1⟩ := hk
    have hsz : sizeN (N : Int) = N := by unfold sizeN; omega
    obtain ⟨k2, hk2⟩ := refReach_f (N : Int) l hl (nxL l f) (by have := nxL_len l f; omega) s (by rw [hsz]; exact hs)
    refine ⟨max k1 k2 + 1, ?_⟩
    unfold crosstreeref19_Rings.l1
    rw [if_neg (by omega), List.take_of_length_le (by omega), le_mono (g := fun k => crosstreeref15_Reach.f k (N : Int) l (nxL l f)) (crosstreeref15_Reach.mono _ _ _) hk2 (max k1 k2) (by omega), Option.bind_some]
    exact le_mono (g := fun k => crosstreeref19_Rings.l2 k acc (N : Int) (f : Int) (ints s) 0 [] [] l 0) (fun k => (crosstreeref19_Rings.mono_l k).2.2 _ _ _ _ _ _ _ _ _) hk1 (max k1 k2) (by omega)
  | succ d ih =>
    intro i h1 h2
    have hi : i < l.length := by omega
    obtain ⟨k, hk'⟩ := ih (i + 1) (by omega) (by omega)
    refine ⟨k + 1, ?_⟩
    unfold crosstreeref19_Rings.l1
    have hlen : (nxL (l.take i) f).length ≤ 1000000 := by
      have h3 := nxL_len (l.take i) f
      rw [List.length_take] at h3
      omega
    rw [nxL_take l f i hi] at hk'
    rw [if_pos (by omega), if_pos (by omega), rd33_at l i hi, w_succ (by omega)]
    by_cases hc : l[i].f0 = (f : Int)
    · rw [if_pos hc] at hk'
      rw [if_pos hc, if_pos (by omega)]
      exact hk'
    · rw [if_neg hc, List.append_nil] at hk'
      rw [if_neg hc]
      exact hk'
theorem rings_l0 (g : List Nat) (hg : RgOk N l g) (hR : R = ints g) : ∀ (d f : Nat) (acc : List Nat), N - f = d → f ≤ N → RgI N l f acc → ∃ k, crosstreeref19_Rings.l0 k (ints acc) (N : Int) (f : Int) [] [] l 0 = some R := by
  intro d
  induction d with
  | zero =>
    intro f acc h1 h2 ha
    have hfN : f = N := by omega
    subst hfN
    refine ⟨1, ?_⟩
    unfold crosstreeref19_Rings.l0
    rw [if_neg (by omega), hR, RgOk.unique ha hg]
  | succ d ih =>
    intro f acc h1 h2 ha
    have hf : f < N := by omega
    obtain ⟨r, hr, hrn, hrm⟩ := bfs_ok ((nxL l f).length + pot (graphS N l) (List.replicate N false) + 1) (nxL l f) (List.replicate N false) [] (bfs_start N l (nxL l f)) (by omega)
    obtain ⟨s, _, hs⟩ := sorted_ok hrn hrm
    have hal := ha.len
    have hnext : ∃ k, crosstreeref19_Rings.l0 k (ints acc ++ (if f ∈ s.drop 0 then [(f : Int)] else [])) (N : Int) ((f + 1 : Nat) : Int) [] [] l 0 = some R := by
      rw [List.drop_zero]
      by_cases hm : f ∈ s
      · rw [if_pos hm]
        have := ih (f + 1) (acc ++ [f]) (by omega) (by omega) (ha.yes ((nx_ring hf hs).1 hm))
        unfold ints at this ⊢
        rw [List.map_append] at this
        exact this
      · rw [if_neg hm, List.append_nil]
        exact ih (f + 1) acc (by omega) (by omega) (ha.no (fun h => hm ((nx_ring hf hs).2 h)))
    have hl2 := rings_l2 N hN l R f hf s (hs.1.imp (fun h => Nat.ne_of_lt h)) (Nat.le_trans hs.len hN) s.length 0 (ints acc) (by omega) (Nat.zero_le _) (by rw [ints_len]; omega) hnext
    obtain ⟨k, hk⟩ := rings_l1 N hN l hl R f hf s hs (ints acc) hl2 l.length 0 (by omega) (Nat.zero_le _)
    refine ⟨k + 1, ?_⟩
    unfold crosstreeref19_Rings.l0
    rw [if_pos (by omega)]
    exact hk
end
theorem refRings_f (N : Nat) (hN : N ≤ 20000) (l : List S41) (hl : l.length ≤ 1000000) (g : List Nat) (hg : RgOk N l g) (l0 : List S105) (l1 : List S108) (h1 : l1.length = N) (mn : Int) : ∃ k, crosstreeref19_Rings.f k l0 l1 mn [] [] l 0 = some (ints g) := by
  obtain ⟨k, hk⟩ := rings_l0 N hN l hl (ints g) g hg rfl N 0 [] (by omega) (Nat.zero_le _) (RgI.nil N l)
  refine ⟨k, ?_⟩
  unfold crosstreeref19_Rings.f
  rw [h1]
  exact hk
theorem refReached_f (N : Nat) (hN : N ≤ 20000) (l : List S41) (hl : l.length ≤ 1000000) (mn : Int) (s : List Nat) (hs : ROk (sizeN (N : Int)) l [mn] s) (l0 : List S105) (l1 : List S108) (h1 : l1.length = N) : ∃ k, crosstreeref19_Reached.f k l0 l1 mn [] [] l 0 = some (ints s) := by
  obtain ⟨k, hk⟩ := refReach_f (N : Int) l hl [mn] (by simp) s hs
  refine ⟨k, ?_⟩
  unfold crosstreeref19_Reached.f
  rw [h1, hk]
  rfl
theorem R_nts {W : World} {base : Nat} {ok : Nat → Prop} {v : Value} {r : List Int} (h : Kd.R (Kd.int .i64) 3 W base ok v r) : ∃ A c, v = .slice A r.length c ∧ Nts W A r c := by
  obtain ⟨A, c, e, h1, h2⟩ := Kd.R_reads h
  exact ⟨A, c, e, ⟨h2, h1⟩⟩
theorem refTo_d (l : List S41) (A : Option Addr) (c : Nat) (fn pc : Int) (w : World) (h : Edg w A l c) (t : List Int) (ht : TOk l fn pc t) :
    Calls Try.prog 13 #[.agg #[.slice none 0 0, .slice none 0 0, .slice A l.length c, .int .i64 0], .int .i64 fn, .int .i64 pc] w fun e w' => ∃ A c, e = .returned (.slice A t.length c) ∧ Nts w' A t c ∧ Below w.heap.size w w' := by
  obtain ⟨k, hk⟩ := refTo_f l h.len fn pc t ht
  refine (crosstreeref19_To.calls k none 0 [] none 0 [] A c l 0 fn pc t w (Kd.C_nil _ w) (Nat.le_refl _) (Kd.C_nil _ w) (Nat.le_refl _) h.C h.cap hk).mono ?_
  rintro e w' ⟨v, rfl, h1, h2⟩
  obtain ⟨A', c', rfl, h3⟩ := R_nts h1
  exact ⟨A', c', rfl, h3, h2⟩
theorem refReached_d (k : Nat) (hk : k ≤ 20000) (mn : Int) (v : Value) (l : List S41) (A : Option Addr) (c : Nat) (w : World) (hp : Prg w v k mn) (h : Edg w A l c) (s : List Nat) (hs : ROk (sizeN (k : Int)) l [mn] s) (t : List Int) (ht : t = ints s) :
    Calls Try.prog 15 #[v, .agg #[.slice none 0 0, .slice none 0 0, .slice A l.length c, .int .i64 0]] w fun e w' => ∃ A c, e = .returned (.slice A t.length c) ∧ Nts w' A t c ∧ Below w.heap.size w w' := by
  subst ht
  obtain ⟨A0, c0, l0, A1, c1, l1, rfl, h1, h2, h4, h5, h6⟩ := hp
  obtain ⟨q, hq⟩ := refReached_f k hk l h.len mn s hs l0 l1 h4
  refine (crosstreeref19_Reached.calls q A0 c0 l0 A1 c1 l1 mn none 0 [] none 0 [] A c l 0 _ w h5 h1 h6 h2 (Kd.C_nil _ w) (Nat.le_refl _) (Kd.C_nil _ w) (Nat.le_refl _) h.C h.cap hq).mono ?_
  rintro e w' ⟨v, rfl, h1, h2⟩
  obtain ⟨A', c', rfl, h3⟩ := R_nts h1
  exact ⟨A', c', rfl, h3, h2⟩
theorem refRings_d (k : Nat) (hk : k ≤ 20000) (mn : Int) (v : Value) (l : List S41) (A : Option Addr) (c : Nat) (w : World) (hp : Prg w v k mn) (h : Edg w A l c) (t : List Int) (g : List Nat) (hg : RgOk k l g) (ht : t = ints g) :
    Calls Try.prog 17 #[v, .agg #[.slice none 0 0, .slice none 0 0, .slice A l.length c, .int .i64 0]] w fun e w' => ∃ A c, e = .returned (.slice A t.length c) ∧ Nts w' A t c ∧ Below w.heap.size w w' := by
  subst ht
  obtain ⟨A0, c0, l0, A1, c1, l1, rfl, h1, h2, h4, h5, h6⟩ := hp
  obtain ⟨q, hq⟩ := refRings_f k hk l h.len g hg l0 l1 h4 mn
  refine (crosstreeref19_Rings.calls q A0 c0 l0 A1 c1 l1 mn none 0 [] none 0 [] A c l 0 _ w h5 h1 h6 h2 (Kd.C_nil _ w) (Nat.le_refl _) (Kd.C_nil _ w) (Nat.le_refl _) h.C h.cap hq).mono ?_
  rintro e w' ⟨v, rfl, h1, h2⟩
  obtain ⟨A', c', rfl, h3⟩ := R_nts h1
  exact ⟨A', c', rfl, h3, h2⟩
set_option maxRecDepth 100000 in
set_option maxHeartbeats 8000000 in
theorem CallsTell_walk (n : Int) (hn : 0 ≤ n ∧ n ≤ 255) (l : List S41) (A : Option Addr) (c : Nat) (mn pc : Int) (w : World) (hlc : l.length ≤ c) (hC : Kd.C k41 w A l.length l) :
    Calls Try.prog 3 #[.int .u8 n, .slice A l.length c, .int .i64 mn, .int .i64 pc] w fun e w' => e = .returned (.bool true) ∧ Below w.heap.size w w' := by
  obtain ⟨k, l2, hk, hl2, hk40, hF⟩ := few_e n hn l A c w hC hlc
  have HF := Aside0.mk hF
  have HK40 := Aside0.mk hk40
  clear hC hlc hF hk hl2 hk40 hn
  go_enter Try.func3, Try.ntmps3
  go_upto_region 3 with (first
    | (go_at_call 8; with_reducible refine (shown_c _).mono ?_; rintro e w1 ⟨rfl, hk⟩; have HB := Aside0.mk hk; clear hk)
    | (go_at_call 9; with_reducible refine (HF.out _ HB.out).mono ?_; rintro e w2 ⟨rfl, hE, hk⟩; have HE := Aside0.mk hE; replace HB := Aside0.mk hk; clear hE hk))
  clear HF
  go_upto_region 4 with (fail)
  have HX := Aside0.mk (blk_new w2 (.cells #[.slice none 0 0, .slice none 0 0, .slice A l2.length c, .int .i64 0] 28))
  replace HE := Aside0.mk (HE.out.below (below_alloc (Below.refl _ w2) (.cells #[.slice none 0 0, .slice none 0 0, .slice A l2.length c, .int .i64 0] 28)))
  replace HB := Aside0.mk (below_alloc HB.out (.cells #[.slice none 0 0, .slice none 0 0, .slice A l2.length c, .int .i64 0] 28))
  generalize w2.alloc (.cells #[.slice none 0 0, .slice none 0 0, .slice A l2.length c, .int .i64 0] 28) = W2 at HX HE HB ⊢
  generalize w2.heap.size = gs at HX ⊢
  go_upto_region 5 with (go_at_call 10; (with_reducible refine (prog_d k _ _ ?aK).mono ?_; (case aK => have := HK40.out; omega); rintro r3 w3 ⟨pv, rfl, hp, hb3⟩; have HP := Aside0.mk hp; have HE3 := Aside0.mk (HE.out.below hb3); have HB3 := Aside0.mk (below_step HB.out hb3); have HX3 := Aside0.mk (blk_below HX.out hb3); have hp2 := hp; unfold Prg at hp2; obtain ⟨A0, c0, l0, A1, c1, l1, rfl, hp3⟩ := hp2; clear hp hb3 hp3))
  clear HE HB HX
  have HXP := Aside0.mk (blk_new w3 (.cells #[.slice A0 l0.length c0, .slice A1 l1.length c1, .int .i64 mn] 32))
  have HXS := Aside0.mk (blk_alloc HX3.out (.cells #[.slice A0 l0.length c0, .slice A1 l1.length c1, .int .i64 mn] 32))
  have HE := Aside0.mk (HE3.out.below (below_alloc (Below.refl _ w3) (.cells #[.slice A0 l0.length c0, .slice A1 l1.length c1, .int .i64 mn] 32)))
  have HPR := Aside0.mk (HP.out.below (below_alloc (Below.refl _ w3) (.cells #[.slice A0 l0.length c0, .slice A1 l1.length c1, .int .i64 mn] 32)))
  have HB := Aside0.mk (below_alloc HB3.out (.cells #[.slice A0 l0.length c0, .slice A1 l1.length c1, .int .i64 mn] 32))
  clear HE3 HP HB3 HX3
  generalize w3.alloc (.cells #[.slice A0 l0.length c0, .slice A1 l1.length c1, .int .i64 mn] 32) = W3 at HXP HXS HE HPR HB ⊢
  generalize w3.heap.size = gp at HXP ⊢
  obtain ⟨s, hs⟩ := ROk.exists_ (sizeN (k : Int)) (sizeN_le _) l2 HE.out.len [mn] (by simp)
  have HS := Aside0.mk hs
  have hsl : s.length ≤ 20000 := Nat.le_trans hs.len (sizeN_le _)
  obtain ⟨t, ht⟩ : ∃ t, t = ints s := ⟨_, rfl⟩
  have HT := Aside0.mk ht
  have HTL : Aside0 (t.length ≤ 1000000) := Aside0.mk (by rw [ht, ints_len]; omega)
  obtain ⟨g, hg⟩ := RgOk.exists_ k l2
  have HG := Aside0.mk hg
  obtain ⟨t2, ht2⟩ : ∃ t2, t2 = ints g := ⟨_, rfl⟩
  have HT2 := Aside0.mk ht2
  have HTL2 : Aside0 (t2.length ≤ 1000000) := Aside0.mk (by rw [ht2, ints_len]; have := hg.len; have := HK40.out; omega)
  have HK2 : Aside0 (k ≤ 20000) := Aside0.mk (by have := HK40.out; omega)
  clear hs hsl ht hg ht2
  have HQ := Aside0.mk (show ∀ W2 : World, ((W2.cell? ⟨gs, 0, none⟩ = some (.slice none 0 0) ∧ W2.cell? ⟨gs, 1, none⟩ = some (.slice none 0 0) ∧ W2.cell? ⟨gs, 2, none⟩ = some (.slice A l2.length c) ∧ W2.cell? ⟨gs, 3, none⟩ = some (.int .i64 0)) ∧ (W2.cell? ⟨gp, 0, none⟩ = some (.slice A0 l0.length c0) ∧ W2.cell? ⟨gp, 1, none⟩ = some (.slice A1 l1.length c1) ∧ W2.cell? ⟨gp, 2, none⟩ = some (.int .i64 mn)) ∧ Below W3.heap.size W3 W2) → Below W3.heap.size W3 W2 from fun _ h => h.2.2)
  have HSS := Aside0.mk (show ∀ W2 : World, Below W3.heap.size W3 W2 → (((W2.cell? ⟨gs, 0, none⟩ = some (.slice none 0 0) ∧ W2.cell? ⟨gs, 1, none⟩ = some (.slice none 0 0) ∧ W2.cell? ⟨gs, 2, none⟩ = some (.slice A l2.length c) ∧ W2.cell? ⟨gs, 3, none⟩ = some (.int .i64 0)) ∧ (W2.cell? ⟨gp, 0, none⟩ = some (.slice A0 l0.length c0) ∧ W2.cell? ⟨gp, 1, none⟩ = some (.slice A1 l1.length c1) ∧ W2.cell? ⟨gp, 2, none⟩ = some (.int .i64 mn)) ∧ Below W3.heap.size W3 W2)) from fun W2 hb => ⟨sol_cells HXS.out hb, ⟨(blk_cell (blk_below HXP.out hb) 0).trans rfl, (blk_cell (blk_below HXP.out hb) 1).trans rfl, (blk_cell (blk_below HXP.out hb) 2).trans rfl⟩, hb⟩)
  go_upto_block 0 with (fail)
  go_wp2_with fail
  go_loopw [14] (fun iv wx => ∃ (j : Nat), j ≤ k + 2 ∧ iv = .int .i64 ((j : Int) - 1) ∧ Hid (Below W3.heap.size W3 wx)) (fun iv _ => k + 2 - (intOf iv + 1).toNat)
  case atStart => exact ⟨0, Nat.zero_le _, rfl, Below.refl _ _⟩
  case round =>
    obtain ⟨j, hj, rfl, h1⟩ := hrel
    have HW := Aside0.mk (show Below W3.heap.size W3 wr from h1)
    clear h1
    obtain ⟨x, hx⟩ : ∃ x : Int, x = (j : Int) - 1 := ⟨_, rfl⟩
    rw [← hx]
    have HXX := Aside0.mk hx
    by_cases hlt : x ≤ (k : Int)
    · have e1 : decide (x ≤ (k : Int)) = true := decide_eq_true hlt
      have hwi : IntKind.i64.wrap (x + 1) = x + 1 := by have := HK40.out; rw [IntKind.wrap_i64]; omega
      have HWI := Aside0.mk hwi
      have HLT := Aside0.mk hlt
      have hto := to_ok l2 x pc
      obtain ⟨tt, htt⟩ : ∃ tt, Lib.compact ((toL l2 x pc).mergeSort (fun x y => decide (x ≤ y))) = tt := ⟨_, rfl⟩
      rw [htt] at hto
      have HTO := Aside0.mk hto
      have HTT : Aside0 (tt.length ≤ 1000000) := Aside0.mk (by have := hto.len; have := HE.out.len; omega)
      clear hwi hlt hto htt hx
      go_upto_region 8 with (fail)
      clear e1
      have HD := Aside0.mk (HSS.out _ (below_drew HW.out))
      go_region_held3 (fun w' => (w'.cell? ⟨gs, 0, none⟩ = some (.slice none 0 0) ∧ w'.cell? ⟨gs, 1, none⟩ = some (.slice none 0 0) ∧ w'.cell? ⟨gs, 2, none⟩ = some (.slice A l2.length c) ∧ w'.cell? ⟨gs, 3, none⟩ = some (.int .i64 0)) ∧ (w'.cell? ⟨gp, 0, none⟩ = some (.slice A0 l0.length c0) ∧ w'.cell? ⟨gp, 1, none⟩ = some (.slice A1 l1.length c1) ∧ w'.cell? ⟨gp, 2, none⟩ = some (.int .i64 mn)) ∧ Below W3.heap.size W3 w') (first | assumption | exact HD.out | exact HSS.out _ (below_step (HQ.out _ (by assumption)) hb2)) (first | (go_at_call 12; with_reducible refine (to_c l2 _ c x pc _ ?aE tt HTO.out).mono ?_; (case aE => exact HE.out.below (HQ.out _ (by assumption))); rintro e w5 ⟨A5, c5, rfl, ha, hb2⟩) | (go_at_call 13; with_reducible refine (refTo_d l2 _ c x pc _ ?aE tt HTO.out).mono ?_; (case aE => exact HE.out.below (HQ.out _ (by assumption))); rintro e w5 ⟨A6, c6, rfl, hr, hb2⟩) | (go_at_call 11; with_reducible refine (ints_d tt _ _ _ _ _ ?aH ?aJ HTT.out).mono ?_; (case aH => first | exact ha | exact ha.below hb2); (case aJ => first | exact hr | exact hr.below hb2); rintro e w5 ⟨rfl, hb2⟩))
      all_goals
        have HW2 := Aside0.mk (HQ.out _ (by assumption))
        have hwi := HWI.out
        go_wp2_with fail
        go_roundw
        case rel => exact ⟨j + 1, by have := HXX.out; have := HLT.out; omega, by (have h := HXX.out; congr 1; omega), HW2.out⟩
        case measure => (have h := HXX.out; have h2 := HLT.out; show k + 2 - (x + 1 + 1).toNat < k + 2 - (x + 1).toNat; omega)
    · have e1 : decide (x ≤ (k : Int)) = false := decide_eq_false hlt
      clear hlt hx
      go_upto_region 10 with (fail)
      clear e1
      have HD := Aside0.mk (HSS.out _ (below_drew HW.out))
      go_region_held3 (fun w' => (w'.cell? ⟨gs, 0, none⟩ = some (.slice none 0 0) ∧ w'.cell? ⟨gs, 1, none⟩ = some (.slice none 0 0) ∧ w'.cell? ⟨gs, 2, none⟩ = some (.slice A l2.length c) ∧ w'.cell? ⟨gs, 3, none⟩ = some (.int .i64 0)) ∧ (w'.cell? ⟨gp, 0, none⟩ = some (.slice A0 l0.length c0) ∧ w'.cell? ⟨gp, 1, none⟩ = some (.slice A1 l1.length c1) ∧ w'.cell? ⟨gp, 2, none⟩ = some (.int .i64 mn)) ∧ Below W3.heap.size W3 w') (first | assumption | exact HD.out | exact HSS.out _ (below_step (HQ.out _ (by assumption)) hb2)) (first | (go_at_call 14; with_reducible refine (reached_c k mn _ l2 _ c _ ?aP ?aE s HS.out t HT.out).mono ?_; (case aP => exact HPR.out.below (HQ.out _ (by assumption))); (case aE => exact HE.out.below (HQ.out _ (by assumption))); rintro e w5 ⟨A5, c5, rfl, ha, hb2⟩) | (go_at_call 15; with_reducible refine (refReached_d k HK2.out mn _ l2 _ c _ ?aP ?aE s HS.out t HT.out).mono ?_; (case aP => exact HPR.out.below (HQ.out _ (by assumption))); (case aE => exact HE.out.below (HQ.out _ (by assumption))); rintro e w5 ⟨A6, c6, rfl, hr, hb2⟩) | (go_at_call 16; with_reducible refine (rings_c k mn _ l2 _ c _ ?aP ?aE HK2.out t2 g HG.out HT2.out).mono ?_; (case aP => exact HPR.out.below (HQ.out _ (by assumption))); (case aE => exact HE.out.below (HQ.out _ (by assumption))); rintro e w5 ⟨A7, c7, rfl, hc, hb2⟩) | (go_at_call 17; with_reducible refine (refRings_d k HK2.out mn _ l2 _ c _ ?aP ?aE t2 g HG.out HT2.out).mono ?_; (case aP => exact HPR.out.below (HQ.out _ (by assumption))); (case aE => exact HE.out.below (HQ.out _ (by assumption))); rintro e w5 ⟨A8, c8, rfl, hd, hb2⟩) | (go_at_call 11; with_reducible refine (ints_d t _ _ _ _ _ ?aH ?aJ HTL.out).mono ?_; (case aH => first | exact ha | exact ha.below hb2); (case aJ => first | exact hr | exact hr.below hb2); rintro e w5 ⟨rfl, hb2⟩) | (go_at_call 11; with_reducible refine (ints_d t2 _ _ _ _ _ ?aH ?aJ HTL2.out).mono ?_; (case aH => first | exact hc | exact hc.below hb2); (case aJ => first | exact hd | exact hd.below hb2); rintro e w5 ⟨rfl, hb2⟩))
      all_goals
        go_wp2_with fail
        go_ret
        exact ⟨rfl, below_step HB.out (HQ.out _ (by assumption))⟩
end Go.Proofs.Ytjbgealnnlmchaa.G
