/- calls.Rings whole; few; the example's answers. No condition but sizes. -/
import Derived.Test.YtjbgealnnlmchaaRg
import Derived.Test.YtjbgealnnlmchaaRd
set_option linter.unusedVariables false
set_option linter.unusedSimpArgs false
namespace Go.Proofs.Ytjbgealnnlmchaa.G
open Go.RowKit Go.Proofs.Ytjbgealnnlmchaa.B Go.Proofs.YtjbgealnnlmchaaW.PrintWords Go.Proofs.YtjbgealnnlmchaaW.PrintLast Go.Proofs.YtjbgealnnlmchaaW.PrintMore

theorem sizeN_nat (k : Nat) (hk : k ≤ 20000) : sizeN (k : Int) = k := by unfold sizeN; omega
theorem rings_c (k : Nat) (mn : Int) (v : Value) (l : List S41) (A : Option Addr) (c : Nat) (w : World) (hp : Prg w v k mn) (h : Edg w A l c) (hk : k ≤ 20000) (t : List Int) (g : List Nat) (hg : RgOk k l g) (ht : t = ints g) :
    Calls Try.prog 16 #[v, .agg #[.slice none 0 0, .slice none 0 0, .slice A l.length c, .int .i64 0]] w fun e w' => ∃ A c, e = .returned (.slice A t.length c) ∧ Nts w' A t c ∧ Below w.heap.size w w' := by
  obtain ⟨s, _, hr⟩ := groups_ok k l hk
  exact rings_h k mn v l A c w hp h hk s.out hr (fun W hE => groups_d (k : Int) l A c W hE s.out (by rw [sizeN_nat k hk]; exact hr) _ rfl) t g hg ht
set_option maxRecDepth 100000 in
set_option maxHeartbeats 2000000 in
theorem few_d (n : Int) (hn : 0 ≤ n ∧ n ≤ 255) (l : List S41) (A : Option Addr) (c : Nat) (w : World) (hC : Kd.C k41 w A l.length l) (hc : l.length ≤ c) :
    Calls Try.prog 9 #[.int .u8 n, .slice A l.length c] w fun e w' => e = .returned (.tuple #[.int .i64 (n % 41), .slice A (l.take 150).length c]) ∧ Edg w' A (l.take 150) c ∧ w' = w := by
  have hE : Edg w A (l.take 150) c := by
    have hlt : (l.take 150).length ≤ 150 ∧ (l.take 150).length ≤ l.length := by rw [List.length_take]; omega
    refine ⟨?_, by omega, by omega⟩
    by_cases h : l.length ≤ 150
    · rw [List.take_of_length_le h]; exact hC
    · exact Kd.C_take hC (by omega)
  have HE := Aside0.mk hE
  have HC := Aside0.mk hc
  clear hE hC hc
  obtain ⟨i0, hi0, _, hsz0, _⟩ := info_parts info41
  have hn1 := hn.1
  by_cases h2 : l.length > 150
  · have e2 : decide (150 < l.length) = true := decide_eq_true h2
    have e3 : decide ((150 : Int) < (l.length : Int)) = true := decide_eq_true (by omega)
    have hcut := cut_to (P := Try.prog) 22 41 .i64 Try.underlying22 hi0 A l.length c 150 (by omega) (by omega) HC.out
    have hlen : (l.take 150).length = 150 := by rw [List.length_take]; omega
    rw [hlen]
    clear h2
    go_enter Try.func9, Try.ntmps9
    go_wp2_with fail
    go_ret2
    exact ⟨rfl, HE.out, rfl⟩
  · have e2 : decide (150 < l.length) = false := decide_eq_false h2
    have e3 : decide ((150 : Int) < (l.length : Int)) = false := decide_eq_false (by omega)
    rw [List.take_of_length_le (by omega)] at HE ⊢
    clear h2
    go_enter Try.func9, Try.ntmps9
    go_wp2_with fail
    go_ret2
    exact ⟨rfl, HE.out, rfl⟩
/-- The same, what it gives under names. -/
theorem few_e (n : Int) (hn : 0 ≤ n ∧ n ≤ 255) (l : List S41) (A : Option Addr) (c : Nat) (w0 : World) (hC : Kd.C k41 w0 A l.length l) (hc : l.length ≤ c) : ∃ (k : Nat) (l2 : List S41), (k : Int) = n % 41 ∧ l2 = l.take 150 ∧ k ≤ 40 ∧ ∀ w, Below w0.heap.size w0 w →
    Calls Try.prog 9 #[.int .u8 n, .slice A l.length c] w fun e w' => e = .returned (.tuple #[.int .i64 (k : Int), .slice A l2.length c]) ∧ Edg w' A l2 c ∧ Below w0.heap.size w0 w' := by
  refine ⟨(n % 41).toNat, _, by omega, rfl, by omega, fun w hB => ?_⟩
  rw [show (((n % 41).toNat : Nat) : Int) = n % 41 by omega]
  refine (few_d n hn l A c w (Kd.C_below hC hB) hc).mono ?_
  rintro e w' ⟨h1, h2, rfl⟩
  exact ⟨h1, h2, hB⟩

/-! ### The example -/
def L3 : List S41 := [⟨2, 0, 0⟩, ⟨0, 0, 0⟩, ⟨1, 0, 0⟩]
theorem rch3 : ROk (sizeN ((3 : Nat) : Int)) L3 [2] [0, 2] := by
  obtain ⟨s, hs⟩ := ROk.exists_ (sizeN ((3 : Nat) : Int)) (sizeN_le _) L3 (by decide) [2] (by decide)
  obtain ⟨k, hk⟩ := refReach_f ((3 : Nat) : Int) L3 (by decide) [2] (by decide) s hs
  have h2 : crosstreeref15_Reach.f 30 ((3 : Nat) : Int) L3 [2] = some (ints [0, 2]) := by decide +kernel
  have h3 := le_mono (g := fun k => crosstreeref15_Reach.f k ((3 : Nat) : Int) L3 [2]) (crosstreeref15_Reach.mono _ _ _) hk (max k 30) (by omega)
  have h4 := le_mono (g := fun k => crosstreeref15_Reach.f k ((3 : Nat) : Int) L3 [2]) (crosstreeref15_Reach.mono _ _ _) h2 (max k 30) (by omega)
  have h5 := h3.symm.trans h4
  injection h5 with h5
  have key : ∀ x : List Nat, (ints x).map Int.toNat = x := fun x => by
    unfold ints
    rw [List.map_map]
    exact (List.map_congr_left (g := id) (fun y _ => Int.toNat_natCast y)).trans (List.map_id x)
  have h6 : s = [0, 2] := by rw [← key s, ← key [0, 2], h5]
  rw [h6] at hs
  exact hs
theorem rg3 : RgOk 3 L3 [0] := by
  obtain ⟨s, h1, h2⟩ := groups_ok 3 L3 (by decide)
  have h3 : (groupsT (graphS 3 L3)).map TS.out = some [0, 1, 2] := by decide +kernel
  rw [h1] at h3
  injection h3 with h3
  rw [h3] at h2
  have t0 : InRing 3 L3 0 := (ring_test h2 (by decide)).1 (by decide +kernel)
  have t1 : ¬ InRing 3 L3 1 := fun h => absurd ((ring_test h2 (by decide)).2 h) (by decide +kernel)
  have t2 : ¬ InRing 3 L3 2 := fun h => absurd ((ring_test h2 (by decide)).2 h) (by decide +kernel)
  refine ⟨List.pairwise_singleton _ _, fun f => ?_⟩
  rw [List.mem_singleton]
  constructor
  · rintro rfl; exact ⟨by decide, t0⟩
  · rintro ⟨a, b⟩
    match f, a with
    | 0, _ => rfl
    | 1, _ => exact absurd b t1
    | 2, _ => exact absurd b t2
theorem to3 : TOk L3 1 0 [0] := ⟨List.pairwise_singleton _ _, fun x => by
  have : toL L3 1 0 = [0] := by decide +kernel
  rw [this]⟩
/-- The cells of a list of edges. -/
def ecells : List S41 → List Value
  | [] => []
  | x :: l => .int .i64 x.f0 :: .int .i64 x.f1 :: .int .i64 x.f2 :: ecells l
theorem ecells_at : ∀ (l : List S41) (j : Nat) (p : S41), l[j]? = some p → ∀ i u, [Value.int .i64 p.f0, .int .i64 p.f1, .int .i64 p.f2][i]? = some u → (ecells l)[j * 3 + i]? = some u
  | [], j, p, h, _, _, _ => by simp at h
  | x :: l, 0, p, h, i, u, hu => by
    obtain rfl : x = p := by simpa using h
    match i, hu with
    | 0, hu => exact hu
    | 1, hu => exact hu
    | 2, hu => exact hu
  | x :: l, j + 1, p, h, i, u, hu => by
    have := ecells_at l j p (by simpa using h) i u hu
    rw [show (j + 1) * 3 + i = j * 3 + i + 1 + 1 + 1 by omega]
    exact this
theorem edg_blk {W : World} {g : Nat} (l : List S41) (hb : W.heap[g]? = some (.cells (ecells l).toArray 41 (0, 0))) (hl : l.length ≤ 1000000) : Edg W (some ⟨g, 0, none⟩) l l.length := by
  refine ⟨⟨rfl, by omega, fun _ => ⟨_, rfl, fun j p hj => ⟨_, rfl, k41_mk _ p, fun i u hu => ?_⟩⟩⟩, Nat.le_refl _, hl⟩
  show W.cell? ((⟨g, 0, none⟩ : Addr).add (j * 3 + i)) = _
  rw [add_plain, blk_cell hb, List.getElem?_toArray]
  exact ecells_at l j p hj i u hu
theorem nts_blk {W : World} {g : Nat} (t : List Int) (hb : W.heap[g]? = some (.cells (t.map (Value.int .i64)).toArray 3 (0, 0))) (hl : t.length ≤ 1000000) : Nts W (some ⟨g, 0, none⟩) t t.length := by
  refine ⟨⟨rfl, by omega, fun _ => ⟨_, rfl, fun j p hj => ⟨[.int .i64 p], rfl, rfl, fun i u hu => ?_⟩⟩⟩, Nat.le_refl _⟩
  match i, hu with
  | 0, hu =>
    obtain rfl : Value.int .i64 p = u := by simpa using hu
    show W.cell? ((⟨g, 0, none⟩ : Addr).add (j * 1 + 0)) = _
    rw [add_plain, blk_cell hb]
    simp [hj]
theorem prog3 (W : World) : Calls Try.prog 10 #[.int .i64 3, .int .i64 2] W fun e w' => ∃ v, e = .returned v ∧ Prg w' v 3 2 ∧ Below W.heap.size W w' := prog_d 3 2 W (by decide)
theorem reached3 (W : World) (v : Value) (g : Nat) (hp : Prg W v 3 2) (h : Edg W (some ⟨g, 0, none⟩) L3 3) : Calls Try.prog 14 #[v, .agg #[.slice none 0 0, .slice none 0 0, .slice (some ⟨g, 0, none⟩) 3 3, .int .i64 0]] W fun e w' => ∃ A c, e = .returned (.slice A 2 c) ∧ Nts w' A [0, 2] c ∧ Below W.heap.size W w' :=
  reached_c 3 2 v L3 _ 3 W hp h [0, 2] rch3 [0, 2] rfl
theorem rings3 (W : World) (v : Value) (g : Nat) (hp : Prg W v 3 2) (h : Edg W (some ⟨g, 0, none⟩) L3 3) : Calls Try.prog 16 #[v, .agg #[.slice none 0 0, .slice none 0 0, .slice (some ⟨g, 0, none⟩) 3 3, .int .i64 0]] W fun e w' => ∃ A c, e = .returned (.slice A 1 c) ∧ Nts w' A [0] c ∧ Below W.heap.size W w' :=
  rings_c 3 2 v L3 _ 3 W hp h (by decide) [0] [0] rg3 rfl
theorem tos3 (W : World) (g : Nat) (h : Edg W (some ⟨g, 0, none⟩) L3 3) : Calls Try.prog 12 #[.agg #[.slice none 0 0, .slice none 0 0, .slice (some ⟨g, 0, none⟩) 3 3, .int .i64 0], .int .i64 1, .int .i64 0] W fun e w' => ∃ A c, e = .returned (.slice A 1 c) ∧ Nts w' A [0] c ∧ Below W.heap.size W w' :=
  to_c L3 _ 3 1 0 W h [0] to3
theorem same2 (W : World) (A : Option Addr) (c g : Nat) (h : Nts W A [0, 2] c) (hb : W.heap[g]? = some (.cells #[.int .i64 0, .int .i64 2] 3 (0, 0))) : Calls Try.prog 11 #[.slice A 2 c, .slice (some ⟨g, 0, none⟩) 2 2] W fun e w' => e = .returned (.bool true) ∧ Below W.heap.size W w' :=
  ints_d [0, 2] A c _ 2 W h (nts_blk [0, 2] hb (by decide)) (by decide)
theorem same1 (W : World) (A : Option Addr) (c g : Nat) (h : Nts W A [0] c) (hb : W.heap[g]? = some (.cells #[.int .i64 0] 3 (0, 0))) : Calls Try.prog 11 #[.slice A 1 c, .slice (some ⟨g, 0, none⟩) 1 1] W fun e w' => e = .returned (.bool true) ∧ Below W.heap.size W w' :=
  ints_d [0] A c _ 1 W h (nts_blk [0] hb (by decide)) (by decide)
end Go.Proofs.Ytjbgealnnlmchaa.G
