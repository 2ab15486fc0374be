/- scc.Reach tells what points lead to, rising. -/
import Derived.Test.YtjbgealnnlmchaaPf
import Derived.Test.YtjbgealnnlmchaaQa
import Derived.Sort.OwnSortedInts
import Derived.BigRegion
import Derived.Lib.LazyBuf
import Derived.Shelf.Slices.In.SortNone
set_option linter.unusedVariables false
set_option linter.unusedSimpArgs false
namespace Go.Proofs.Ytjbgealnnlmchaa.G
open Go.RowKit Go.Proofs.Ytjbgealnnlmchaa.B Go.Proofs.YtjbgealnnlmchaaW.PrintWords Go.Proofs.YtjbgealnnlmchaaW.PrintLast Go.Proofs.YtjbgealnnlmchaaW.PrintMore

theorem clone_c (fr : List Int) (A : Option Addr) (c : Nat) (w : World) (hC : Kd.C (Kd.int .i64) w A fr.length fr) (hl : fr.length ≤ 1000000000) :
    Calls Try.prog 30 #[.slice A fr.length c] w fun e w' => ∃ v', e = .returned v' ∧ Que w' w.heap.size v' fr ∧ Below w.heap.size w w' := by
  cases A with
  | none =>
    have hm : fr = [] := by
      refine List.eq_nil_of_length_eq_zero ?_
      rcases Nat.eq_zero_or_pos fr.length with h0 | h0
      · exact h0
      · obtain ⟨ad, e, _⟩ := Kd.at_int hC 0 (by omega) (by omega)
        cases e
    subst hm
    refine (Try.slices_Clone_int_nil 0 c w).mono ?_
    rintro e w' ⟨rfl, rfl⟩
    exact ⟨_, rfl, Que.nil_ _ _, Below.refl _ _⟩
  | some ad =>
    have HC := Aside0.mk hC
    have HL := Aside0.mk hl
    clear hC hl
    have heq := fun wx => run_eql_slice_nil (P := Try.prog) wx 35 3 (some ad) fr.length c Try.underlying35
    go_enter Try.func30, Try.ntmps30
    go_upto_region 3 with (fail)
    go_wp2_with (at_builtin; (refine append_que (w := w.alloc (.cells #[] 3)) w.heap.size rfl (.tmp 5) (.tmp 6) rfl (.slice (some ⟨w.heap.size, 0, none⟩) 0 0) [] fr rfl ⟨_, 0, rfl, Nat.le_refl _, by unfold maxLen; omega, fun k hk => by simp [Value.ownBlock] at hk; simp; omega, fun h => absurd h (by omega)⟩ (some ad) c rfl (Kd.C_below HC.out (below_alloc (Below.refl w.heap.size w) _)) (by simp) (by have := HL.out; simp; omega) ?_; intro v' w1 hq hg hk))
    go_ret
    exact ⟨_, rfl, hq, (below_alloc (Below.refl w.heap.size w) _).grown hg (by simp) (fun k hk => by simp [Value.ownBlock] at hk; omega)⟩
theorem own_C {w : World} {base n c : Nat} {A : Option Addr} {s : List Nat} (hn : n = s.length) (h : w.ownsRow base 3 1 (.slice A n c) n (nats s)) : n ≤ c ∧ Kd.C (Kd.int .i64) w A n (ints s) := by
  subst hn
  rcases h.2 with ⟨h1, h2⟩ | ⟨g, cap, cur, h1, h2, h3, h4, h5, h6, h7⟩
  · obtain rfl := List.eq_nil_of_length_eq_zero h2
    injection h1 with e1 _ e3
    subst e1 e3
    exact ⟨Nat.le_refl _, Kd.C_nil _ w⟩
  · injection h1 with e1 _ e3
    subst e1 e3
    refine ⟨h4, ints_len s, by unfold maxLen at h5; omega, fun _ => ⟨_, rfl, fun j p hj => ⟨[.int .i64 p], rfl, rfl, fun i u hu => ?_⟩⟩⟩
    match i, hu with
    | 0, hu =>
      obtain rfl : Value.int .i64 p = u := by simpa using hu
      have hjl : j < s.length := by
        have := (List.getElem?_eq_some_iff.1 hj).1
        rwa [ints_len] at this
      show w.cell? ((⟨g, 0, none⟩ : Addr).add (j * 1 + 0)) = _
      rw [add_plain, h.cellAt _ (by omega), Nat.mul_one, Nat.add_zero]
      unfold ints at hj
      unfold nats
      rw [List.getElem?_map] at hj ⊢
      obtain ⟨x, hx, rfl⟩ := Option.map_eq_some_iff.1 hj
      rw [hx]
      rfl
theorem sort_c (base : Nat) (l s : List Nat) (A : Option Addr) (c : Nat) (w : World) (h : w.ownsRow base 3 1 (.slice A l.length c) l.length (nats l)) (hl : l.length ≤ 1000000) (hs : (ints l).mergeSort (fun x y => decide (x ≤ y)) = ints s) :
    Calls Try.prog 19 #[.slice A l.length c] w fun e w' => e = .returned (.tuple #[]) ∧ w'.ownsRow base 3 1 (.slice A l.length c) l.length (nats s) ∧ w.grownBy w' (Value.slice A l.length c).ownBlock ∧ s.length = l.length := by
  have hsl : s.length = l.length := by
    have := congrArg List.length hs
    rwa [List.length_mergeSort, ints_len, ints_len, eq_comm] at this
  have hnm : ∀ x : List Nat, nats x = (ints x).map (Value.int .i64) := fun x => by
    unfold nats ints
    rw [List.map_map]
    rfl
  rcases h.2 with ⟨h1, h2⟩ | ⟨g, cap, cur, h1, h2, h3, h4, h5, h6, h7⟩
  · obtain rfl := List.eq_nil_of_length_eq_zero h2
    obtain rfl := List.eq_nil_of_length_eq_zero hsl
    refine (Any.slices_Sort_int_none Try.lays189 A c w).mono ?_
    rintro e w' ⟨rfl, rfl⟩
    exact ⟨rfl, h, ⟨rfl, rfl, rfl, Nat.le_refl _, fun _ _ _ => rfl⟩, rfl⟩
  · injection h1 with e1 _ e3
    subst e1 e3
    have hil := ints_len l
    rw [Nat.mul_one, hnm] at h7
    have hH : Sort.Holds (Value.int .i64) w g 0 (ints l).toArray := holds_of_blockI h3 (by rw [hil]; exact h7)
    have hc := Try.slices_Sort_int g 0 c (ints l) w hH (blk_lt h3) (by omega)
    rw [hil, hs] at hc
    refine hc.mono ?_
    rintro e w' ⟨rfl, n, os, rfl⟩
    refine ⟨rfl, ?_, grownBy_sortedI _, hsl⟩
    have := ownsRow_sortedI (w := w) (base := base) (g := g) (cap := c) (n := n) (e := 3) (os := os) (cur := cur) (ss := ints l) (ts := ints s) (by rw [hil, ints_len]; exact hsl) h2 h3 (by rw [hil]; exact h4) h5 h6
    rw [hil] at this
    rw [hnm]
    exact this
/-- Where Reach's variables lie. -/
structure QS (w1 W : World) (gs : Nat) (seen : List Bool) (vq : Value) (q : List Int) (vo : Value) (out : List Nat) : Prop where
  seen : W.heap[gs]? = some (.cells (bools seen).toArray 4 (0, 0))
  lo : w1.heap.size ≤ gs
  row : W.ownsRow w1.heap.size 3 1 vo out.length (nats out)
  que : Que W w1.heap.size vq q
  ne : ∀ k, vo.ownBlock = some k → vq.ownBlock = some k → False
  nq : ∀ k, vq.ownBlock = some k → k ≠ gs
  below : Below w1.heap.size w1 W
theorem own_ne {w : World} {base n gs : Nat} {v : Value} {xs : List Value} {cs : Array Value} (h : w.ownsRow base 3 1 v n xs) (hb : w.heap[gs]? = some (.cells cs 4 (0, 0))) : ∀ k, v.ownBlock = some k → k ≠ gs := by
  intro k hk he
  rcases h.2 with ⟨h1, h2⟩ | ⟨g, cap, cur, h1, h2, h3, h4, h5, h6, h7⟩
  · rw [h1] at hk
    simp [Value.ownBlock] at hk
  · rw [h1] at hk
    obtain rfl : g = k := by simpa [Value.ownBlock] using hk
    rw [he, hb] at h3
    injection h3 with h3
    injection h3 with _ h3
    exact absurd h3 (by decide)
theorem own_other {w W : World} {base n : Nat} {v : Value} {xs : List Value} (h : w.ownsRow base 3 1 v n xs) (hm : ∀ k, v.ownBlock = some k → k < w.heap.size → W.heap[k]? = w.heap[k]?) : W.ownsRow base 3 1 v n xs := by
  rcases h.2 with ⟨h1, h2⟩ | ⟨g, cap, cur, h1, h2, h3, h4, h5, h6, h7⟩
  · exact ⟨h.1, .inl ⟨h1, h2⟩⟩
  · exact ⟨h.1, .inr ⟨g, cap, cur, h1, h2, (hm g (by rw [h1]; rfl) (blk_lt h3)).trans h3, h4, h5, h6, h7⟩⟩
/-- A point is marked as seen. -/
theorem QS.mark {w1 W : World} {gs : Nat} {seen : List Bool} {vq vo : Value} {q : List Int} {out : List Nat} (h : QS w1 W gs seen vq q vo out) (n : Nat) : QS w1 (W.setCell ⟨gs, n, none⟩ (.bool true)) gs (seen.set n true) vq q vo out :=
  ⟨blk_put h.seen n _ (bools_set _ _ _), h.lo, own_other h.row (fun k hk _ => far W n _ (own_ne h.row h.seen k hk)), h.que.move (Nat.le_of_eq (size_put _ _ _).symm) (fun k hk _ => far W n _ (h.nq k hk)), h.ne, h.nq, below_put h.below rfl h.lo _ _⟩
theorem QS.alloc {w1 W : World} {gs : Nat} {seen : List Bool} {vq vo : Value} {q : List Int} {out : List Nat} (h : QS w1 W gs seen vq q vo out) (o : Obj) : QS w1 (W.alloc o) gs seen vq q vo out :=
  ⟨blk_alloc h.seen o, h.lo, h.row.alloc o, h.que.move (by simp) (fun k _ hk => heap_alloc_old W o hk), h.ne, h.nq, below_alloc h.below o⟩
/-- The points told grow. -/
theorem QS.told {w1 W W' : World} {gs : Nat} {seen : List Bool} {vq vo vo' : Value} {q : List Int} {out out' : List Nat} (h : QS w1 W gs seen vq q vo out) (hg : W.grownBy W' vo.ownBlock) (hr : W'.ownsRow w1.heap.size 3 1 vo' out'.length (nats out')) (hk : ∀ k, vo'.ownBlock = some k → vo.ownBlock = some k ∨ W.heap.size ≤ k) :
    QS w1 W' gs seen vq q vo' out' := by
  obtain ⟨_, _, hvq, _, _, hb, _⟩ := id h.que
  refine ⟨(hg.block gs (blk_lt h.seen) (fun e => own_ne h.row h.seen gs e.symm rfl)).trans h.seen, h.lo, hr, h.que.move hg.size (fun k hk1 hk2 => hg.block k hk2 (fun e => h.ne k e.symm hk1)), fun k h1 h2 => ?_, h.nq, h.below.grown hg h.below.size (fun k hk => (h.row.lt k hk).1)⟩
  rcases hk k h1 with h3 | h3
  · exact h.ne k h3 h2
  · have := (hb k h2).2
    omega
/-- The queue grows. -/
theorem QS.queued {w1 W W' : World} {gs : Nat} {seen : List Bool} {vq vq' vo : Value} {q q' : List Int} {out : List Nat} (h : QS w1 W gs seen vq q vo out) (hg : W.grownBy W' vq.ownBlock) (hr : Que W' w1.heap.size vq' q') (hk : ∀ k, vq'.ownBlock = some k → vq.ownBlock = some k ∨ W.heap.size ≤ k) :
    QS w1 W' gs seen vq' q' vo out := by
  obtain ⟨_, _, hvq, _, _, hb, _⟩ := id h.que
  refine ⟨(hg.block gs (blk_lt h.seen) (fun e => h.nq gs e.symm rfl)).trans h.seen, h.lo, own_other h.row (fun k hk1 hk2 => hg.block k hk2 (fun e => h.ne k hk1 e.symm)), hr, fun k h1 h2 => ?_, fun k h1 => ?_, h.below.grown hg h.below.size (fun k hk => (hb k hk).1)⟩
  · rcases hk k h2 with h3 | h3
    · exact h.ne k h1 h3
    · have := (h.row.lt k h1).2
      omega
  · rcases hk k h1 with h3 | h3
    · exact h.nq k h3
    · have := blk_lt h.seen
      omega
set_option maxRecDepth 100000 in
set_option maxHeartbeats 8000000 in
theorem reach_c (n0 : Int) (l1 : List S41) (A1 : Option Addr) (cE : Nat) (fr : List Int) (A2 : Option Addr) (c2 : Nat) (w : World) (hr1 : Kd.C k41 w A1 l1.length l1) (hc1 : l1.length ≤ cE) (hr2 : Kd.C (Kd.int .i64) w A2 fr.length fr) (hl : l1.length ≤ 1000000) (hfl : fr.length ≤ 1000000000) :
    Calls Try.prog 22 #[.int .i64 n0, .slice A1 l1.length cE, .slice A2 fr.length c2] w fun e w' => ∃ s A c, e = .returned (.slice A s.length c) ∧ ROk (sizeN n0) l1 fr s ∧ s.length ≤ c ∧ Kd.C (Kd.int .i64) w' A s.length (ints s) ∧ Below w.heap.size w w' := by
  obtain ⟨kg, hf⟩ := graph_f n0 l1 hl
  have HRG := Aside0.mk (scc_graph.calls kg n0 A1 cE l1 _ w hr1 hc1 hf)
  have HN2 := Aside0.mk (sizeN_le n0)
  have HL1 := Aside0.mk hl
  have HFL := Aside0.mk hfl
  have HC2 := Aside0.mk hr2
  clear hr1 hc1 hf hr2 hl hfl
  obtain ⟨N, hN⟩ : ∃ N, N = sizeN n0 := ⟨_, rfl⟩
  rw [← hN] at HN2 HRG ⊢
  clear hN
  go_enter Try.func22, Try.ntmps22
  go_wp2_with fail
  refine HRG.out.mono ?_
  rintro e w1 ⟨v0, rfl, hS, hb1⟩
  obtain ⟨inner, hin⟩ := Kd.S_own hS
  obtain ⟨ag, cg, rfl⟩ := own_form hin
  obtain ⟨_, hcg, hCG⟩ := Kd.S_reads' hS
  rw [List.length_map, graphS_len] at hcg hCG
  have HCG := Aside0.mk hCG
  have HB1 := Aside0.mk hb1
  rw [List.length_map, graphS_len]
  clear hS hin hCG hcg hb1
  have hmk4 := run_make_row' (P := Try.prog) 56 4 (.bool false) 1 Try.underlying56 info4 rfl .i64 .i64 N (by have := HN2.out; omega) (by have := HN2.out; omega)
  go_upto_region 3 with (fail)
  clear hmk4
  rw [made_bools]
  have HX := Aside0.mk (blk_new w1 (.cells (bools (List.replicate N false)).toArray 4))
  have HB := Aside0.mk (below_alloc (Below.refl w1.heap.size w1) (.cells (bools (List.replicate N false)).toArray 4))
  generalize hW1 : w1.alloc (.cells (bools (List.replicate N false)).toArray 4) = W1 at HX HB ⊢
  clear hW1
  have HC2' := Kd.C_below HC2.out (below_step HB1.out HB.out)
  go_upto_region 4 with (go_at_call 30; refine (clone_c fr A2 c2 W1 HC2' HFL.out).mono ?_; rintro e W2 ⟨vq0, rfl, hq, hb2⟩)
  obtain ⟨Aq, cq, rfl⟩ := hq.form
  have hsz : w1.heap.size ≤ W1.heap.size := HB.out.size
  have hlt1 : w1.heap.size < W1.heap.size := blk_lt HX.out
  have hQS : QS w1 W2 w1.heap.size (List.replicate N false) (.slice Aq fr.length cq) fr (.slice none 0 0) [] := by
    refine ⟨blk_below HX.out hb2, Nat.le_refl _, World.ownsRow_nil _ _ _ _, ?_, fun k hk => by simp [Value.ownBlock] at hk, ?_, below_step HB.out hb2⟩
    rotate_left
    · obtain ⟨_, _, _, _, _, hb, _⟩ := id hq
      exact fun k hk => by have := (hb k hk).1; omega
    obtain ⟨A', c', he, h1, h2, h3, h4⟩ := hq
    injection he with e1 e2 e3
    subst e1 e3
    exact ⟨_, _, rfl, h1, h2, fun k hk => ⟨Nat.le_trans hsz (h3 k hk).1, (h3 k hk).2⟩, fun h0 => by
      obtain ⟨g, o, row, g1, g2, g3⟩ := h4 h0
      exact ⟨g, o, row, g1, Nat.le_trans hsz g2, g3⟩⟩
  have HQ := Aside0.mk hQS
  clear hQS hq hb2 HX HB HC2' hsz hlt1
  generalize hgs : w1.heap.size = gs at HQ ⊢
  have HGS := Aside0.mk hgs
  clear hgs
  have HBI := Aside0.mk (bfs_start N l1 fr)
  have hpot : pot (graphS N l1) (List.replicate N false) ≤ N * 1000000 := by
    have := pot_le 1000000 (graphS N l1) (List.replicate N false) (fun r hr => by
      obtain ⟨v, hv, rfl⟩ := List.mem_iff_getElem.1 hr
      have := graphS_row N l1 v
      rw [List.getD_eq_getElem?_getD, List.getElem?_eq_getElem hv] at this
      have := HL1.out
      simp at *
      omega)
    rwa [graphS_len] at this
  obtain ⟨K0, hK0⟩ : ∃ K0, K0 = fr.length + pot (graphS N l1) (List.replicate N false) + 1 := ⟨_, rfl⟩
  have hKle : K0 ≤ 100000000000 := by
    have := HFL.out
    have := HN2.out
    have : N * 1000000 ≤ 20000 * 1000000 := Nat.mul_le_mul_right _ HN2.out
    omega
  obtain ⟨r, hr, hrn, hrm⟩ := bfs_ok K0 fr (List.replicate N false) [] HBI.out (by omega)
  have HR := Aside0.mk hr
  have HRM := Aside0.mk (And.intro hrn hrm)
  have HKL := Aside0.mk hKle
  have HK0 := Aside0.mk (show fr.length + pot (graphS N l1) (List.replicate N false) < K0 by omega)
  clear hr hrn hrm hKle hK0 hpot
  generalize W2 = W2 at HQ ⊢
  go_upto_block 0 with (fail)
  go_wp2_with fail
  go_loopg [9, 10] K0 (fun kq v9 v10 wx => ∃ (q : List Int) (seen : List Bool) (out : List Nat) (A : Option Addr) (c : Nat) (Ao : Option Addr) (co : Nat), v9 = .slice A q.length c ∧ v10 = .slice Ao out.length co ∧ Hid (bfs (graphS N l1) kq q seen out = some r) ∧ Hid (QS w1 wx gs seen (.slice A q.length c) q (.slice Ao out.length co) out) ∧ Hid (BI N l1 fr q seen out) ∧ Hid (q.length + pot (graphS N l1) seen < kq ∧ kq ≤ K0))
  case atStart => exact ⟨fr, List.replicate N false, [], Aq, cq, none, 0, rfl, rfl, HR.out, HQ.out, HBI.out, ⟨HK0.out, Nat.le_refl _⟩⟩
  case round =>
    clear HR HQ HBI HK0
    obtain ⟨q, seen, out, A, c, Ao, co, rfl, rfl, h1, h2, h3, h4⟩ := hrel
    have HR := Aside0.mk (show bfs (graphS N l1) gk q seen out = some r from h1)
    have HQ := Aside0.mk (show QS w1 wr gs seen (.slice A q.length c) q (.slice Ao out.length co) out from h2)
    have HBI := Aside0.mk (show BI N l1 fr q seen out from h3)
    have HKK := Aside0.mk (show q.length + pot (graphS N l1) seen < gk ∧ gk ≤ K0 from h4)
    clear h1 h2 h3 h4
    cases gk with
    | zero => exact absurd HKK.out.1 (by omega)
    | succ gk =>
      cases q with
      | nil =>
        have hro : some out = some r := HR.out
        injection hro with hro
        subst hro
        obtain ⟨s, hs, hsok⟩ := sorted_ok HRM.out.1 HRM.out.2
        have hol : out.length ≤ 1000000 := by
          have h1 := List.Nodup.length_le_of_subset HRM.out.1 (l₂ := List.range N) (fun v hv => List.mem_range.2 (HBI.out.lt v hv))
          rw [List.length_range] at h1
          have := HN2.out
          omega
        have hsc := sort_c w1.heap.size out s Ao co wr HQ.out.row hol hs
        have HSC := Aside0.mk hsc
        have HOK := Aside0.mk hsok
        clear hsc hsok hs hol
        go_wp2_with (go_at_call 19; refine HSC.out.mono ?_; rintro e W9 ⟨rfl, hr9, hg9, hl9⟩)
        go_ret
        obtain ⟨h1, h2⟩ := own_C hl9.symm hr9
        rw [← hl9] at h1 h2 ⊢
        exact ⟨s, Ao, co, rfl, HOK.out, h1, h2, below_step HB1.out (HQ.out.below.grown hg9 (HQ.out.below.size) (fun k hk => (HQ.out.row.lt k hk).1))⟩
      | cons x q =>
        obtain ⟨g, o, c', hv, hcell, A', c'', hq', hblk, hsl⟩ := HQ.out.que.head
        injection hv with e1 _ e3
        subst e1 e3
        have hgt : (0 : Int) < (q.length : Int) + 1 := by omega
        have hgt2 : 0 < q.length + 1 := by omega
        rw [List.length_cons]
        have hQ' : QS w1 wr gs seen (.slice A' q.length c'') q (.slice Ao out.length co) out :=
          ⟨HQ.out.seen, HQ.out.lo, HQ.out.row, hq', fun k h1 h2 => HQ.out.ne k h1 (by rw [hblk k h2]; rfl), fun k h2 => HQ.out.nq k (by rw [hblk k h2]; rfl), HQ.out.below⟩
        replace HQ := Aside0.mk hQ'
        clear hQ' hq' hblk
        have hlen : q.length + 1 + pot (graphS N l1) seen < gk + 1 ∧ gk + 1 ≤ K0 := HKK.out
        have hbf : bfs (graphS N l1) (gk + 1) (x :: q) seen out = some r := HR.out
        unfold bfs at hbf
        rw [graphS_len] at hbf
        clear HKK HR
        have HKK := Aside0.mk hlen
        clear hlen
        by_cases hc : 0 ≤ x ∧ x < (N : Int) ∧ seen.getD x.toNat false = false
        · rw [if_pos hc] at hbf
          obtain ⟨n, rfl⟩ : ∃ n : Nat, x = n := ⟨x.toNat, by omega⟩
          rw [Int.toNat_natCast] at hc hbf
          have hn : n < N := by omega
          have hns := hc.2.2
          have HBN := Aside0.mk (HBI.out.visit hn hns)
          have HNN := Aside0.mk hn
          have HBF := Aside0.mk hbf
          have HPT := Aside0.mk (pot_set (graphS N l1) seen n (by rw [graphS_len]; exact hn) (by rw [HBI.out.len]; exact hn) hns)
          have k1 : ¬ (n : Int) < 0 := by omega
          have k2 : ¬ (N : Int) ≤ (n : Int) := by omega
          have k3 : (n : Int) < (N : Int) := by omega
          have k4 : (0 : Int) ≤ (n : Int) := by omega
          have c5 := (blk_cell HQ.out.seen n).trans (bool_at seen n (by rw [HBI.out.len]; exact hn))
          rw [hns] at c5
          have f5 := blk_frozen HQ.out.seen n
          clear hc hbf hns
          go_upto_region 10 with (fail)
          clear c5 f5 hcell hsl
          replace HQ := Aside0.mk (HQ.out.mark n)
          generalize wr.setCell ⟨gs, n, none⟩ (.bool true) = W3 at HQ ⊢
          have hol : out.length ≤ 4000000 := by
            have h1 := List.Nodup.length_le_of_subset HBI.out.nodup (l₂ := List.range N) (fun v hv => List.mem_range.2 (HBI.out.lt v hv))
            rw [List.length_range] at h1
            have := HN2.out
            omega
          have HOL := Aside0.mk hol
          clear hol
          go_upto_region 11 with (at_builtin; (refine append_nat (w := W3.alloc (.cells #[.int .i64 (n : Int)] 3)) w1.heap.size rfl (.tmp 45) (.tmp 47) rfl (.slice Ao out.length co) out n rfl (HQ.out.row.alloc _) W3.heap.size rfl ((blk_cell (blk_new W3 (.cells #[.int .i64 (n : Int)] 3)) 0).trans rfl) (by have := HQ.out.below.size; simp; omega) HOL.out ?_; intro Ao1 co1 W4 hrow4 hgrow4 hown4))
          have hol1 : (out ++ [n]).length = out.length + 1 := by rw [List.length_append, List.length_singleton]
          replace HQ := Aside0.mk ((HQ.out.alloc _).told (out' := out ++ [n]) hgrow4 (by rw [hol1]; exact hrow4) hown4)
          clear hrow4 hgrow4 hown4
          rw [← hol1] at HQ ⊢
          have k5 : (n : Int) < (((graphS N l1).map ints).length : Int) := by rw [List.length_map, graphS_len]; omega
          have hCG := HCG.out
          obtain ⟨ag1, A0, c0, hA, q0, hl0, hC0⟩ := at_L4 hCG (n : Int) k4 k3
          rw [rd_G] at q0 hl0 hC0
          generalize hws : (graphS N l1).getD n [] = ws at q0 hl0 hC0 HBN HBF HPT
          rw [Int.toNat_natCast, ints_len] at q0
          rw [ints_len] at hl0 hC0
          replace q0 := pw_cell_below HQ.out.below q0
          have HWS := Aside0.mk hws
          have hC4 := Kd.C_below hC0 HQ.out.below
          subst hA
          have hwl : (ints ws).length = ws.length := ints_len ws
          have hws1 : ws.length ≤ 1000000 := by
            have h1 := graphS_row N l1 n
            rw [HWS.out] at h1
            have := HL1.out
            omega
          have hcap : q.length + ws.length ≤ 1000000000000 := by
            have h1 := HPT.out
            have h2 := HKK.out
            have := HKL.out
            omega
          clear hws hws1
          have HC4 := Aside0.mk hC4
          have HCAP := Aside0.mk hcap
          clear hC4 hcap hC0
          go_wp2_with (at_builtin; (refine append_que (w := W4) w1.heap.size rfl (.tmp 49) (.tmp 53) rfl (.slice A' q.length c'') q (ints ws) rfl HQ.out.que A0 c0 (by rw [hwl]; rfl) (by rw [hwl]; exact HC4.out) HQ.out.below.size (by rw [hwl]; exact HCAP.out) ?_; intro vq5 W5 hq5 hgrow5 hown5))
          obtain ⟨A5, c5, rfl⟩ := hq5.form
          have hfin : QS w1 W5 gs (seen.set n true) (.slice A5 (q ++ ints ws).length c5) (q ++ ints ws) (.slice Ao1 (out ++ [n]).length co1) (out ++ [n]) := HQ.out.queued hgrow5 hq5 hown5
          have HF := Aside0.mk hfin
          clear hfin hq5 hgrow5 hown5
          go_roundg gk
          case rel => exact ⟨q ++ ints ws, seen.set n true, out ++ [n], A5, c5, Ao1, co1, (by first | rfl | (simp; done)), (by rw [hol1]), HBF.out, HF.out, HBN.out, by have h1 := HKK.out; have h2 := HPT.out; rw [List.length_append, hwl]; constructor <;> omega⟩
          case measure => omega
        · rw [if_neg hc] at hbf
          have HBF := Aside0.mk hbf
          have HBN := Aside0.mk (HBI.out.skip hc)
          clear hbf HBI
          have hfin : ∀ (wz : World), wz = wr → True := fun _ _ => trivial
          clear hfin
          by_cases k1 : x < 0
          · clear hc
            have k1' : decide (x < 0) = true := decide_eq_true k1
            go_wp2_with fail
            go_roundg gk
            case rel => exact ⟨q, seen, out, A', c'', Ao, co, rfl, rfl, HBF.out, HQ.out, HBN.out, by have := HKK.out; constructor <;> omega⟩
            case measure => omega
          · obtain ⟨n, rfl⟩ : ∃ n : Nat, x = n := ⟨x.toNat, by omega⟩
            rw [Int.toNat_natCast] at hc
            by_cases k2 : (N : Int) ≤ (n : Int)
            · clear hc
              have k2' : decide ((N : Int) ≤ (n : Int)) = true := decide_eq_true k2
              have k1' : decide ((n : Int) < 0) = false := decide_eq_false k1
              go_wp2_with fail
              go_roundg gk
              case rel => exact ⟨q, seen, out, A', c'', Ao, co, rfl, rfl, HBF.out, HQ.out, HBN.out, by have := HKK.out; constructor <;> omega⟩
              case measure => omega
            · have hns : seen.getD n false = true := by
                cases hh : seen.getD n false with
                | true => rfl
                | false => exact absurd ⟨by omega, by omega, hh⟩ hc
              have hn : n < N := by omega
              clear hc
              have k1' : decide ((n : Int) < 0) = false := decide_eq_false k1
              have k2' : decide ((N : Int) ≤ (n : Int)) = false := decide_eq_false k2
              have k3 : (n : Int) < (N : Int) := by omega
              have k4 : (0 : Int) ≤ (n : Int) := by omega
              have c5 := (blk_cell HQ.out.seen n).trans (bool_at seen n (by rw [HBN.out.len]; exact hn))
              rw [hns] at c5
              clear hns
              go_wp2_with fail
              go_roundg gk
              case rel => exact ⟨q, seen, out, A', c'', Ao, co, rfl, rfl, HBF.out, HQ.out, HBN.out, by have := HKK.out; constructor <;> omega⟩
              case measure => omega
end Go.Proofs.Ytjbgealnnlmchaa.G
