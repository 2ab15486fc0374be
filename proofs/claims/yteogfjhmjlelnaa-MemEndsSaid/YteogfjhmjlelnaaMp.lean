/- Mem.Alloc. The Mem holds these blocks. -/
import Derived.Test.YteogfjhmjlelnaaMo
import Derived.Deep.RegionLaw
import Derived.BigRegion
set_option linter.unusedVariables false
set_option linter.unusedSimpArgs false
namespace Go.Proofs.Yteogfjhmjlelnaa.G
open Go.RowKit Go.Proofs.Yteogfjhmjlelnaa.B Go.Proofs.YteogfjhmjlelnaaW.PrintWords Go.Proofs.YteogfjhmjlelnaaW.PrintLast Go.Proofs.YteogfjhmjlelnaaW.PrintMore

def z0 : Bt := ⟨0, 0, ⟨0, 0, 0⟩⟩
def z1 : Bt := ⟨1, 0, ⟨0, 0, 0⟩⟩
theorem made_bytes (n : Nat) : madeCells #[.int .i64 0, .int .u8 0, .int .i64 0, .int .i64 0, .int .i64 0] (n * 5) = (encB (List.replicate n z0)).toArray := by
  apply Array.ext
  · rw [size_madeCells]; simp [encB_length]; omega
  · intro i h1 h2
    rw [size_madeCells] at h1
    have hg : (List.replicate n z0)[i / 5]? = some z0 := by rw [List.getElem?_replicate, if_pos (by omega)]
    have hm : i % 5 < 5 := Nat.mod_lt _ (by decide)
    obtain ⟨u, hu⟩ : ∃ u, z0.cells[i % 5]? = some u := ⟨_, List.getElem?_eq_getElem (by simpa [Bt.cells] using hm)⟩
    have he := encB_get hg hu
    rw [show i / 5 * 5 + i % 5 = i by omega] at he
    have h3 : (encB (List.replicate n z0)).toArray[i] = u := by
      have h4 : (encB (List.replicate n z0)).toArray[i]? = some u := by simpa using he
      rw [Array.getElem?_eq_getElem h2] at h4
      exact Option.some.inj h4
    rw [h3]
    simp only [madeCells, Array.getElem_map, Array.getElem_range]
    have : i % 5 = 0 ∨ i % 5 = 1 ∨ i % 5 = 2 ∨ i % 5 = 3 ∨ i % 5 = 4 := by omega
    rcases this with h | h | h | h | h <;> · rw [h] at hu; injection hu with hu; rw [← hu]; show #[_, _, _, _, _][i % 5]! = _; rw [h]; rfl
theorem make_bytes (n : Nat) (hn : n ≤ 4096) (W : World) : (Instr.makeSlice 38 (.int .i64 (n : Int)) (.int .i64 (n : Int))).run Try.prog W = .ok (.slice (some ⟨W.heap.size, 0, none⟩) n n) (W.alloc (.cells (encB (List.replicate n z0)).toArray 42)) := by
  have hinfo : (Try.prog.info? 42).map (fun i => (i.zero, i.size, i.bytes)) = some (some (.agg #[.int .i64 0, .int .u8 0, .int .i64 0, .int .i64 0, .int .i64 0]), 5, 40) := by kernel_rfl
  obtain ⟨i0, hi, hzz⟩ := Option.map_eq_some_iff.1 hinfo
  simp only [Prod.mk.injEq] at hzz
  obtain ⟨hz0, hz1, hz2⟩ := hzz
  have hr := run_make (P := Try.prog) W 38 42 i0 _ Try.underlying38 hi hz0 .i64 .i64 (n : Int) (n : Int) (by omega) (by omega) (by rw [hz2]; omega) (by omega)
  simp only [Int.toNat_natCast] at hr
  rw [hz1] at hr
  rw [← made_bytes]
  exact hr
theorem alloc_bad {w : World} {gm : Nat} {gs : List Nat} {s : List Mb} (h : Holds w gm gs s) (site size : Int) (zero : Bool) (hb : size < 0 ∨ 4096 < size ∨ s.length = 2000) :
    Calls Try.prog 12 #[.pointer (some ⟨gm, 0, none⟩), .int .i64 site, .int .i64 size, .bool zero] w fun e w' => e = .returned (.tuple #[.int .i64 0, .int .i64 5]) ∧ w' = w := by
  obtain ⟨v, hM⟩ := h.mem
  have hlen := blks_len h.len
  obtain ⟨A, cap, rfl, hle⟩ := hM.len
  have h0 := cell1 hM.box
  rw [hlen] at h0 hle
  clear hM hlen h
  by_cases h1 : size < 0
  · clear hb
    go_enter Try.func12, Try.ntmps12
    go_wp2_with fail
    exact bodyPost_ret (v := .tuple #[.int .i64 0, .int .i64 5]) (by simp [results, Try.results12, go_sem]) rfl ⟨rfl, rfl⟩
  · have h1' : 0 ≤ size := by omega
    by_cases h2 : 4096 < size
    · clear hb
      go_enter Try.func12, Try.ntmps12
      go_wp2_with fail
      exact bodyPost_ret (v := .tuple #[.int .i64 0, .int .i64 5]) (by simp [results, Try.results12, go_sem]) rfl ⟨rfl, rfl⟩
    · have h3 : s.length = 2000 := by omega
      have h2' : size ≤ 4096 := by omega
      rw [h3] at h0
      clear hb h3
      go_enter Try.func12, Try.ntmps12
      go_wp2_with fail
      exact bodyPost_ret (v := .tuple #[.int .i64 0, .int .i64 5]) (by simp [results, Try.results12, go_sem]) rfl ⟨rfl, rfl⟩
theorem own_form {w : World} {base e size n : Nat} {v : Value} {xs : List Value} (h : w.ownsRow base e size v n xs) : ∃ A cap, v = .slice A n cap := by
  rcases h.2 with ⟨hv, h1⟩ | ⟨g, cap, cur, hv, hg, hh, hc, hm, hs, ht⟩
  · exact ⟨none, 0, by rw [hv, h1]⟩
  · exact ⟨_, cap, hv⟩
theorem bytes_const (n : Nat) (j : Nat) (hj : j < n) : ((List.replicate j z1 ++ List.replicate (n - j) z0).set j z1) = List.replicate (j + 1) z1 ++ List.replicate (n - (j + 1)) z0 := by
  rw [List.set_append_right _ _ (by simp), List.length_replicate, Nat.sub_self, show n - j = (n - (j + 1)) + 1 by omega, List.replicate_succ, List.set_cons_zero, List.replicate_succ', List.append_assoc]
  rfl
theorem encB_set0 (k : Int) : ∀ (l : List Bt) (i : Nat) (y : Bt), l[i]? = some y → (encB l).set (i * 5) (.int .i64 k) = encB (l.set i { y with k := k })
  | [], i, y, h => by simp at h
  | x :: l, 0, y, h => by
    simp only [List.getElem?_cons_zero, Option.some.injEq] at h
    subst h
    simp [encB, Bt.cells]
  | x :: l, i + 1, y, h => by
    have ih := encB_set0 k l i y (by simpa using h)
    have e : encB (x :: l) = x.cells ++ encB l := rfl
    have hl : x.cells.length = 5 := rfl
    rw [List.set_cons_succ, show encB (x :: l.set i { y with k := k }) = x.cells ++ encB (l.set i { y with k := k }) from rfl, ← ih, e, show (i + 1) * 5 = x.cells.length + i * 5 by rw [hl]; omega, List.set_append_right _ _ (Nat.le_add_right _ _), Nat.add_sub_cancel_left]
theorem IsMem.box_grown {w W w1 : World} {gm : Nat} {v : Value} {bs : List Blk} (hM : IsMem w gm v bs) (hb : Below w.heap.size w W) (hG : W.grownBy w1 v.ownBlock) : w1.heap[gm]? = some (.cells #[v] 73 (0, 0)) := by
  have hc := blk_below hM.box hb
  refine (hG.block gm (blk_lt hc) (fun he => ?_)).trans hc
  obtain ⟨c', hc'⟩ := own_typed hM.row gm he.symm
  have := hM.box
  rw [hc'] at this
  injection this with this
  injection this with _ this
  exact absurd this (by decide)
/-- What Alloc leaves: W is w with the bytes' block and the row's element; w1 is behind the append. -/
theorem Holds.grown {w W w1 : World} {gm g : Nat} {gs : List Nat} {s : List Mb} (h : Holds w gm gs s) {v v1 : Value} (hM : IsMem w gm v (blks gs s)) (hb : Below w.heap.size w W) {m : Mb} (hg : w.heap.size ≤ g) (hB : Bytes W g m.l) (hl : m.l.length ≤ 4096) (hv : ∀ x : Bt, x ∈ m.l → 0 ≤ x.v ∧ x.v ≤ 255)
    (hR : w1.ownsRow (gm + 1) 75 3 v1 ((blks gs s).length + 1) (encK (blks gs s) ++ (blk g m).cells)) (hG : W.grownBy w1 v.ownBlock) : Holds (w1.setCell ⟨gm, 0, none⟩ v1) gm (gs ++ [g]) (s ++ [m]) ∧ Fr w (w1.setCell ⟨gm, 0, none⟩ v1) gm gs := by
  have hgm : gm < w.heap.size := blk_lt hM.box
  have hrow : blks (gs ++ [g]) (s ++ [m]) = blks gs s ++ [blk g m] := by unfold blks; rw [List.zipWith_append h.len]; rfl
  have hown : ∀ k, v.ownBlock = some k → Sof w gm gs k := fun k hk => .inr (.inr ⟨own_base hM.row k hk, (own_typed hM.row k hk).imp fun c hc => ⟨_, hc⟩⟩)
  have hk1 : Kp w w1 (Sof w gm gs) := (Kp.of_below hb _).grown hG (fun k hk => .inl (hown k hk))
  have hkeep : ∀ {k : Nat} {c : Array Value} {t : Nat} {fr : Nat × Nat}, W.heap[k]? = some (.cells c t fr) → t ≠ 75 → w1.heap[k]? = some (.cells c t fr) := by
    intro k c t fr hc ht
    refine (hG.block k (blk_lt hc) (fun he => ?_)).trans hc
    obtain ⟨c', hc'⟩ := own_typed hM.row k he.symm
    have := blk_below hc' hb
    rw [hc] at this
    injection this with this
    injection this with _ this
    exact ht this
  have hbox := hkeep (blk_below hM.box hb) (by decide)
  have hne : ∀ {k : Nat} {l : List Bt}, Bytes w1 k l → k ≠ gm := by
    rintro k l hl rfl
    rw [Bytes, hbox] at hl
    injection hl with hl
    injection hl with _ hl
    exact absurd hl (by decide)
  have hset : Kp w1 (w1.setCell ⟨gm, 0, none⟩ v1) (· = gm) := (Kp.refl w1 (· = gm)).setCell (.inl rfl) _
  refine ⟨⟨⟨v1, blk_put hbox 0 v1 rfl, ?_⟩, by simp [h.len], ?_, ?_, ?_⟩, ?_⟩
  · rw [hrow]
    have hf : encK (blks gs s ++ [blk g m]) = encK (blks gs s) ++ (blk g m).cells := by unfold encK; rw [List.flatMap_append]; simp
    rw [hf, List.length_append]
    refine own_move hR (fun k hk => hset.block k (by obtain ⟨c, hc⟩ := own_typed hR k hk; exact blk_lt hc) (fun he => ?_))
    subst he
    obtain ⟨c, hc⟩ := own_typed hR k hk
    rw [hbox] at hc
    injection hc with hc
    injection hc with _ hc
    exact absurd hc (by decide)
  · rw [List.nodup_append]
    refine ⟨h.nodup, by simp, fun a ha b hb he => ?_⟩
    rw [List.mem_singleton] at hb
    subst hb
    subst he
    obtain ⟨i, hi⟩ := List.mem_iff_getElem?.1 ha
    have hil := (List.getElem?_eq_some_iff.1 hi).1
    have := blk_lt (h.bytes i a _ hi (List.getElem?_eq_getElem (by rw [← h.len]; exact hil))).1
    omega
  · intro k hk
    rcases List.mem_append.1 hk with hk | hk
    · exact h.above k hk
    · rw [List.mem_singleton] at hk; omega
  · intro i g' m' hi hm'
    by_cases hlt : i < s.length
    · rw [List.getElem?_append_left (by rw [h.len]; exact hlt)] at hi
      rw [List.getElem?_append_left hlt] at hm'
      have hb' := h.bytes i g' m' hi hm'
      have h2 : Bytes w1 g' m'.l := hkeep (blk_below hb'.1 hb) (by decide)
      exact ⟨blk_kp h2 hset (hne h2), hb'.2⟩
    · rw [List.getElem?_append_right (by omega)] at hm'
      rw [List.getElem?_append_right (by rw [h.len]; omega)] at hi
      have h0 : i - s.length = 0 := by
        have := (List.getElem?_eq_some_iff.1 hm').1
        simpa using this
      rw [h0] at hm'
      rw [h.len, h0] at hi
      cases hm'
      cases hi
      have h2 : Bytes w1 g m.l := hkeep hB (by decide)
      exact ⟨blk_kp h2 hset (hne h2), hl, hv⟩
  · exact hk1.setCell (.inl (.inl rfl)) _
set_option maxRecDepth 100000 in
set_option maxHeartbeats 8000000 in
theorem alloc_good {w : World} {gm : Nat} {gs : List Nat} {s : List Mb} (h : Holds w gm gs s) (site : Int) (n : Nat) (hn : n ≤ 4096) (hs : s.length ≠ 2000) (hs2 : s.length ≤ 2000) (zero : Bool) :
    Calls Try.prog 12 #[.pointer (some ⟨gm, 0, none⟩), .int .i64 site, .int .i64 n, .bool zero] w fun e w' => e = .returned (.tuple #[.int .i64 (s.length + 1), .int .i64 0]) ∧ ∃ g, w.heap.size ≤ g ∧ Holds w' gm (gs ++ [g]) (s ++ [⟨site, List.replicate n (if zero then z1 else z0), true⟩]) ∧ Fr w w' gm gs := by
  obtain ⟨v, hM⟩ := h.mem
  have hlen := blks_len h.len
  have hM' := hM
  obtain ⟨A, cap, rfl, hle⟩ := hM'.len
  clear hM'
  have HH := Aside0.mk h
  have HM := Aside0.mk hM
  have HLN := Aside0.mk hlen
  have HS2 := Aside0.mk hs2
  have HNN := Aside0.mk hn
  have h0 := cell1 hM.box
  rw [hlen] at h0 hle
  have hmk := make_bytes n hn
  have hs' : ((s.length : Int) == 2000) = false := beq_eq_false_iff_ne.mpr (by omega)
  have HB := Aside0.mk (below_alloc (below_alloc (Below.refl w.heap.size w) (.cells (encB (List.replicate n z0)).toArray 42)) (.cells #[.int .i64 site, .slice (some ⟨w.heap.size, 0, none⟩) n n, .bool true] 75))
  have HX := Aside0.mk (blk_at_ (W := w.alloc (.cells (encB (List.replicate n z0)).toArray 42)) (n := w.heap.size + 1) (.cells #[.int .i64 site, .slice (some ⟨w.heap.size, 0, none⟩) n n, .bool true] 75) (by simp))
  have HY := Aside0.mk (blk_alloc (blk_new w (.cells (encB (List.replicate n z0)).toArray 42)) (.cells #[.int .i64 site, .slice (some ⟨w.heap.size, 0, none⟩) n n, .bool true] 75))
  clear hM hlen h hs hs2
  cases zero with
  | false =>
    simp only [Bool.false_eq_true, if_false]
    go_enter Try.func12, Try.ntmps12
    go_upto_region 10 with (fail)
    generalize (w.alloc (.cells (encB (List.replicate n z0)).toArray 42)).alloc (.cells #[.int .i64 site, .slice (some ⟨w.heap.size, 0, none⟩) n n, .bool true] 75) = W at HB HX HY ⊢
    have hx := cell3 HX.out
    have hg0 := cell1 (blk_below HM.out.box HB.out)
    have hg2 := cell1 (blk_alloc (blk_below HM.out.box HB.out) (.cells #[.int .i64 site, .slice (some ⟨w.heap.size, 0, none⟩) n n, .bool true] 75))
    rw [HLN.out] at hg0 hg2
    go_region_law (refine step_append_cells (w0 := W.drew) (gm + 1) rfl _ _ 71 75 (.agg #[.int .i64 0, .slice none 0 0, .bool false]) 3 40 rfl Try.underlying71 (by kernel_rfl) (by decide) (by decide) (by decide) _ (blks gs s).length (encK (blks gs s)) [.int .i64 site, .slice (some ⟨w.heap.size, 0, none⟩) n n, .bool true] ?aV ?aX ?aC ?aO (own_move HM.out.row ?aM) (Below.refl _ _) ?aB ?aL ?_; (case aV => (show Value.slice _ _ _ = Value.slice _ _ _; rw [HLN.out])); (case aX => rfl); (case aC => rfl); (case aO => (intro u hu; simp only [List.mem_cons, List.not_mem_nil, or_false] at hu; rcases hu with rfl | rfl | rfl <;> rfl)); (case aM => (intro k hk; obtain ⟨c, hc⟩ := own_typed HM.out.row k hk; exact HB.out.block k (blk_lt hc))); (case aB => (have := blk_lt HM.out.box; have := HB.out.size; show gm + 1 ≤ W.heap.size; omega)); (case aL => (rw [HLN.out]; have := HS2.out; omega)); intro v1 w1 hR1 hB1 hg1 hat1; obtain ⟨A1, c1, rfl⟩ := own_form hR1; have HF := Aside0.mk (HH.out.grown HM.out (below_drew HB.out) (m := ⟨site, List.replicate n z0, true⟩) (Nat.le_refl _) HY.out (by simpa using HNN.out) (by intro x hx; obtain ⟨_, rfl⟩ := List.mem_replicate.1 hx; decide) (by rw [show (blk w.heap.size ⟨site, List.replicate n z0, true⟩).cells = [.int .i64 site, .slice (some ⟨w.heap.size, 0, none⟩) n n, .bool true] from by simp [blk, Blk.cells]]; exact hR1) hg1); have hbx := HM.out.box_grown (below_drew HB.out) hg1; have hfz := blk_frozen hbx 0; have hcz := cell1 hbx; clear hbx; clear hR1 hB1 hat1)
    all_goals go_wp2_with fail
    all_goals exact bodyPost_ret (v := .tuple #[.int .i64 ((blks gs s).length + 1), .int .i64 0]) (by simp [results, Try.results12, go_sem]) rfl ⟨by rw [HLN.out], w.heap.size, Nat.le_refl _, HF.out.1, HF.out.2⟩
  | true =>
    simp only [if_true]
    go_enter Try.func12, Try.ntmps12
    go_upto_region 5 with (fail)
    generalize (w.alloc (.cells (encB (List.replicate n z0)).toArray 42)).alloc (.cells #[.int .i64 site, .slice (some ⟨w.heap.size, 0, none⟩) n n, .bool true] 75) = W at HB HX HY ⊢
    have hx := cell3 HX.out
    go_upto_block 0 with (fail)
    go_wp2_with fail
    go_loopw [38] (fun i wx => ∃ j : Nat, j ≤ n ∧ i = .int .i64 j ∧ Hid (Bytes wx w.heap.size (List.replicate j z1 ++ List.replicate (n - j) z0)) ∧ Hid (Kp W wx (· = w.heap.size))) (fun i _ => n - (intOf i).toNat)
    case atStart => exact ⟨0, Nat.zero_le _, rfl, HY.out, Kp.refl _ _⟩
    case round =>
      clear hx
      obtain ⟨j, hj, rfl, hb, hkp⟩ := hrel
      have hx := cell3 (blk_kp HX.out hkp.out (by show ¬ (_ = _); omega))
      by_cases hlt : j < n
      · have hy : (List.replicate j z1 ++ List.replicate (n - j) z0)[j]? = some z0 := by
          rw [List.getElem?_append_right (by simp), List.getElem?_replicate, if_pos (by simp; omega)]
        have hc := Bytes.at_ hb.out hy
        have hf0 := blk_frozen hb.out (j * 5)
        have HQ := Aside0.mk hy
        have HBB := Aside0.mk hb
        have HKP := Aside0.mk hkp
        have hjn : ((j : Int) < (n : Int)) := by omega
        have hwj : IntKind.i64.wrap ((j : Int) + 1) = (j : Int) + 1 := by rw [IntKind.wrap_i64]; omega
        clear hb hkp hy
        go_wp2_with fail
        go_roundw
        case rel => exact ⟨j + 1, by omega, by go_num, by
          show Bytes _ _ _
          rw [← bytes_const n j hlt]
          refine blk_put HBB.out (j * 5) _ ?_
          rw [List.setIfInBounds_toArray, encB_set0 1 _ j z0 HQ.out]
          rfl, HKP.out.setCell (.inl rfl) _⟩
        case measure => simp [intOf]; omega
      · obtain rfl : j = n := by omega
        have HB2 : Aside0 (Below w.heap.size w wr) := Aside0.mk (Kp.below_of HB.out hkp.out (fun k hk => by rw [hk]; exact Nat.le_refl _))
        have HX2 := Aside0.mk (blk_kp HX.out hkp.out (by show ¬ (_ = _); omega))
        have HY2 : Aside0 (wr.heap[w.heap.size]? = some (.cells (encB (List.replicate j z1)).toArray 42)) := Aside0.mk (by have := hb.out; rw [Bytes, Nat.sub_self, List.replicate_zero, List.append_nil] at this; exact this)
        clear hb hkp HB HX HY
        have HB := HB2
        have HX := HX2
        have HY := HY2
        clear HB2 HX2 HY2
        go_upto_region 10 with (fail)
        have hx := cell3 HX.out
        have hg0 := cell1 (blk_below HM.out.box HB.out)
        have hg2 := cell1 (blk_alloc (blk_below HM.out.box HB.out) (.cells #[.int .i64 site, .slice (some ⟨w.heap.size, 0, none⟩) j j, .bool true] 75))
        rw [HLN.out] at hg0 hg2
        go_region_law (refine step_append_cells (w0 := wr.drew) (gm + 1) rfl _ _ 71 75 (.agg #[.int .i64 0, .slice none 0 0, .bool false]) 3 40 rfl Try.underlying71 (by kernel_rfl) (by decide) (by decide) (by decide) _ (blks gs s).length (encK (blks gs s)) [.int .i64 site, .slice (some ⟨w.heap.size, 0, none⟩) j j, .bool true] ?aV ?aX ?aC ?aO (own_move HM.out.row ?aM) (Below.refl _ _) ?aB ?aL ?_; (case aV => (show Value.slice _ _ _ = Value.slice _ _ _; rw [HLN.out])); (case aX => rfl); (case aC => rfl); (case aO => (intro u hu; simp only [List.mem_cons, List.not_mem_nil, or_false] at hu; rcases hu with rfl | rfl | rfl <;> rfl)); (case aM => (intro k hk; obtain ⟨c, hc⟩ := own_typed HM.out.row k hk; exact HB.out.block k (blk_lt hc))); (case aB => (have := blk_lt HM.out.box; have := HB.out.size; show gm + 1 ≤ wr.heap.size; omega)); (case aL => (rw [HLN.out]; have := HS2.out; omega)); intro v1 w1 hR1 hB1 hg1 hat1; obtain ⟨A1, c1, rfl⟩ := own_form hR1; have HF := Aside0.mk (HH.out.grown HM.out (below_drew HB.out) (m := ⟨site, List.replicate j z1, true⟩) (Nat.le_refl _) HY.out (by simpa using HNN.out) (by intro x hx; obtain ⟨_, rfl⟩ := List.mem_replicate.1 hx; decide) (by rw [show (blk w.heap.size ⟨site, List.replicate j z1, true⟩).cells = [.int .i64 site, .slice (some ⟨w.heap.size, 0, none⟩) j j, .bool true] from by simp [blk, Blk.cells]]; exact hR1) hg1); have hbx := HM.out.box_grown (below_drew HB.out) hg1; have hfz := blk_frozen hbx 0; have hcz := cell1 hbx; clear hbx; clear hR1 hB1 hat1)
        all_goals go_wp2_with fail
        all_goals exact bodyPost_ret (v := .tuple #[.int .i64 ((blks gs s).length + 1), .int .i64 0]) (by simp [results, Try.results12, go_sem]) rfl ⟨by rw [HLN.out], w.heap.size, Nat.le_refl _, HF.out.1, HF.out.2⟩
theorem alloc_calls {w : World} {gm : Nat} {gs : List Nat} {s : List Mb} (h : Holds w gm gs s) (hs2 : s.length ≤ 2000) (site size : Int) (zero : Bool) :
    Calls Try.prog 12 #[.pointer (some ⟨gm, 0, none⟩), .int .i64 site, .int .i64 size, .bool zero] w fun e w' => e = .returned (.tuple #[.int .i64 (allocS s site size zero).2.1, .int .i64 (allocS s site size zero).2.2]) ∧ ∃ gs', Holds w' gm gs' (allocS s site size zero).1 ∧ Fr w w' gm gs ∧ (∀ g ∈ gs', g ∈ gs ∨ w.heap.size ≤ g) ∧ (allocS s site size zero).1.length ≤ 2000 := by
  unfold allocS
  by_cases hb : size < 0 ∨ 4096 < size ∨ s.length = 2000
  · rw [if_pos hb]
    refine (alloc_bad h site size zero hb).mono ?_
    rintro e w' ⟨rfl, rfl⟩
    exact ⟨rfl, gs, h, Fr.refl _ _ _, fun g hg => .inl hg, hs2⟩
  · rw [if_neg hb]
    obtain ⟨n, rfl⟩ : ∃ n : Nat, size = n := ⟨size.toNat, by omega⟩
    refine (alloc_good h site n (by omega) (by omega) hs2 zero).mono ?_
    rintro e w' ⟨rfl, g, hg, h1, h2⟩
    refine ⟨rfl, gs ++ [g], ?_, h2, fun k hk => (List.mem_append.1 hk).imp id (fun hk => by rw [List.mem_singleton] at hk; rw [hk]; exact hg), by simp; omega⟩
    have : (⟨if zero = true then 1 else 0, 0, ⟨0, 0, 0⟩⟩ : Bt) = if zero = true then z1 else z0 := by cases zero <;> rfl
    show Holds w' gm (gs ++ [g]) (s ++ [⟨site, List.replicate (n : Int).toNat ⟨if zero = true then 1 else 0, 0, ⟨0, 0, 0⟩⟩, true⟩])
    rw [this]
    exact h1
end Go.Proofs.Yteogfjhmjlelnaa.G
