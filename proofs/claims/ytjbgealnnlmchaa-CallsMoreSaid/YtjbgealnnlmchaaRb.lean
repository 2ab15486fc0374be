/- calls.To tells what a call may call. Its contract names its state. -/
import Derived.Test.YtjbgealnnlmchaaRa
import Derived.Sort.OwnSortedInts
import Derived.Shelf.Slices.In.SortNone
set_option linter.unusedVariables false
set_option linter.unusedSimpArgs false
namespace Go.Proofs.Ytjbgealnnlmchaa.G
open Go.RowKit Go.Proofs.Ytjbgealnnlmchaa.B Go.Proofs.YtjbgealnnlmchaaW.PrintWords Go.Proofs.YtjbgealnnlmchaaW.PrintLast Go.Proofs.YtjbgealnnlmchaaW.PrintMore

theorem sort_i (base : Nat) (zs : List Int) (A : Option Addr) (c : Nat) (w : World) (h : w.ownsRow base 3 1 (.slice A zs.length c) zs.length (zs.map (Value.int .i64))) (hl : zs.length ≤ 1000000) (ss : List Int) (hs : zs.mergeSort (fun x y => decide (x ≤ y)) = ss) :
    Calls Try.prog 19 #[.slice A zs.length c] w fun e w' => e = .returned (.tuple #[]) ∧ w'.ownsRow base 3 1 (.slice A zs.length c) zs.length (ss.map (Value.int .i64)) ∧ w.grownBy w' (Value.slice A zs.length c).ownBlock := by
  have hsl : ss.length = zs.length := by
    have := congrArg List.length hs
    rw [List.length_mergeSort] at this
    exact this.symm
  rcases h.2 with ⟨h1, h2⟩ | ⟨g, cap, cur, h1, h2, h3, h4, h5, h6, h7⟩
  · obtain rfl := List.eq_nil_of_length_eq_zero h2
    obtain rfl := List.eq_nil_of_length_eq_zero hsl
    refine (Any.slices_Sort_int_none Try.lays189 A c w).mono ?_
    rintro e w' ⟨rfl, rfl⟩
    exact ⟨rfl, h, ⟨rfl, rfl, rfl, Nat.le_refl _, fun _ _ _ => rfl⟩⟩
  · injection h1 with e1 _ e3
    subst e1 e3
    rw [Nat.mul_one] at h7
    have hH : Sort.Holds (Value.int .i64) w g 0 zs.toArray := holds_of_blockI h3 h7
    have hc := Try.slices_Sort_int g 0 c zs w hH (blk_lt h3) (by omega)
    rw [hs] at hc
    refine hc.mono ?_
    rintro e w' ⟨rfl, n, os, rfl⟩
    exact ⟨rfl, ownsRow_sortedI hsl h2 h3 h4 h5 h6, grownBy_sortedI _⟩
theorem own_nts {W : World} {base n c : Nat} {A : Option Addr} {t : List Int} (hn : n = t.length) (h : W.ownsRow base 3 1 (.slice A n c) n (t.map (Value.int .i64))) : Nts W A t c := by
  subst hn
  rcases h.2 with ⟨h1, h2⟩ | ⟨g, cap, cur, h1, h2, h3, h4, h5, h6, h7⟩
  · obtain rfl := List.eq_nil_of_length_eq_zero h2
    injection h1 with e1 _ e3
    subst e1 e3
    exact ⟨Kd.C_nil _ W, Nat.le_refl _⟩
  · injection h1 with e1 _ e3
    subst e1 e3
    refine ⟨⟨rfl, by unfold maxLen at h5; omega, fun _ => ⟨_, rfl, fun j p hj => ⟨[.int .i64 p], rfl, rfl, fun i u hu => ?_⟩⟩⟩, h4⟩
    match i, hu with
    | 0, hu =>
      obtain rfl : Value.int .i64 p = u := by simpa using hu
      have hjl : j < t.length := (List.getElem?_eq_some_iff.1 hj).1
      show W.cell? ((⟨g, 0, none⟩ : Addr).add (j * 1 + 0)) = _
      rw [add_plain, h.cellAt _ (by omega), Nat.mul_one, Nat.add_zero, List.getElem?_map, hj]
      rfl
theorem compact_i (base : Nat) (zs : List Int) (A : Option Addr) (c : Nat) (w : World) (n : Nat) (hn : n = zs.length) (h : w.ownsRow base 3 1 (.slice A n c) n (zs.map (Value.int .i64))) (hl : zs.length ≤ 1000000) (t : List Int) (ht : Lib.compact zs = t) :
    Calls Try.prog 20 #[.slice A n c] w fun e w' => ∃ c', e = .returned (.slice A t.length c') ∧ Nts w' A t c' ∧ w.grownBy w' (Value.slice A n c).ownBlock := by
  subst hn ht
  have hle : (Lib.compact zs).length ≤ zs.length := by
    unfold Lib.compact Lib.compactUpTo
    rw [List.length_map]
    exact Nat.le_trans (List.length_filter_le _ _) (by rw [List.length_range]; exact Nat.le_refl _)
  rcases h.2 with ⟨h1, h2⟩ | ⟨g, cap, cur, h1, h2, h3, h4, h5, h6, h7⟩
  · obtain rfl := List.eq_nil_of_length_eq_zero h2
    refine (Try.slices_Compact_int_empty A c w).mono ?_
    rintro e w' ⟨rfl, rfl⟩
    injection h1 with e1 _ e3
    subst e1 e3
    exact ⟨0, rfl, ⟨Kd.C_nil _ w', Nat.le_refl _⟩, ⟨rfl, rfl, rfl, Nat.le_refl _, fun _ _ _ => rfl⟩⟩
  · injection h1 with e1 _ e3
    subst e1 e3
    rw [Nat.mul_one] at h7
    have hH : Sort.Holds (Value.int .i64) w g 0 zs.toArray := holds_of_blockI h3 h7
    refine (Try.slices_Compact_int g 0 c zs w hH (by omega) h4).mono ?_
    rintro e w' ⟨rfl, q, rfl⟩
    have hrow := ownsRow_sortedI (w := w) (base := base) (g := g) (cap := c) (n := q) (e := 3) (os := #[]) (cur := cur) (ss := zs) (ts := Lib.compact zs ++ List.replicate (zs.length - (Lib.compact zs).length) 0) (by rw [List.length_append, List.length_replicate]; omega) h2 h3 h4 h5 h6
    have hgr := grownBy_sortedI (w := w) (g := g) (n := q) (os := #[]) (Lib.compact zs ++ List.replicate (zs.length - (Lib.compact zs).length) 0).toArray
    rw [Sort.grow_empty] at hrow hgr
    have hfull := own_nts (t := Lib.compact zs ++ List.replicate (zs.length - (Lib.compact zs).length) 0) (by rw [List.length_append, List.length_replicate]; omega) hrow
    have hC := Kd.C_take (m := (Lib.compact zs).length) hfull.C (by rw [List.length_append]; omega)
    rw [List.take_left' rfl] at hC
    exact ⟨c, rfl, ⟨hC, Nat.le_trans hle h4⟩, hgr⟩
set_option maxRecDepth 100000 in
set_option maxHeartbeats 2000000 in
theorem to_c (l : List S41) (A : Option Addr) (c : Nat) (fn pc : Int) (w : World) (h : Edg w A l c) (t : List Int) (ht : TOk l fn pc t) :
    Calls Try.prog 12 #[.agg #[.slice none 0 0, .slice none 0 0, .slice A l.length c, .int .i64 0], .int .i64 fn, .int .i64 pc] w fun e w' => ∃ A c, e = .returned (.slice A t.length c) ∧ Nts w' A t c ∧ Below w.heap.size w w' := by
  have HE := Aside0.mk h
  have HT := Aside0.mk ht
  clear h ht
  go_enter Try.func12, Try.ntmps12
  go_upto_region 2 with (fail)
  have hb2 := blk_new w (.cells #[.slice none 0 0, .slice none 0 0, .slice A l.length c, .int .i64 0] 28)
  have HB := Aside0.mk (below_alloc (Below.refl w.heap.size w) (.cells #[.slice none 0 0, .slice none 0 0, .slice A l.length c, .int .i64 0] 28))
  have q2 := (blk_cell hb2 2).trans rfl
  clear hb2
  generalize w.alloc (.cells #[.slice none 0 0, .slice none 0 0, .slice A l.length c, .int .i64 0] 28) = W1 at q2 HB ⊢
  generalize w.heap.size = z0 at q2 ⊢
  go_upto_block 0 with (fail)
  clear q2
  have HE1 := Aside0.mk (HE.out.below HB.out)
  go_wp2_with fail
  go_loopw [7, 13] (fun v7 iv wx => ∃ (v : Value) (i : Nat), i ≤ l.length ∧ v = v7 ∧ iv = .int .i64 (i : Int) ∧ Hid (Kd.R (Kd.int .i64) 3 wx W1.heap.size (fun _ => True) v (toL (l.take i) fn pc)) ∧ Hid (Below W1.heap.size W1 wx)) (fun _ iv _ => l.length - (intOf iv).toNat)
  case atStart => exact ⟨_, 0, Nat.zero_le _, rfl, rfl, Kd.R_nil _ _ _ _ _, Below.refl _ _⟩
  case round =>
    obtain ⟨v, i, hi, rfl, rfl, h1, h2⟩ := hrel
    have HR := Aside0.mk (show Kd.R (Kd.int .i64) 3 wr W1.heap.size (fun _ => True) v (toL (l.take i) fn pc) from h1)
    have HW := Aside0.mk (show Below W1.heap.size W1 wr from h2)
    clear h1 h2
    by_cases hlt : (i : Int) < (l.length : Int)
    · have hi1 : i < l.length := by omega
      have hi0 : (0 : Int) ≤ (i : Int) := Int.natCast_nonneg i
      have hwi : IntKind.i64.wrap ((i : Int) + 1) = (i : Int) + 1 := by have := HE.out.len; rw [IntKind.wrap_i64]; omega
      have HWI := Aside0.mk hwi
      clear hwi
      obtain ⟨ade, ee, q0, q1, q2⟩ := at_T41 (Kd.C_below HE1.out.C HW.out) (i : Int) hi0 hlt
      rw [Int.toNat_natCast, rd33_at l i hi1] at q0 q1 q2
      have hst := toL_take l fn pc i hi1
      have hml : (toL (l.take i) fn pc).length ≤ 1000000 := by
        have h1 := toL_len (l.take i) fn pc
        have h2 : (l.take i).length ≤ l.length := by rw [List.length_take]; omega
        have := HE.out.len
        omega
      have HML := Aside0.mk hml
      have HST := Aside0.mk hst
      clear hst hml
      generalize l[i] = e at q0 q1 q2 HST
      subst ee
      go_upto_region 5 with (fail)
      have hbx := blk_new wr (.cells #[.int .i64 e.f0, .int .i64 e.f1, .int .i64 e.f2] 41)
      have r0 := (blk_cell hbx 0).trans rfl
      have r1 := (blk_cell hbx 1).trans rfl
      have r2 := (blk_cell hbx 2).trans rfl
      replace HR := Aside0.mk (Kd.R_alloc HR.out (.cells #[.int .i64 e.f0, .int .i64 e.f1, .int .i64 e.f2] 41))
      replace HW := Aside0.mk (below_alloc HW.out (.cells #[.int .i64 e.f0, .int .i64 e.f1, .int .i64 e.f2] 41))
      clear hbx q0 q1 q2
      generalize wr.alloc (.cells #[.int .i64 e.f0, .int .i64 e.f1, .int .i64 e.f2] 41) = W2 at r0 r1 r2 HR HW ⊢
      generalize wr.heap.size = g at r0 r1 r2 ⊢
      generalize hf0 : e.f0 = x0 at r0 ⊢
      generalize hf1 : e.f1 = x1 at r1 ⊢
      generalize hf2 : e.f2 = x2 at r2 ⊢
      have hst := HST.out
      unfold isAt at hst
      rw [hf0, hf1, hf2] at hst
      by_cases c1 : x0 = fn
      · by_cases c2 : x1 = pc
        · subst c1 c2
          rw [decide_eq_true rfl, decide_eq_true rfl, Bool.and_true, if_pos rfl] at hst
          have HS2 := Aside0.mk hst
          have hwi := HWI.out
          clear hst hf0 hf1 hf2
          go_wp2_with (at_builtin; (refine Kd.R_append (Kd.int .i64) (w0 := W2) W1.heap.size rfl (.tmp 27) (.tmp 30) 35 3 (.int .i64 0) 8 rfl Try.underlying35 info3 rfl (by decide) (by decide) v (toL (l.take i) x0 x1) x2 [.int .i64 x2] (fun _ => True) (fun _ => False) rfl rfl rfl (fun _ h => h.elim) (fun _ _ => trivial) HR.out (Below.refl _ _) HW.out.size (by have := HML.out; omega) ?_; intro v2 w2 hR1 hB1 hg1 hat1))
          go_roundw
          case rel => exact ⟨v2, i + 1, by omega, rfl, by go_num, by rw [HS2.out]; exact hR1, HW.out.trans hB1⟩
          case measure => simp [intOf]; omega
        · have e1 : (x1 == pc) = false := beq_eq_false_iff_ne.mpr c2
          rw [decide_eq_false c2, Bool.and_false, if_neg (by simp), List.append_nil] at hst
          have HS2 := Aside0.mk hst
          have hwi := HWI.out
          subst c1
          clear hst hf0 hf1 hf2 c2
          go_wp2_with fail
          go_roundw
          case rel => exact ⟨v, i + 1, by omega, rfl, by go_num, by rw [HS2.out]; exact HR.out, HW.out⟩
          case measure => simp [intOf]; omega
      · have e1 : (x0 == fn) = false := beq_eq_false_iff_ne.mpr c1
        rw [decide_eq_false c1, Bool.false_and, if_neg (by simp), List.append_nil] at hst
        have HS2 := Aside0.mk hst
        have hwi := HWI.out
        clear hst hf0 hf1 hf2 c1
        go_wp2_with fail
        go_roundw
        case rel => exact ⟨v, i + 1, by omega, rfl, by go_num, by rw [HS2.out]; exact HR.out, HW.out⟩
        case measure => simp [intOf]; omega
    · have hie : i = l.length := by omega
      rw [hie, List.take_length] at HR
      obtain ⟨Av, cv, hv⟩ := Kd.R_slice HR.out
      subst hv
      clear hie
      have hto := (to_ok l fn pc).unique HT.out
      have hll := toL_len l fn pc
      have hrow : wr.ownsRow W1.heap.size 3 1 (.slice Av (toL l fn pc).length cv) (toL l fn pc).length ((toL l fn pc).map (Value.int .i64)) := by
        have h := Kd.own_of_R HR.out
        unfold encs at h
        exact h
      generalize hz : toL l fn pc = zs at HR hto hll hrow ⊢
      clear hz
      obtain ⟨ss, hss⟩ : ∃ ss, zs.mergeSort (fun x y => decide (x ≤ y)) = ss := ⟨_, rfl⟩
      rw [hss] at hto
      have hsl : zs.length = ss.length := by rw [← hss, List.length_mergeSort]
      have HSL := Aside0.mk hsl
      have HZL : Aside0 (zs.length ≤ 1000000) := Aside0.mk (Nat.le_trans hll HE.out.len)
      have HSO := Aside0.mk (sort_i W1.heap.size zs Av cv wr hrow HZL.out ss hss)
      have HTO := Aside0.mk hto
      have HBL := Aside0.mk (fun k hk => own_base hrow k hk)
      clear hsl hll hrow hss hto HR
      go_upto_region 9 with (go_at_call 19; with_reducible refine HSO.out.mono ?_; rintro e w2 ⟨rfl, hr2, hg2⟩; have HR2 := Aside0.mk hr2; have HG2 := Aside0.mk hg2; clear hr2 hg2)
      go_wp2_with (go_at_call 20; with_reducible refine (compact_i W1.heap.size ss Av cv _ zs.length HSL.out HR2.out (by rw [← HSL.out]; exact HZL.out) t HTO.out).mono ?_; rintro e w3 ⟨c3, rfl, h3, hg3⟩; have HA3 := Aside0.mk h3; have HG3 := Aside0.mk hg3; clear h3 hg3)
      go_ret
      exact ⟨_, _, rfl, HA3.out, below_step HB.out (Below.grown (Below.grown HW.out HG2.out HW.out.size (fun k hk => HBL.out k hk)) HG3.out (Nat.le_trans HW.out.size HG2.out.size) (fun k hk => HBL.out k hk))⟩
end Go.Proofs.Ytjbgealnnlmchaa.G
