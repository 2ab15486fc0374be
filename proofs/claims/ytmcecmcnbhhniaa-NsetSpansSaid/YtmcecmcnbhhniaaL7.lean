/- The law NsetSpans of nset is true: its walk. No condition. -/
import Derived.Test.YtmcecmcnbhhniaaL3
set_option linter.unusedVariables false
set_option linter.unusedSimpArgs false
namespace Go.Proofs.Ytmcecmcnbhhniaa.G
open Go.RowKit Go.Proofs.Ytmcecmcnbhhniaa.B Go.Proofs.YtmcecmcnbhhniaaW.PrintWords Go.Proofs.YtmcecmcnbhhniaaW.PrintLast Go.Proofs.YtmcecmcnbhhniaaW.PrintMore

theorem spans_cell {W : World} {b : Nat} {A : Option Addr} {c : Nat} {u : List Sp} (h : RowI W b (.slice A (2 * u.length) c) (spansS u)) (j : Nat) (x : Sp) (hx : u[j]? = some x) : ∃ g, A = some ⟨g, 0, none⟩ ∧ W.cell? ⟨g, 2 * j, none⟩ = some (.int .i64 x.lo) ∧ W.cell? ⟨g, 2 * j + 1, none⟩ = some (.int .i64 x.hi) := by
  have hj := (List.getElem?_eq_some_iff.1 hx).1
  have hl := spans_len u
  rcases h.2 with ⟨hv, h1⟩ | ⟨g, cap, cur, hv, hg, hh, hc, hm, hs, ht⟩
  · rw [hl] at h1
    omega
  · have h0 := h
    injection hv with hA hn hcap
    subst hA
    rw [hn] at h0
    obtain ⟨e1, e2⟩ := spans_get hx
    refine ⟨g, rfl, ?_, ?_⟩
    · rw [World.ownsRow.cellAt h0 (2 * j) (by omega), List.getElem?_map, e1]; rfl
    · rw [World.ownsRow.cellAt h0 (2 * j + 1) (by omega), List.getElem?_map, e2]; rfl
set_option maxRecDepth 100000 in
set_option maxHeartbeats 8000000 in
theorem NsetSpans_walk (xs : List Int) (A0 : Option Addr) (c0 : Nat) (ys : List Int) (A1 : Option Addr) (c1 : Nat) (n : Int) (w : World) (hC : Kd.C (Kd.int .i64) w A0 xs.length xs) (hn : xs.length ≤ c0) (hC2 : Kd.C (Kd.int .i64) w A1 ys.length ys) (hn2 : ys.length ≤ c1) :
    Calls Try.prog 5 #[.slice A0 xs.length c0, .slice A1 ys.length c1, .int .i64 n] w fun e w' => e = .returned (.bool true) ∧ Below w.heap.size w w' := by
  have HC0 := Aside0.mk (And.intro hC hn)
  have HC1 := Aside0.mk (And.intro hC2 hn2)
  clear hC hn hC2 hn2
  have HU := Aside0.mk (union_spec (newS_wf (few xs)) (newS_wf (few ys))).1
  go_enter Try.func5, Try.ntmps5
  go_upto_region 5 with (first | (go_at_call 10; with_reducible refine (shown_calls _).mono ?_; rintro e wn ⟨rfl, hk⟩; have HS := Aside0.mk (Sets.nil hk); have HQ := Aside0.mk (Rows_.nil wn); clear hk) | (go_at_call 17; with_reducible refine (few_calls (Kd.C_below HC0.out.1 HS.out.below) HC0.out.2).mono ?_; rintro e wn ⟨rfl, _, hw2⟩; obtain rfl := hw2.symm) | (go_at_call 17; with_reducible refine (few_calls (Kd.C_below HC1.out.1 HS.out.below) HC1.out.2).mono ?_; rintro e wn ⟨rfl, _, hw2⟩; obtain rfl := hw2.symm) | (go_at_call 11; with_reducible refine (new_calls (few_C (Kd.C_below HC0.out.1 HS.out.below)) (few_le _)).mono ?_; rintro e wn ⟨ga, rfl, Rga, hM⟩; replace HQ := Aside0.mk (HQ.out.low hM.below); replace HS := Aside0.mk (HS.out.push hM); clear hM) | (go_at_call 11; with_reducible refine (new_calls (few_C (Kd.C_below HC1.out.1 HS.out.below)) (few_le _)).mono ?_; rintro e wn ⟨gb, rfl, Rgb, hM⟩; replace HQ := Aside0.mk (HQ.out.low hM.below); replace HS := Aside0.mk (HS.out.push hM); clear hM) | (go_at_call 22; with_reducible refine (union_calls (HS.out.set 0 rfl) HS.out.below.size (HS.out.wf 0 rfl) (HS.out.set 1 rfl) (HS.out.wf 1 rfl)).mono ?_; rintro e wn ⟨rfl, hL⟩; obtain ⟨Rg1, hS⟩ := HS.out.left 0 rfl hL (union_spec (HS.out.wf 0 rfl) (HS.out.wf 1 rfl)).1; replace HQ := Aside0.mk (Rows_.nil wn); replace HS := Aside0.mk hS; clear hL hS) | (go_at_call 14; with_reducible refine (spans_calls (HS.out.set 0 rfl) (HS.out.wf 0 rfl)).mono ?_; rintro e wn ⟨Aq, cq, rfl, hR, hk⟩; rw [spans_len] at hR ⊢; replace HS := Aside0.mk (HS.out.low hk); have HR := Aside0.mk (RowI.base (b2 := 0) hR (Nat.zero_le _)); clear hR hk))
  clear HQ
  generalize (unionS (newS (few xs)) (newS (few ys))).1 = u at HS HR HU ⊢
  have hl1 := lenS_le HU.out
  have hl2 := len_le_lenS HU.out
  have hl3 := hl1.2
  have hl4 := hl1.1
  have HLL := Aside0.mk (And.intro hl1 hl2)
  clear hl1
  go_upto_block 0 with (go_at_call 15; with_reducible refine (len_calls (HS.out.set 0 rfl) (HS.out.wf 0 rfl)).mono ?_; rintro e wn ⟨rfl, hk⟩; replace HS := Aside0.mk (HS.out.low hk); replace HR := Aside0.mk (HR.out.below hk); clear hk)
  clear hl2 hl3 hl4
  go_wp2_with fail
  go_loopw [12, 10, 11] (fun iv mv fv wx => ∃ (j : Nat), j ≤ u.length ∧ iv = .int .i64 ((2 * j : Nat) : Int) ∧ mv = .int .i64 (lenS (u.take j)) ∧ fv = .bool (hasS (u.take j) n) ∧ Hid (Sets w wx [(ga, Rg1, u), (gb, Rgb, newS (few ys))]) ∧ Hid (RowI wx 0 (.slice Aq (2 * u.length) cq) (spansS u))) (fun iv _ _ _ => 2 * u.length - (intOf iv).toNat)
  case atStart => exact ⟨0, Nat.zero_le _, rfl, rfl, rfl, HS.out, HR.out⟩
  case round =>
    clear HS HR
    obtain ⟨j, hj, rfl, rfl, rfl, hS, hR⟩ := hrel
    have HS : Aside0 (Sets w wr [(ga, Rg1, u), (gb, Rgb, newS (few ys))]) := Aside0.mk hS
    have HR : Aside0 (RowI wr 0 (.slice Aq (2 * u.length) cq) (spansS u)) := Aside0.mk hR
    clear hS hR
    by_cases hlt : j < u.length
    · obtain ⟨x, hx⟩ : ∃ x, u[j]? = some x := ⟨_, List.getElem?_eq_getElem hlt⟩
      obtain ⟨g, rfl, d1, d2⟩ := spans_cell HR.out j x hx
      have hl1 := len_take_add u j x hx
      have hw1 := lenS_le (HU.out.take j)
      have hw2 := lenS_le (HU.out.take (j + 1))
      have hxo := HU.out.ok x (List.mem_of_getElem? hx)
      have hu9 := len_le HU.out
      have hwa : IntKind.i64.wrap (lenS (u.take j) + x.hi) = lenS (u.take j) + x.hi := by rw [IntKind.wrap_i64]; omega
      have hwb : IntKind.i64.wrap (lenS (u.take j) + x.hi - x.lo) = lenS (u.take j) + x.hi - x.lo := by rw [IntKind.wrap_i64]; omega
      have hwc : IntKind.i64.wrap (lenS (u.take j) + x.hi - x.lo + 1) = lenS (u.take j) + x.hi - x.lo + 1 := by rw [IntKind.wrap_i64]; omega
      have hl2 : lenS (u.take j) + x.hi - x.lo + 1 = lenS (u.take (j + 1)) := by omega
      have HQ := Aside0.mk (And.intro hlt (And.intro hl2 (And.intro (has_take HU.out hx n) hu9)))
      have HXX := Aside0.mk hx
      have hle : decide (x.hi < x.lo) = false := decide_eq_false (by omega)
      generalize lenS (u.take j) = S0 at hwa hwb hwc HQ ⊢
      have hii : ∃ i : Nat, i = 2 * j := ⟨_, rfl⟩
      obtain ⟨i, hi⟩ := hii
      have HI := Aside0.mk hi
      rw [← hi] at d1 d2 ⊢
      have hi1 : (i : Int) + 1 < 2 * (u.length : Int) := by omega
      have hi0 : (i : Int) < 2 * (u.length : Int) := by omega
      have hi2 : (0 : Int) ≤ (i : Int) + 1 := by omega
      have hwi : IntKind.i64.wrap ((i : Int) + 1) = (i : Int) + 1 := by rw [IntKind.wrap_i64]; omega
      have hwj : IntKind.i64.wrap ((i : Int) + 2) = (i : Int) + 2 := by rw [IntKind.wrap_i64]; omega
      clear hl1 hw1 hw2 hxo hu9 hx hl2 hj
      by_cases hj0 : i = 0
      · have HK3 : Aside0 (decide (0 < i) = false) := Aside0.mk (decide_eq_false (by omega))
        clear hj0 hi
        go_upto_region 12 with (fail)
        refine wp_region_still_lit rfl (by kernel_rfl) ?_
        iterate 14 (refine wpStill_on (by rfl) (fun K hK => ?_); go_simp; refine hK _ ?_; clear hK K)
        iterate 11 (refine wpStill_off (by simp [Region.wanted, yielded, HK3.out]) ?_; simp only [Act.put, List.setIfInBounds_toArray, List.set_cons_zero, List.set_cons_succ])
        (refine wpStill_on (by rfl) (fun K hK => ?_); go_simp; refine hK _ ?_; clear hK K)
        (refine wpStill_on (by rfl) (fun K hK => ?_); go_simp; (try rw [if_neg (of_decide_eq_false HK3.out)]); (try go_simp); refine hK _ ?_; clear hK K)
        refine wpStill_nil ?_
        change Exit.then _ _ _ _ wr.drew
        have HSd := Aside0.mk (HS.out.low (below_drew (Below.refl wr.heap.size wr)))
        have HRd := Aside0.mk (HR.out.below (below_drew (Below.refl wr.heap.size wr)))
        generalize hfd : hasS (u.take j) n = fd at HQ ⊢
        clear hfd
        cases fd with
        | true =>
          have HN : Aside0 (hasS (u.take (j + 1)) n = true) := Aside0.mk (by rw [HQ.out.2.2.1]; rfl)
          go_wp2_with fail
          go_region
          have HS3 : Aside0 (Sets w wr.drew.drew [(ga, Rg1, u), (gb, Rgb, newS (few ys))]) := Aside0.mk (HSd.out.low (below_drew (Below.refl _ _)))
          have HR3 : Aside0 (RowI wr.drew.drew 0 (.slice (some ⟨g, 0, none⟩) (2 * u.length) cq) (spansS u)) := Aside0.mk (HRd.out.below (below_drew (Below.refl _ _)))
          go_wp2_with fail
          obtain ⟨hj1, hs1, _, hu9⟩ := HQ.out
          have hi := HI.out
          go_roundw
          case rel => exact ⟨j + 1, by omega, by go_num, by rw [hs1], by rw [HN.out] <;> simp [*], HS3.out, HR3.out⟩
          case measure => simp [intOf]; omega
        | false =>
          by_cases hlo : x.lo ≤ n
          · by_cases hhi : n ≤ x.hi
            · have HN : Aside0 (hasS (u.take (j + 1)) n = true) := Aside0.mk (by rw [HQ.out.2.2.1]; simp [hlo, hhi])
              go_wp2_with fail
              go_region
              have HS3 : Aside0 (Sets w wr.drew.drew [(ga, Rg1, u), (gb, Rgb, newS (few ys))]) := Aside0.mk (HSd.out.low (below_drew (Below.refl _ _)))
              have HR3 : Aside0 (RowI wr.drew.drew 0 (.slice (some ⟨g, 0, none⟩) (2 * u.length) cq) (spansS u)) := Aside0.mk (HRd.out.below (below_drew (Below.refl _ _)))
              go_wp2_with fail
              obtain ⟨hj1, hs1, _, hu9⟩ := HQ.out
              have hi := HI.out
              go_roundw
              case rel => exact ⟨j + 1, by omega, by go_num, by rw [hs1], by rw [HN.out] <;> simp [*], HS3.out, HR3.out⟩
              case measure => simp [intOf]; omega
            · have HN : Aside0 (hasS (u.take (j + 1)) n = false) := Aside0.mk (by rw [HQ.out.2.2.1]; simp [hhi])
              go_wp2_with fail
              go_region
              have HS3 : Aside0 (Sets w wr.drew.drew [(ga, Rg1, u), (gb, Rgb, newS (few ys))]) := Aside0.mk (HSd.out.low (below_drew (Below.refl _ _)))
              have HR3 : Aside0 (RowI wr.drew.drew 0 (.slice (some ⟨g, 0, none⟩) (2 * u.length) cq) (spansS u)) := Aside0.mk (HRd.out.below (below_drew (Below.refl _ _)))
              go_wp2_with fail
              obtain ⟨hj1, hs1, _, hu9⟩ := HQ.out
              have hi := HI.out
              go_roundw
              case rel => exact ⟨j + 1, by omega, by go_num, by rw [hs1], by rw [HN.out] <;> simp [*], HS3.out, HR3.out⟩
              case measure => simp [intOf]; omega
          · have HN : Aside0 (hasS (u.take (j + 1)) n = false) := Aside0.mk (by rw [HQ.out.2.2.1]; simp [hlo])
            go_wp2_with fail
            go_region
            have HS3 : Aside0 (Sets w wr.drew.drew [(ga, Rg1, u), (gb, Rgb, newS (few ys))]) := Aside0.mk (HSd.out.low (below_drew (Below.refl _ _)))
            have HR3 : Aside0 (RowI wr.drew.drew 0 (.slice (some ⟨g, 0, none⟩) (2 * u.length) cq) (spansS u)) := Aside0.mk (HRd.out.below (below_drew (Below.refl _ _)))
            go_wp2_with fail
            obtain ⟨hj1, hs1, _, hu9⟩ := HQ.out
            have hi := HI.out
            go_roundw
            case rel => exact ⟨j + 1, by omega, by go_num, by rw [hs1], by rw [HN.out] <;> simp [*], HS3.out, HR3.out⟩
            case measure => simp [intOf]; omega
      · obtain ⟨m, hm⟩ : ∃ m : Nat, j = m + 1 := ⟨j - 1, by omega⟩
        obtain ⟨y, hy⟩ : ∃ y, u[m]? = some y := ⟨_, List.getElem?_eq_getElem (by omega)⟩
        have hap := apart_at HU.out hy (by rw [← hm]; exact HXX.out)
        obtain ⟨g', he, _, d3⟩ := spans_cell HR.out m y hy
        injection he with he
        injection he with he _ _
        subst he
        have hyo := HU.out.ok y (List.mem_of_getElem? hy)
        obtain ⟨k, hk⟩ : ∃ k : Nat, i = k + 1 := ⟨i - 1, by omega⟩
        rw [show 2 * m + 1 = k by omega] at d3
        have hu9 := HQ.out.2.2.2
        have hwk2 : IntKind.i64.wrap ((k : Int) + 1 + 1) = (k : Int) + 1 + 1 := by rw [IntKind.wrap_i64]; omega
        have hwk : IntKind.i64.wrap (k : Int) = (k : Int) := by rw [IntKind.wrap_i64]; omega
        have hwy : IntKind.i64.wrap (y.hi + 1) = y.hi + 1 := by rw [IntKind.wrap_i64]; omega
        have hnl : decide (x.lo ≤ y.hi + 1) = false := decide_eq_false (by omega)
        have hk1 : (0 : Int) ≤ (k : Int) + 1 + 1 := by omega
        have hk3 : (k : Int) + 1 < 2 * (u.length : Int) := by omega
        have hk4 : (k : Int) + 1 + 1 < 2 * (u.length : Int) := by omega
        have hk2 : (0 : Int) ≤ (k : Int) + 1 := by omega
        have hk0 : (k : Int) < 2 * (u.length : Int) := by omega
        clear hj0 hi hy hyo hm hap
        subst hk
        have d4 : wr.cell? ⟨g, ((k : Int) + 1 + 1).toNat, none⟩ = some (.int .i64 x.hi) := by rw [show ((k : Int) + 1 + 1).toNat = k + 1 + 1 by omega]; exact d2
        go_upto_region 12 with (fail)
        refine wp_region_still_lit rfl (by kernel_rfl) ?_
        iterate 27 (refine wpStill_on (by rfl) (fun K hK => ?_); go_simp; refine hK _ ?_; clear hK K)
        refine wpStill_nil ?_
        change Exit.then _ _ _ _ wr.drew
        have HSd := Aside0.mk (HS.out.low (below_drew (Below.refl wr.heap.size wr)))
        have HRd := Aside0.mk (HR.out.below (below_drew (Below.refl wr.heap.size wr)))
        generalize hfd : hasS (u.take j) n = fd at HQ ⊢
        clear hfd
        cases fd with
        | true =>
          have HN : Aside0 (hasS (u.take (j + 1)) n = true) := Aside0.mk (by rw [HQ.out.2.2.1]; rfl)
          go_wp2_with fail
          go_region
          have HS3 : Aside0 (Sets w wr.drew.drew [(ga, Rg1, u), (gb, Rgb, newS (few ys))]) := Aside0.mk (HSd.out.low (below_drew (Below.refl _ _)))
          have HR3 : Aside0 (RowI wr.drew.drew 0 (.slice (some ⟨g, 0, none⟩) (2 * u.length) cq) (spansS u)) := Aside0.mk (HRd.out.below (below_drew (Below.refl _ _)))
          go_wp2_with fail
          obtain ⟨hj1, hs1, _, hu9⟩ := HQ.out
          have hi := HI.out
          go_roundw
          case rel => exact ⟨j + 1, by omega, by go_num, by rw [hs1], by rw [HN.out] <;> simp [*], HS3.out, HR3.out⟩
          case measure => simp [intOf]; omega
        | false =>
          by_cases hlo : x.lo ≤ n
          · by_cases hhi : n ≤ x.hi
            · have HN : Aside0 (hasS (u.take (j + 1)) n = true) := Aside0.mk (by rw [HQ.out.2.2.1]; simp [hlo, hhi])
              go_wp2_with fail
              go_region
              have HS3 : Aside0 (Sets w wr.drew.drew [(ga, Rg1, u), (gb, Rgb, newS (few ys))]) := Aside0.mk (HSd.out.low (below_drew (Below.refl _ _)))
              have HR3 : Aside0 (RowI wr.drew.drew 0 (.slice (some ⟨g, 0, none⟩) (2 * u.length) cq) (spansS u)) := Aside0.mk (HRd.out.below (below_drew (Below.refl _ _)))
              go_wp2_with fail
              obtain ⟨hj1, hs1, _, hu9⟩ := HQ.out
              have hi := HI.out
              go_roundw
              case rel => exact ⟨j + 1, by omega, by go_num, by rw [hs1], by rw [HN.out] <;> simp [*], HS3.out, HR3.out⟩
              case measure => simp [intOf]; omega
            · have HN : Aside0 (hasS (u.take (j + 1)) n = false) := Aside0.mk (by rw [HQ.out.2.2.1]; simp [hhi])
              go_wp2_with fail
              go_region
              have HS3 : Aside0 (Sets w wr.drew.drew [(ga, Rg1, u), (gb, Rgb, newS (few ys))]) := Aside0.mk (HSd.out.low (below_drew (Below.refl _ _)))
              have HR3 : Aside0 (RowI wr.drew.drew 0 (.slice (some ⟨g, 0, none⟩) (2 * u.length) cq) (spansS u)) := Aside0.mk (HRd.out.below (below_drew (Below.refl _ _)))
              go_wp2_with fail
              obtain ⟨hj1, hs1, _, hu9⟩ := HQ.out
              have hi := HI.out
              go_roundw
              case rel => exact ⟨j + 1, by omega, by go_num, by rw [hs1], by rw [HN.out] <;> simp [*], HS3.out, HR3.out⟩
              case measure => simp [intOf]; omega
          · have HN : Aside0 (hasS (u.take (j + 1)) n = false) := Aside0.mk (by rw [HQ.out.2.2.1]; simp [hlo])
            go_wp2_with fail
            go_region
            have HS3 : Aside0 (Sets w wr.drew.drew [(ga, Rg1, u), (gb, Rgb, newS (few ys))]) := Aside0.mk (HSd.out.low (below_drew (Below.refl _ _)))
            have HR3 : Aside0 (RowI wr.drew.drew 0 (.slice (some ⟨g, 0, none⟩) (2 * u.length) cq) (spansS u)) := Aside0.mk (HRd.out.below (below_drew (Below.refl _ _)))
            go_wp2_with fail
            obtain ⟨hj1, hs1, _, hu9⟩ := HQ.out
            have hi := HI.out
            go_roundw
            case rel => exact ⟨j + 1, by omega, by go_num, by rw [hs1], by rw [HN.out] <;> simp [*], HS3.out, HR3.out⟩
            case measure => simp [intOf]; omega
    · have hje : j = u.length := by omega
      subst hje
      rw [List.take_length]
      have HJ := Aside0.mk hj
      have hu9 := len_le HU.out
      clear hj hlt
      generalize hfd : hasS u n = fd
      have HF := Aside0.mk hfd
      clear hfd
      cases fd
      all_goals (
        go_wp2_with (first | (go_at_call 15; with_reducible refine (len_calls (HS.out.set 0 rfl) (HS.out.wf 0 rfl)).mono ?_; rintro e wn ⟨rfl, hk⟩; replace HS := Aside0.mk (HS.out.low hk); clear hk) | (go_at_call 16; with_reducible refine (has_calls (HS.out.set 0 rfl) (HS.out.wf 0 rfl) n).mono ?_; rintro e wn ⟨rfl, hk⟩; rw [HF.out]; replace HS := Aside0.mk (HS.out.low hk); clear hk))
        go_ret
        exact ⟨rfl, HS.out.below⟩)
end Go.Proofs.Ytmcecmcnbhhniaa.G
