/- The reference's SameT is sameT. The arguments read as types. -/
import Derived.Test.YtmmgdifjiapbmaaHf
set_option linter.unusedVariables false
set_option linter.unusedSimpArgs false
namespace Go.Proofs.Ytmmgdifjiapbmaa.G
open Go.RowKit Go.Proofs.Ytmmgdifjiapbmaa.B Go.Proofs.YtmmgdifjiapbmaaW.PrintWords Go.Proofs.YtmmgdifjiapbmaaW.PrintLast Go.Proofs.YtmmgdifjiapbmaaW.PrintMore


theorem samer_step (n : Nat) (ih : ∀ (t u : S24) (A : Option Addr) (c : Nat) (B : Option Addr) (d : Nat) (w : World), SizeOf.sizeOf t < n → Kd.C k24 w A t.f3.length t.f3 → t.f3.length ≤ c → Kd.C k24 w B u.f3.length u.f3 → u.f3.length ≤ d →
      Calls Try.prog 12 #[.agg #[.int .i64 t.f0, .int .i64 t.f1, .string t.f2, .slice A t.f3.length c], .agg #[.int .i64 u.f0, .int .i64 u.f1, .string u.f2, .slice B u.f3.length d]] w fun e w' => e = .returned (.bool (sameT t u)) ∧ Below w.heap.size w w')
    (t u : S24) (A : Option Addr) (c : Nat) (B : Option Addr) (d : Nat) (w : World) (hn : SizeOf.sizeOf t ≤ n) (hC : Kd.C k24 w A t.f3.length t.f3) (hc : t.f3.length ≤ c) (hD : Kd.C k24 w B u.f3.length u.f3) (hd : u.f3.length ≤ d) :
      Calls Try.prog 12 #[.agg #[.int .i64 t.f0, .int .i64 t.f1, .string t.f2, .slice A t.f3.length c], .agg #[.int .i64 u.f0, .int .i64 u.f1, .string u.f2, .slice B u.f3.length d]] w fun e w' => e = .returned (.bool (sameT t u)) ∧ Below w.heap.size w w' := by
  by_cases h0 : t.f0 = u.f0
  case neg =>
    have hr : sameT t u = false := by cases t; cases u; simp [sameT]; intro h; exact absurd h h0
    rw [hr]
    have h0b : (t.f0 != u.f0) = true := bne_iff_ne.mpr h0
    clear h0 hr
    go_enter Try.func12, Try.ntmps12
    go_wp2_with fail
    go_ret
    exact ⟨rfl, ((Below.refl _ _).alloc (Nat.le_refl _) _).alloc (by simp) _⟩
  by_cases h1 : t.f1 = u.f1
  case neg =>
    have hr : sameT t u = false := by cases t; cases u; simp [sameT]; intro _ h; exact absurd h h1
    rw [hr]
    have h0b : (t.f0 != u.f0) = false := bne_eq_false_iff_eq.mpr h0
    have h1b : (t.f1 != u.f1) = true := bne_iff_ne.mpr h1
    clear h0 h1 hr
    go_enter Try.func12, Try.ntmps12
    go_wp2_with fail
    go_ret
    exact ⟨rfl, ((Below.refl _ _).alloc (Nat.le_refl _) _).alloc (by simp) _⟩
  by_cases h2 : t.f2.toList = u.f2.toList
  case neg =>
    have hr : sameT t u = false := by cases t; cases u; simp [sameT]; intro _ _ h; exact absurd h h2
    rw [hr]
    have h0b : (t.f0 != u.f0) = false := bne_eq_false_iff_eq.mpr h0
    have h1b : (t.f1 != u.f1) = false := bne_eq_false_iff_eq.mpr h1
    have h2b : (t.f2.toList == u.f2.toList) = false := beq_eq_false_iff_ne.mpr h2
    clear h0 h1 h2 hr
    go_enter Try.func12, Try.ntmps12
    go_wp2_with fail
    go_ret
    exact ⟨rfl, ((Below.refl _ _).alloc (Nat.le_refl _) _).alloc (by simp) _⟩
  by_cases h3 : t.f3.length = u.f3.length
  case neg =>
    have hr : sameT t u = false := by
      cases t; cases u; simp [sameT]; intro _ _ _
      rw [sameL_iff]; simp; intro h; exact absurd h h3
    rw [hr]
    have h0b : (t.f0 != u.f0) = false := bne_eq_false_iff_eq.mpr h0
    have h1b : (t.f1 != u.f1) = false := bne_eq_false_iff_eq.mpr h1
    have h2b : (t.f2.toList == u.f2.toList) = true := beq_iff_eq.mpr h2
    have h3b : (t.f3.length == u.f3.length) = false := beq_eq_false_iff_ne.mpr h3
    have h3c : (t.f3.length != u.f3.length) = true := bne_iff_ne.mpr h3
    have h3d : ((t.f3.length : Int) != (u.f3.length : Int)) = true := bne_iff_ne.mpr (by omega)
    clear h0 h1 h2 h3 hr
    go_enter Try.func12, Try.ntmps12
    go_wp2_with fail
    go_ret
    exact ⟨rfl, ((Below.refl _ _).alloc (Nat.le_refl _) _).alloc (by simp) _⟩
  have hr : sameT t u = decide (∀ k, k < t.f3.length → sameT (rd_T24 t.f3 k) (rd_T24 u.f3 k) = true) := by
    obtain ⟨a, b, cc, l⟩ := t
    obtain ⟨a', b', c', l'⟩ := u
    simp only at h0 h1 h2 h3
    simp only [sameT, h0, h1, h2, beq_self_eq_true, Bool.true_and]
    rw [sameL_iff, h3]
    simp
  rw [hr]
  have h0b : (t.f0 != u.f0) = false := bne_eq_false_iff_eq.mpr h0
  have h1b : (t.f1 != u.f1) = false := bne_eq_false_iff_eq.mpr h1
  have h2b : (t.f2.toList == u.f2.toList) = true := beq_iff_eq.mpr h2
  have h3b : (t.f3.length == u.f3.length) = true := beq_iff_eq.mpr h3
  have h3c : (t.f3.length != u.f3.length) = false := bne_eq_false_iff_eq.mpr h3
  have h3d : ((t.f3.length : Int) != (u.f3.length : Int)) = false := bne_eq_false_iff_eq.mpr (by omega)
  have H3 := Aside0.mk h3
  clear h0 h1 h2 h3 hr
  have HC := Aside0.mk hC
  have HD := Aside0.mk hD
  have IH := Aside0.mk ih
  clear hC hD ih
  go_enter Try.func12, Try.ntmps12
  go_wp2_with fail
  have G3 := Aside0.mk (blk_alloc (blk_new w (Obj.cells #[.int .i64 t.f0, .int .i64 t.f1, .string t.f2, .slice A t.f3.length c] 24)) (Obj.cells #[.int .i64 u.f0, .int .i64 u.f1, .string u.f2, .slice B u.f3.length d] 24))
  have G4 := Aside0.mk (blk_at_ (W := w.alloc (Obj.cells #[.int .i64 t.f0, .int .i64 t.f1, .string t.f2, .slice A t.f3.length c] 24)) (n := w.heap.size + 1) (Obj.cells #[.int .i64 u.f0, .int .i64 u.f1, .string u.f2, .slice B u.f3.length d] 24) (by simp))
  have GB := Aside0.mk (show Below w.heap.size w ((w.alloc (Obj.cells #[.int .i64 t.f0, .int .i64 t.f1, .string t.f2, .slice A t.f3.length c] 24)).alloc (Obj.cells #[.int .i64 u.f0, .int .i64 u.f1, .string u.f2, .slice B u.f3.length d] 24)) from ((Below.refl _ _).alloc (Nat.le_refl _) _).alloc (by simp) _)
  generalize (w.alloc (Obj.cells #[.int .i64 t.f0, .int .i64 t.f1, .string t.f2, .slice A t.f3.length c] 24)).alloc (Obj.cells #[.int .i64 u.f0, .int .i64 u.f1, .string u.f2, .slice B u.f3.length d] 24) = W at G3 G4 GB ⊢
  have hm := HC.out.2.1
  have hm2 := HD.out.2.1
  go_loopw [5] (fun i wr => ∃ k : Nat, k ≤ t.f3.length ∧ i = .int .i64 k ∧ Hid (∀ j, j < k → sameT (rd_T24 t.f3 j) (rd_T24 u.f3 j) = true) ∧ Hid (wr.heap[w.heap.size]? = some (.cells #[.int .i64 t.f0, .int .i64 t.f1, .string t.f2, .slice A t.f3.length c] 24 (0, 0))) ∧ Hid (wr.heap[w.heap.size + 1]? = some (.cells #[.int .i64 u.f0, .int .i64 u.f1, .string u.f2, .slice B u.f3.length d] 24 (0, 0))) ∧ Hid (Below w.heap.size w wr)) (fun i _ => t.f3.length - (intOf i).toNat)
  case atStart => exact ⟨0, Nat.zero_le _, rfl, by intro j hj; omega, G3.out, G4.out, GB.out⟩
  case round =>
    clear G3 G4 GB
    obtain ⟨k, hk, rfl, hq, g3, g4, gb⟩ := hrel
    have c3 := cell4 g3.out
    have c4 := cell4 g4.out
    by_cases hlt : k < t.f3.length
    · have hltu : k < u.f3.length := by have := H3.out; omega
      obtain ⟨ad, A3, c3, e, hx0, hx1, hx2, hx3, hl, hi⟩ := at_T24 HC.out k (by omega) (by omega)
      rw [Int.toNat_natCast] at hx0 hx1 hx2 hx3
      obtain ⟨ae, B3, d3, e2, hy0, hy1, hy2, hy3, hl2, hi2⟩ := at_T24 HD.out k (by omega) (by omega)
      rw [Int.toNat_natCast] at hy0 hy1 hy2 hy3
      replace hx0 := Kd.cell_heap gb.out.block hx0
      replace hx1 := Kd.cell_heap gb.out.block hx1
      replace hx2 := Kd.cell_heap gb.out.block hx2
      replace hx3 := Kd.cell_heap gb.out.block hx3
      replace hy0 := Kd.cell_heap gb.out.block hy0
      replace hy1 := Kd.cell_heap gb.out.block hy1
      replace hy2 := Kd.cell_heap gb.out.block hy2
      replace hy3 := Kd.cell_heap gb.out.block hy3
      cases e
      cases e2
      have HI := Aside0.mk hi
      have HL := Aside0.mk hl
      have HI2 := Aside0.mk hi2
      have HL2 := Aside0.mk hl2
      clear hi hl hi2 hl2
      go_wp2_with fail
      go_still_tail 10, (by kernel_rfl)
      change wpList _ _ _ _ _ wr.drew
      go_wp2_with fail
      refine (IH.out (rd_T24 t.f3 k) (rd_T24 u.f3 k) _ _ _ _ wr.drew (Nat.lt_of_lt_of_le (rd_size t k hlt) hn) (Kd.C_drew (Kd.C_below HI.out gb.out)) HL.out (Kd.C_drew (Kd.C_below HI2.out gb.out)) HL2.out).mono ?_
      rintro e w2 ⟨rfl, hb2⟩
      have HB2 := Aside0.mk hb2
      clear hb2
      cases hqk : sameT (rd_T24 t.f3 k) (rd_T24 u.f3 k) with
      | true =>
        have HQ := Aside0.mk hqk
        clear hqk
        go_wp2_with fail
        go_roundw
        case rel =>
          refine ⟨k + 1, by omega, by go_num, fun j hj => ?_, blk_below (blk_drew g3.out) HB2.out, blk_below (blk_drew g4.out) HB2.out, below_step (below_drew gb.out) HB2.out⟩
          rcases Nat.lt_succ_iff_lt_or_eq.1 hj with h | h
          · exact hq.out j h
          · rw [h]; exact HQ.out
        case measure => simp [intOf]; omega
      | false =>
        have HQ := Aside0.mk hqk
        clear hqk
        go_wp2_with fail
        go_ret
        exact ⟨ret_bool (decide_eq_false (fun h => by have := h k hlt; rw [HQ.out] at this; cases this)).symm, below_step (below_drew gb.out) HB2.out⟩
    · obtain rfl : k = t.f3.length := by omega
      go_wp2_with fail
      go_ret
      exact ⟨ret_bool (decide_eq_true hq.out).symm, gb⟩
theorem samer_calls (t u : S24) (A : Option Addr) (c : Nat) (B : Option Addr) (d : Nat) (w : World) (hC : Kd.C k24 w A t.f3.length t.f3) (hc : t.f3.length ≤ c) (hD : Kd.C k24 w B u.f3.length u.f3) (hd : u.f3.length ≤ d) :
      Calls Try.prog 12 #[.agg #[.int .i64 t.f0, .int .i64 t.f1, .string t.f2, .slice A t.f3.length c], .agg #[.int .i64 u.f0, .int .i64 u.f1, .string u.f2, .slice B u.f3.length d]] w fun e w' => e = .returned (.bool (sameT t u)) ∧ Below w.heap.size w w' := by
  have H : ∀ (n : Nat) (t u : S24) (A : Option Addr) (c : Nat) (B : Option Addr) (d : Nat) (w : World), SizeOf.sizeOf t < n → Kd.C k24 w A t.f3.length t.f3 → t.f3.length ≤ c → Kd.C k24 w B u.f3.length u.f3 → u.f3.length ≤ d →
      Calls Try.prog 12 #[.agg #[.int .i64 t.f0, .int .i64 t.f1, .string t.f2, .slice A t.f3.length c], .agg #[.int .i64 u.f0, .int .i64 u.f1, .string u.f2, .slice B u.f3.length d]] w fun e w' => e = .returned (.bool (sameT t u)) ∧ Below w.heap.size w w' := by
    intro n
    induction n with
    | zero => intro t u A c B d w h; omega
    | succ n ih => intro t u A c B d w h hC hc hD hd; exact samer_step n ih t u A c B d w (by omega) hC hc hD hd
  exact H (SizeOf.sizeOf t + 1) t u A c B d w (by omega) hC hc hD hd
end Go.Proofs.Ytmmgdifjiapbmaa.G
