/- ctype.all over a list that is read: whether a callback holds of all, with whatever the callback keeps. No condition. -/
import Derived.Test.YtmmgdifjiapbmaaGx0
import Derived.Test.YtmmgdifjiapbmaaBase
set_option linter.unusedVariables false
set_option linter.unusedSimpArgs false
namespace Go.Proofs.Ytmmgdifjiapbmaa.G
open Go.RowKit Go.Proofs.Ytmmgdifjiapbmaa.B Go.Proofs.YtmmgdifjiapbmaaW.PrintWords Go.Proofs.YtmmgdifjiapbmaaW.PrintLast Go.Proofs.YtmmgdifjiapbmaaW.PrintMore


theorem k24_heap : Kd.Heap k24 := Kd.heap_fix (fun _ h_ => Kd.heap_iso _ (Kd.heap_pair (Kd.heap_int .i64) (Kd.heap_pair (Kd.heap_int .i64) (Kd.heap_pair Kd.heap_string (Kd.heap_slice 24 h_)))))
set_option maxHeartbeats 1000000 in
/-- The list is read in an elder world w0, of which nothing is turned. -/
theorem all_calls (g : Nat) (cap : Array Value) (l : List S24) (A : Option Addr) (c : Nat) (w0 w : World) (Inv : Nat → World → Prop) (q : Nat → Bool)
    (hg : ∀ args w, (callFunc g args).run Try.prog w = .ok (.enter g args) w)
    (h0 : Inv 0 w)
    (hC : Kd.C k24 w0 A l.length l)
    (hI0 : ∀ k w1, Inv k w1 → ∀ b, b < w0.heap.size → w1.heap[b]? = w0.heap[b]?)
    (hB : ∀ k w1 w2, Inv k w1 → Below w1.heap.size w1 w2 → Inv k w2)
    (hs : ∀ k w1 A3 c3, k < l.length → Inv k w1 → Kd.C k24 w0 A3 (rd_T24 l k).f3.length (rd_T24 l k).f3 → (rd_T24 l k).f3.length ≤ c3 → Calls Try.prog g (#[.agg #[.int .i64 (rd_T24 l k).f0, .int .i64 (rd_T24 l k).f1, .string (rd_T24 l k).f2, .slice A3 (rd_T24 l k).f3.length c3]] ++ cap) w1 fun e w2 => e = .returned (.bool (q k)) ∧ Inv (k + 1) w2) :
    Calls Try.prog 26 #[.slice A l.length c, .func (.func g) #[] cap] w fun e w' => e = .returned (.bool (decide (∀ k, k < l.length → q k = true))) ∧ ∃ k, Inv k w' := by
  have HC := Aside0.mk hC
  have HB := Aside0.mk hB
  have HS := Aside0.mk hs
  have HI0 := Aside0.mk hI0
  have hm : l.length ≤ 9223372036854775807 := hC.2.1
  clear hC hB hs hI0
  go_enter Try.func26, Try.ntmps26
  go_wp2_with fail
  go_loopw [9] (fun i wr => ∃ k : Nat, k ≤ l.length ∧ i = .int .i64 k ∧ Hid (∀ j, j < k → q j = true) ∧ Hid (Inv k wr)) (fun i _ => l.length - (intOf i).toNat)
  case atStart => exact ⟨0, Nat.zero_le _, rfl, by intro j hj; omega, h0⟩
  case round =>
    obtain ⟨k, hk, rfl, hq, hI⟩ := hrel
    by_cases hlt : k < l.length
    · obtain ⟨ad, A3, c3, e, hx0, hx1, hx2, hx3, hl, hi⟩ := at_T24 HC.out k (by omega) (by omega)
      rw [Int.toNat_natCast] at hx0 hx1 hx2 hx3
      replace hx0 := Kd.cell_heap (HI0.out k wr hI) hx0
      replace hx1 := Kd.cell_heap (HI0.out k wr hI) hx1
      replace hx2 := Kd.cell_heap (HI0.out k wr hI) hx2
      replace hx3 := Kd.cell_heap (HI0.out k wr hI) hx3
      cases e
      have HI := Aside0.mk hi
      have HL := Aside0.mk hl
      clear hi hl
      go_wp2_with fail
      refine (HS.out k _ A3 c3 hlt (HB.out k wr _ hI ?_) HI.out HL.out).mono ?_
      · exact (Below.refl _ _).alloc (Nat.le_refl _) _
      rintro e w2 ⟨rfl, hI2⟩
      have HI2 := Aside0.mk hI2
      clear hI2
      cases hqk : q k with
      | true =>
        have HQ := Aside0.mk hqk
        clear hqk
        go_wp2_with fail
        go_roundw
        case rel =>
          refine ⟨k + 1, by omega, by go_num, fun j hj => ?_, HI2.out⟩
          rcases Nat.lt_succ_iff_lt_or_eq.1 hj with h | h
          · exact hq.out j h
          · rw [h]; exact HQ.out
        case measure => simp [intOf]; omega
      | false =>
        have HQ := Aside0.mk hqk
        clear hqk
        go_wp2_with fail
        go_ret
        exact ⟨ret_bool (decide_eq_false (fun h => by have := h k hlt; rw [HQ.out] at this; cases this)).symm, k + 1, HI2.out⟩
    · obtain rfl : k = l.length := by omega
      go_wp2_with fail
      go_ret
      exact ⟨ret_bool (decide_eq_true hq.out).symm, l.length, hI⟩
theorem rd_mem (l : List S24) (k : Nat) (hk : k < l.length) : rd_T24 l k ∈ l := by
  unfold rd_T24
  rw [Int.toNat_natCast, List.getD_eq_getElem?_getD, List.getElem?_eq_getElem hk]
  exact List.getElem_mem hk
theorem rd_size (t : S24) (k : Nat) (hk : k < t.f3.length) : SizeOf.sizeOf (rd_T24 t.f3 k) < SizeOf.sizeOf t := by
  have h := List.sizeOf_lt_of_mem (rd_mem t.f3 k hk)
  obtain ⟨a, b, c, l⟩ := t
  simp only [S24.mk.sizeOf_spec]
  simp only at h
  omega
end Go.Proofs.Ytmmgdifjiapbmaa.G
