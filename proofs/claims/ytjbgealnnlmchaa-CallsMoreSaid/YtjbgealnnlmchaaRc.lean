/- Does a function call itself: calls.Rings' closure and slices.ContainsFunc with it. Each contract names its state. -/
import Derived.Test.YtjbgealnnlmchaaRb
import Derived.Test.YtjbgealnnlmchaaTd
set_option linter.unusedVariables false
set_option linter.unusedSimpArgs false
namespace Go.Proofs.Ytjbgealnnlmchaa.G
open Go.RowKit Go.Proofs.Ytjbgealnnlmchaa.B Go.Proofs.YtjbgealnnlmchaaW.PrintWords Go.Proofs.YtjbgealnnlmchaaW.PrintLast Go.Proofs.YtjbgealnnlmchaaW.PrintMore

set_option maxHeartbeats 2000000 in
theorem self_c {W : World} {g : Nat} {f : Int} (h : W.heap[g]? = some (.cells #[.int .i64 f] 3 (0, 0))) (e : S41) :
    Calls Try.prog 26 #[.agg #[.int .i64 e.f0, .int .i64 e.f1, .int .i64 e.f2], .pointer (some ⟨g, 0, none⟩)] W fun r w' => r = .returned (.bool (selfP f e)) ∧ Below W.heap.size W w' := by
  have hbx := blk_new W (.cells #[.int .i64 e.f0, .int .i64 e.f1, .int .i64 e.f2] 41)
  have hb := blk_alloc h (.cells #[.int .i64 e.f0, .int .i64 e.f1, .int .i64 e.f2] 41)
  have q0 : (W.alloc (.cells #[.int .i64 e.f0, .int .i64 e.f1, .int .i64 e.f2] 41)).cell? ⟨W.heap.size, 0, none⟩ = some (.int .i64 e.f0) := (blk_cell hbx 0).trans rfl
  have q2 : (W.alloc (.cells #[.int .i64 e.f0, .int .i64 e.f1, .int .i64 e.f2] 41)).cell? ⟨W.heap.size, 2, none⟩ = some (.int .i64 e.f2) := (blk_cell hbx 2).trans rfl
  have c0 : (W.alloc (.cells #[.int .i64 e.f0, .int .i64 e.f1, .int .i64 e.f2] 41)).cell? ⟨g, 0, none⟩ = some (.int .i64 f) := (blk_cell hb 0).trans rfl
  have HB := Aside0.mk (below_alloc (Below.refl W.heap.size W) (.cells #[.int .i64 e.f0, .int .i64 e.f1, .int .i64 e.f2] 41))
  clear hbx hb h
  obtain ⟨b, hb⟩ : ∃ b, selfP f e = b := ⟨_, rfl⟩
  rw [hb]
  have HS := Aside0.mk hb
  clear hb
  go_enter Try.func26, Try.ntmps26
  go_upto_region 1 with (fail)
  generalize W.alloc (.cells #[.int .i64 e.f0, .int .i64 e.f1, .int .i64 e.f2] 41) = W1 at q0 q2 c0 HB ⊢
  generalize W.heap.size = z at q0 q2 ⊢
  have hs := HS.out
  unfold selfP at hs
  generalize e.f0 = x0 at q0 hs ⊢
  generalize e.f2 = x2 at q2 hs ⊢
  by_cases c1 : x0 = f
  · by_cases c2 : x2 = f
    · subst c1
      subst c2
      rw [decide_eq_true rfl, Bool.and_true] at hs
      have HS2 := Aside0.mk hs
      clear hs
      go_wp2_with fail
      go_ret
      exact ⟨by rw [← HS2.out]; rfl, HB.out⟩
    · have e1 : (x2 == f) = false := beq_eq_false_iff_ne.mpr c2
      rw [decide_eq_false c2, Bool.and_false] at hs
      have HS2 := Aside0.mk hs
      subst c1
      clear hs c2
      go_wp2_with fail
      go_ret
      exact ⟨by rw [← HS2.out]; rfl, HB.out⟩
  · have e1 : (x0 == f) = false := beq_eq_false_iff_ne.mpr c1
    rw [decide_eq_false c1, Bool.false_and] at hs
    have HS2 := Aside0.mk hs
    clear hs c1
    go_wp2_with fail
    go_ret
    exact ⟨by rw [← HS2.out]; rfl, HB.out⟩
set_option maxHeartbeats 4000000 in
theorem index26 (p1 : Value) (p : S41 → Bool) {A : Option Addr} {c : Nat} {l : List S41} (w : World) (hC : Kd.C k41 w A l.length l) (hl : l.length ≤ 1000000)
    (hf : ∀ (W : World) (e : S41), Below w.heap.size w W → Calls Try.prog 26 #[.agg #[.int .i64 e.f0, .int .i64 e.f1, .int .i64 e.f2], p1] W fun r w' => r = .returned (.bool (p e)) ∧ Below W.heap.size W w') :
    Calls Try.prog 36 #[.slice A l.length c, .func (.func 26) #[] #[p1]] w fun e w' => (∃ i : Int, e = .returned (.int .i64 i) ∧ decide (0 ≤ i) = l.any p) ∧ Below w.heap.size w w' := by
  have HF := Aside0.mk hf
  have HC := Aside0.mk hC
  clear hf hC
  go_enter Try.func36, Try.ntmps36
  go_upto_block 0 with (fail)
  go_wp2_with fail
  go_loopw [8] (fun iv wx => ∃ (i : Nat), i ≤ l.length ∧ iv = .int .i64 (i : Int) ∧ Hid (l.any p = (l.drop i).any p) ∧ Hid (Below w.heap.size w wx)) (fun iv _ => l.length - (intOf iv).toNat)
  case atStart => exact ⟨0, Nat.zero_le _, rfl, rfl, Below.refl _ _⟩
  case round =>
    obtain ⟨i, hi, rfl, hp, hB⟩ := hrel
    have HP := Aside0.mk (show l.any p = (l.drop i).any p from hp)
    have HB : Aside0 (Below w.heap.size w wr) := Aside0.mk hB
    clear hp hB
    by_cases hlt : (i : Int) < (l.length : Int)
    · have hi1 : i < l.length := by omega
      have hi0 : (0 : Int) ≤ (i : Int) := Int.natCast_nonneg i
      obtain ⟨ad, hA, q0, q1, q2⟩ := at_T41 (Kd.C_below HC.out HB.out) (i : Int) hi0 hlt
      rw [Int.toNat_natCast, rd33_at l i hi1] at q0 q1 q2
      have HD : Aside0 ((l.drop i).any p = (p l[i] || (l.drop (i + 1)).any p)) := Aside0.mk (by
        rw [List.drop_eq_getElem_cons hi1, List.any_cons])
      have hwi : IntKind.i64.wrap ((i : Int) + 1) = (i : Int) + 1 := by rw [IntKind.wrap_i64]; omega
      generalize l[i] = x at q0 q1 q2 HD
      subst hA
      cases hpx : p x with
      | true =>
        have HPX := Aside0.mk hpx
        clear hpx
        go_wp2_with (go_at_call 26; with_reducible refine (HF.out _ x HB.out).mono ?_; rintro e w1 ⟨rfl, hk⟩; rw [HPX.out]; replace HB := Aside0.mk (below_step HB.out hk); clear hk)
        go_ret
        exact ⟨⟨_, rfl, by rw [HP.out, HD.out, HPX.out]; simp⟩, HB.out⟩
      | false =>
        have HPX := Aside0.mk hpx
        clear hpx
        go_wp2_with (go_at_call 26; with_reducible refine (HF.out _ x HB.out).mono ?_; rintro e w1 ⟨rfl, hk⟩; rw [HPX.out]; replace HB := Aside0.mk (below_step HB.out hk); clear hk)
        go_roundw
        case rel => exact ⟨i + 1, by omega, by go_num, by show _ = _; rw [HP.out, HD.out, HPX.out]; rfl, HB.out⟩
        case measure => simp [intOf]; omega
    · have hn : Aside0 (l.any p = false) := Aside0.mk (by rw [HP.out, List.drop_eq_nil_of_le (by omega)]; rfl)
      go_wp2_with fail
      go_ret
      exact ⟨⟨_, rfl, by rw [hn.out]; rfl⟩, HB.out⟩
theorem contains26 (p1 : Value) (p : S41 → Bool) {A : Option Addr} {c : Nat} {l : List S41} (w : World) (hC : Kd.C k41 w A l.length l) (hl : l.length ≤ 1000000)
    (hf : ∀ (W : World) (e : S41), Below w.heap.size w W → Calls Try.prog 26 #[.agg #[.int .i64 e.f0, .int .i64 e.f1, .int .i64 e.f2], p1] W fun r w' => r = .returned (.bool (p e)) ∧ Below W.heap.size W w') :
    Calls Try.prog 25 #[.slice A l.length c, .func (.func 26) #[] #[p1]] w fun e w' => e = .returned (.bool (l.any p)) ∧ Below w.heap.size w w' := by
  have HI := Aside0.mk (index26 p1 p (c := c) w hC hl hf)
  clear hf hC
  go_enter Try.func25, Try.ntmps25
  go_wp2_with (go_at_call 36; with_reducible refine HI.out.mono ?_; rintro e w1 ⟨⟨i, rfl, hi⟩, hk⟩; have HB := Aside0.mk hk; have HII := Aside0.mk hi; clear hk hi)
  go_ret
  refine ⟨?_, HB.out⟩
  rw [← HII.out]
  rfl
/-- Any of the calls is from f to itself. -/
theorem self_any (W : World) (g : Nat) (f : Int) (A : Option Addr) (c : Nat) (l : List S41) (h : Edg W A l c) (hg : W.heap[g]? = some (.cells #[.int .i64 f] 3 (0, 0))) (b : Bool) (hb : l.any (selfP f) = b) :
    Calls Try.prog 25 #[.slice A l.length c, .func (.func 26) #[] #[.pointer (some ⟨g, 0, none⟩)]] W fun e w' => e = .returned (.bool b) ∧ Below W.heap.size W w' := by
  subst hb
  exact contains26 _ (selfP f) W h.C h.len (fun W2 e hB => self_c (blk_below hg hB) e)
end Go.Proofs.Ytjbgealnnlmchaa.G
