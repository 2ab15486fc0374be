/- The reference's functions as calls, on rows of ints; few. Each contract names its state. -/
import Derived.Test.YtmcecmcnbhhniaaNg
import Derived.Test.YtmcecmcnbhhniaaPd
set_option linter.unusedVariables false
set_option linter.unusedSimpArgs false
namespace Go.Proofs.Ytmcecmcnbhhniaa.G
open Go.RowKit Go.Proofs.Ytmcecmcnbhhniaa.B Go.Proofs.YtmcecmcnbhhniaaW.PrintWords Go.Proofs.YtmcecmcnbhhniaaW.PrintLast Go.Proofs.YtmcecmcnbhhniaaW.PrintMore

theorem RowI.toR {W : World} {b : Nat} {v : Value} {l : List Int} (h : RowI W b v l) (ok : Nat → Prop) (hok : ∀ k, v.ownBlock = some k → ok k) : Kd.R (Kd.int .i64) 3 W b ok v l := Kd.R_of_own (enc := Value.int .i64) (h1 := fun _ => rfl) h hok
theorem RowI.ofR {W : World} {b : Nat} {v : Value} {l : List Int} {ok : Nat → Prop} (h : Kd.R (Kd.int .i64) 3 W b ok v l) : RowI W b v l := Kd.own_of_R (enc := Value.int .i64) (h1 := fun _ => rfl) h
theorem RowI.base {W : World} {b b2 : Nat} {v : Value} {l : List Int} (h : RowI W b v l) (hb : b2 ≤ b) : RowI W b2 v l := by
  refine ⟨h.1, ?_⟩
  rcases h.2 with h1 | ⟨g, cap, cur, hv, hg, hh, hc, hm, hs, ht⟩
  · exact .inl h1
  · exact .inr ⟨g, cap, cur, hv, Nat.le_trans hb hg, hh, hc, hm, hs, ht⟩
theorem RowI.typed {W : World} {b : Nat} {v : Value} {l : List Int} (h : RowI W b v l) (k : Nat) (hk : v.ownBlock = some k) : ∃ c, W.heap[k]? = some (.cells c 3 (0, 0)) ∧ b ≤ k := by
  obtain ⟨c, hc⟩ := own_typed h k hk
  exact ⟨c, hc, own_base h k hk⟩
theorem r_add {w0 W : World} {v : Value} {l : List Sp} (hB : Below w0.heap.size w0 W) (hr : RowI W w0.heap.size v (listS l)) (hw : WF l) (n : Int) :
    Calls Try.prog 18 #[v, .int .i64 n] W fun e w' => ∃ A c, e = .returned (.tuple #[.slice A (listS (addS l n).1).length c, .bool (addS l n).2]) ∧ RowI w' w0.heap.size (.slice A (listS (addS l n).1).length c) (listS (addS l n).1) ∧ Below w0.heap.size w0 w' ∧ Kp W w' (fun k => v.ownBlock = some k) := by
  refine (crosstreeref13_Add.calls 9000000 (fun k => v.ownBlock = some k) v (listS l) n _ _ w0 W hB (hr.toR _ (fun k hk => hk)) (refAdd hw n 9000000 (by have := listS_len_le hw; omega))).mono ?_
  rintro e w' ⟨v', rfl, h1, h2, h3⟩
  have h4 := RowI.ofR h1
  obtain ⟨A, c, rfl, _, _⟩ := h4.form
  exact ⟨A, c, rfl, h4, h2, ⟨h2.os.trans hB.os.symm, h2.tape.trans hB.tape.symm, h2.output.trans hB.output.symm, h3.1, h3.2⟩⟩
theorem r_spans {W : World} {A : Option Addr} {c : Nat} {l : List Sp} (hC : Kd.C (Kd.int .i64) W A (listS l).length (listS l)) (hc : (listS l).length ≤ c) (hw : WF l) :
    Calls Try.prog 20 #[.slice A (listS l).length c] W fun e w' => ∃ A2 c2, e = .returned (.slice A2 (spansS l).length c2) ∧ RowI w' W.heap.size (.slice A2 (spansS l).length c2) (spansS l) ∧ Below W.heap.size W w' := by
  refine (crosstreeref13_Spans.calls 9000000 A c (listS l) _ W hC hc (spans_f hw)).mono ?_
  rintro e w' ⟨v', rfl, h1, h2⟩
  have h4 := RowI.ofR h1
  obtain ⟨A2, c2, rfl, _, _⟩ := h4.form
  exact ⟨A2, c2, rfl, h4, h2⟩
theorem r_has {W : World} {A : Option Addr} {c : Nat} {l : List Sp} (hC : Kd.C (Kd.int .i64) W A (listS l).length (listS l)) (hc : (listS l).length ≤ c) (hw : WF l) (n : Int) :
    Calls Try.prog 21 #[.slice A (listS l).length c, .int .i64 n] W fun e w' => e = .returned (.bool (hasS l n)) ∧ Below W.heap.size W w' := by
  have hle := listS_len_le hw
  have hh : decide (n ∈ listS l) = hasS l n := by
    rw [Bool.eq_iff_iff, decide_eq_true_eq, hasS_iff hw, mem_listS]
  refine (crosstreeref13_Has.calls 9000000 A c (listS l) n _ W hC hc (has_f _ n (by omega) 9000000 (by omega))).mono ?_
  rintro e w' ⟨rfl, ⟨nd, rfl⟩⟩
  exact ⟨by rw [hh], pw_below_drewN (Below.refl _ _) _⟩
theorem r_of {W : World} {A : Option Addr} {c : Nat} {l : List Int} (hC : Kd.C (Kd.int .i64) W A l.length l) (hc : l.length ≤ c) (hl : l.length ≤ 2000) :
    Calls Try.prog 24 #[.slice A l.length c] W fun e w' => ∃ A2 c2, e = .returned (.slice A2 (listS (newS l)).length c2) ∧ RowI w' W.heap.size (.slice A2 (listS (newS l)).length c2) (listS (newS l)) ∧ Below W.heap.size W w' := by
  refine (crosstreeref13_Of.calls 9000 A c l _ W hC hc (of_f l hl)).mono ?_
  rintro e w' ⟨v', rfl, h1, h2⟩
  have h4 := RowI.ofR h1
  obtain ⟨A2, c2, rfl, _, _⟩ := h4.form
  exact ⟨A2, c2, rfl, h4, h2⟩
theorem r_minus {W : World} {A A1 : Option Addr} {c c1 : Nat} {l m : List Sp} (hC : Kd.C (Kd.int .i64) W A (listS l).length (listS l)) (hc : (listS l).length ≤ c) (hC1 : Kd.C (Kd.int .i64) W A1 (listS m).length (listS m)) (hc1 : (listS m).length ≤ c1) (hw : WF l) (hm : WF m) :
    Calls Try.prog 26 #[.slice A (listS l).length c, .slice A1 (listS m).length c1] W fun e w' => ∃ A2 c2, e = .returned (.slice A2 (listS (minusS l m)).length c2) ∧ RowI w' W.heap.size (.slice A2 (listS (minusS l m)).length c2) (listS (minusS l m)) ∧ Below W.heap.size W w' := by
  refine (crosstreeref13_Minus.calls 9000000 A c (listS l) A1 c1 (listS m) _ W hC hc hC1 hc1 (minus_f hw hm)).mono ?_
  rintro e w' ⟨v', rfl, h1, h2⟩
  have h4 := RowI.ofR h1
  obtain ⟨A2, c2, rfl, _, _⟩ := h4.form
  exact ⟨A2, c2, rfl, h4, h2⟩
def few (l : List Int) : List Int := l.take 300
theorem few_calls {W : World} {A : Option Addr} {c : Nat} {xs : List Int} (hC : Kd.C (Kd.int .i64) W A xs.length xs) (hn : xs.length ≤ c) :
    Calls Try.prog 17 #[.slice A xs.length c] W fun e w' => e = .returned (.slice A (few xs).length c) ∧ Kd.C (Kd.int .i64) W A (few xs).length (few xs) ∧ w' = W := by
  have hT : Kd.C (Kd.int .i64) W A (few xs).length (few xs) := by
    have h1 := Kd.reads_of_C (enc := Value.int .i64) (d := (0 : Int)) (h1 := fun _ => rfl) hC
    refine Kd.C_of_reads (enc := Value.int .i64) (d := (0 : Int)) (h1 := fun _ => rfl) ⟨rfl, by have := h1.2.1; unfold few; rw [List.length_take]; omega, fun h => ?_⟩
    have hlt : 0 < xs.length := by unfold few at h; rw [List.length_take] at h; omega
    obtain ⟨ad, h2, h3⟩ := h1.2.2 hlt
    refine ⟨ad, h2, fun j hj => ?_⟩
    have hj2 : j < xs.length ∧ j < 300 := by unfold few at hj; rw [List.length_take] at hj; omega
    rw [h3 j hj2.1]
    unfold few
    rw [List.getD_eq_getElem?_getD, List.getD_eq_getElem?_getD, List.getElem?_take_of_lt hj2.2]
  have HT := Aside0.mk hT
  have hl9 : xs.length ≤ 9223372036854775807 := hC.2.1
  clear hC hT
  by_cases hlt : (300 : Int) < (xs.length : Int)
  · have hfl : (few xs).length = 300 := by unfold few; rw [List.length_take]; omega
    have HL := Aside0.mk hfl
    have h3 : 300 ≤ c := by omega
    rw [hfl]
    clear hfl
    go_enter Try.func17, Try.ntmps17
    go_wp2
    go_ret
    exact ⟨rfl, by have := HT.out; rwa [HL.out] at this, rfl⟩
  · have hfe : few xs = xs := by unfold few; rw [List.take_of_length_le (by omega)]
    have HL := Aside0.mk hfe
    rw [hfe]
    clear hfe
    go_enter Try.func17, Try.ntmps17
    go_wp2
    go_ret
    exact ⟨rfl, by have := HT.out; rwa [HL.out] at this, rfl⟩
theorem few_len (l : List Int) : (few l).length ≤ 300 := by unfold few; rw [List.length_take]; omega
end Go.Proofs.Ytmcecmcnbhhniaa.G
