/- The reference's Ints at equal rows; the document's example. -/
import Derived.Test.YtmcecmcnbhhniaaNf
import Derived.Test.YtmcecmcnbhhniaaGx3
set_option linter.unusedVariables false
set_option linter.unusedSimpArgs false
namespace Go.Proofs.Ytmcecmcnbhhniaa.G
open Go.RowKit Go.Proofs.Ytmcecmcnbhhniaa.B Go.Proofs.YtmcecmcnbhhniaaW.PrintWords Go.Proofs.YtmcecmcnbhhniaaW.PrintLast Go.Proofs.YtmcecmcnbhhniaaW.PrintMore

theorem ints_l0 (l : List Int) (hl : l.length ≤ 4000000) : ∀ (k i : Nat), i ≤ l.length → l.length - i < k → crosstreeref06_Ints.l0 k l l (i : Int) = some true := by
  intro k
  induction k with
  | zero => intro i h1 h2; omega
  | succ k ih =>
    intro i h1 h2
    unfold crosstreeref06_Ints.l0
    by_cases hi : i < l.length
    · have hi' : (i : Int) < (l.length : Int) := by omega
      have hw : wrap64 ((i : Int) + 1) = ((i + 1 : Nat) : Int) := by unfold wrap64; omega
      simp only [hi', if_true, Int.natCast_nonneg i, hw]
      exact ih (i + 1) (by omega) (by omega)
    · simp only [show ¬ ((i : Int) < (l.length : Int)) by omega, if_false]
theorem ints_f (l : List Int) (hl : l.length ≤ 4000000) : crosstreeref06_Ints.f 5000000 l l = some true := by
  unfold crosstreeref06_Ints.f
  rw [if_pos rfl]
  exact ints_l0 l hl 5000000 0 (Nat.zero_le _) (by omega)
theorem ints_same {W : World} {l : List Int} {A A2 : Option Addr} {c c2 : Nat} (hl : l.length ≤ 4000000) (h1 : Kd.C (Kd.int .i64) W A l.length l) (hc : l.length ≤ c) (h2 : Kd.C (Kd.int .i64) W A2 l.length l) (hc2 : l.length ≤ c2) :
    Calls Try.prog 13 #[.slice A l.length c, .slice A2 l.length c2] W fun e w' => e = .returned (.bool true) ∧ Below W.heap.size W w' :=
  (crosstreeref06_Ints.calls 5000000 A c l A2 c2 l true W h1 hc h2 hc2 (ints_f l hl)).mono fun e w' ⟨he, ⟨nd, hw⟩⟩ => ⟨he, by subst hw; exact pw_below_drewN (Below.refl _ _) _⟩
theorem SetAt.not3 {b : Nat} {W : World} {gs : Nat} {R : Option Nat} {l : List Sp} (h : SetAt b W gs R l) (k : Nat) (c : Array Value) (hk : k = gs ∨ R = some k) (hc : W.heap[k]? = some (.cells c 3 (0, 0))) : False := by
  rcases hk with rfl | hk
  · obtain ⟨v, h1, _⟩ := h.box
    rw [hc] at h1
    injection h1 with h1
    injection h1 with _ h1
    exact absurd h1 (by decide)
  · obtain ⟨c', h1, _⟩ := h.own k hk
    rw [hc] at h1
    injection h1 with h1
    injection h1 with _ h1
    exact absurd h1 (by decide)
theorem RowI.left {b b2 : Nat} {W W' : World} {gs : Nat} {R : Option Nat} {l m : List Sp} {v : Value} {r : List Int} (h : RowI W b v r) (hs : SetAt b2 W gs R l) (hL : Left b2 W gs R W' m) : RowI W' b v r := h.kp hL.kp hs.not3
/-- A row laid by a literal. -/
theorem lit_C {W : World} {g : Nat} {l : List Int} (h : W.heap[g]? = some (.cells (l.map (Value.int .i64)).toArray 3 (0, 0))) (hl : l.length ≤ 4000000) : Kd.C (Kd.int .i64) W (some ⟨g, 0, none⟩) l.length l := by
  refine Kd.C_of_reads (enc := Value.int .i64) (d := (0 : Int)) (h1 := fun _ => rfl) ⟨rfl, by omega, fun _ => ⟨⟨g, 0, none⟩, rfl, fun j hj => ?_⟩⟩
  rw [show (⟨g, 0, none⟩ : Addr).add j = ⟨g, j, none⟩ by unfold Addr.add; split <;> simp_all, blk_cell h]
  simp [List.getElem?_eq_getElem hj, List.getD_eq_getElem?_getD]
/-- A row against a literal that holds the same. -/
theorem ints_lit {W : World} {b : Nat} {A : Option Addr} {c : Nat} (l : List Int) (hl : l.length ≤ 4000000) (h : RowI W b (.slice A l.length c) l) :
    Calls Try.prog 13 #[.slice A l.length c, .slice (some ⟨W.heap.size, 0, none⟩) l.length l.length] (W.alloc (.cells (l.map (Value.int .i64)).toArray 3)) fun e w' => e = .returned (.bool true) ∧ Below W.heap.size W w' := by
  have hB1 := below_alloc (Below.refl W.heap.size W) (.cells (l.map (Value.int .i64)).toArray 3)
  obtain ⟨A', c', he, hc, hC⟩ := (h.below hB1).form
  injection he with h1 h2 h3
  subst h1 h3
  exact (ints_same hl hC hc (lit_C (blk_new W _) hl) (Nat.le_refl _)).mono fun e w' ⟨h1, h2⟩ => ⟨h1, below_step hB1 h2⟩
theorem ints_1355 {W : World} {b : Nat} {A : Option Addr} {c : Nat} (h : RowI W b (.slice A 4 c) [1, 3, 5, 5]) :
    Calls Try.prog 13 #[.slice A 4 c, .slice (some ⟨W.heap.size, 0, none⟩) 4 4] (W.alloc (.cells #[.int .i64 1, .int .i64 3, .int .i64 5, .int .i64 5] 3)) fun e w' => e = .returned (.bool true) ∧ Below W.heap.size W w' := ints_lit [1, 3, 5, 5] (by decide) h
theorem ints_two {W : World} {b : Nat} {A : Option Addr} {c : Nat} {x y : Int} (h : RowI W b (.slice A 2 c) [x, y]) :
    Calls Try.prog 13 #[.slice A 2 c, .slice (some ⟨W.heap.size, 0, none⟩) 2 2] (W.alloc (.cells #[.int .i64 x, .int .i64 y] 3)) fun e w' => e = .returned (.bool true) ∧ Below W.heap.size W w' := ints_lit [x, y] (by simp) h
theorem new5123 : newS [5, 1, 2, 3] = [⟨1, 3⟩, ⟨5, 5⟩] := by rfl
theorem add4 : addS [⟨1, 3⟩, ⟨5, 5⟩] 4 = ([⟨1, 5⟩], true) := by rfl
set_option maxHeartbeats 4000000 in
theorem shown_calls (w : World) : Calls Try.prog 10 #[] w fun e w' => e = .returned (.bool true) ∧ Below w.heap.size w w' := by
  have HN : Aside0 (Calls Try.prog 11 #[.slice (some ⟨w.heap.size, 0, none⟩) 4 4] (w.alloc (.cells #[.int .i64 5, .int .i64 1, .int .i64 2, .int .i64 3] 3)) fun e w' => ∃ gs, e = .returned (.pointer (some ⟨gs, 0, none⟩)) ∧ ∃ R, Made (w.alloc (.cells #[.int .i64 5, .int .i64 1, .int .i64 2, .int .i64 3] 3)) w' gs R (newS [5, 1, 2, 3])) :=
    Aside0.mk (new_calls (xs := [5, 1, 2, 3]) (lit_C (l := [5, 1, 2, 3]) (blk_new w _) (by decide)) (by decide))
  have HB0 := Aside0.mk (below_alloc (Below.refl w.heap.size w) (.cells #[.int .i64 5, .int .i64 1, .int .i64 2, .int .i64 3] 3))
  go_enter Try.func10, Try.ntmps10
  go_upto_region 2 with (go_at_call 11; refine HN.out.mono ?_; rintro e w1 ⟨gs, rfl, R, hM⟩; rw [new5123] at hM; have HM := Aside0.mk hM; clear hM)
  generalize (w.alloc (.cells #[.int .i64 5, .int .i64 1, .int .i64 2, .int .i64 3] 3)) = w0 at HN HB0 HM
  clear HN
  go_upto_region 3 with (go_at_call 14; refine (spans_calls HM.out.set HM.out.wf).mono ?_; rintro e w2 ⟨A, c, rfl, hR, hk⟩; have HR := Aside0.mk hR; replace HM := Aside0.mk (HM.out.low hk); clear hR hk)
  have hsp : spansS [⟨1, 3⟩, ⟨5, 5⟩] = [1, 3, 5, 5] := rfl
  rw [hsp] at HR ⊢
  go_upto_region 4 with (go_at_call 12; refine (add_calls HM.out.set HM.out.below.size HM.out.wf 4).mono ?_; rintro e w3 ⟨rfl, hL⟩; replace HR := Aside0.mk (HR.out.left HM.out.set hL); have HL := Aside0.mk hL; clear hL)
  have hwf : WF (addS [⟨1, 3⟩, ⟨5, 5⟩] 4).1 := (add_spec HM.out.wf 4).1
  obtain ⟨R2, hM2, _⟩ := Left.made HM.out HL.out hwf
  rw [add4] at hM2 ⊢
  replace HM := Aside0.mk hM2
  clear hM2 hwf HL
  go_upto_region 5 with (go_at_call 14; refine (spans_calls HM.out.set HM.out.wf).mono ?_; rintro e w4 ⟨A2, c2, rfl, hR2, hk⟩; have HR2 := Aside0.mk hR2; replace HR := Aside0.mk (HR.out.below hk); replace HM := Aside0.mk (HM.out.low hk); clear hR2 hk)
  have hsp2 : spansS [⟨1, 5⟩] = [1, 5] := rfl
  rw [hsp2] at HR2 ⊢
  have HB := Aside0.mk (below_step HB0.out HM.out.below)
  clear HB0 HM
  have HR' : Aside0 (RowI w4 w1.heap.size (.slice A 4 c) [1, 3, 5, 5]) := Aside0.mk HR.out
  have HR2' : Aside0 (RowI w4 w3.heap.size (.slice A2 2 c2) [1, 5]) := Aside0.mk HR2.out
  clear HR HR2
  go_wp2_with (first | (go_at_call 13; with_reducible refine (ints_1355 HR'.out).mono ?_; rintro e w5 ⟨rfl, hk⟩; replace HR2' := Aside0.mk (HR2'.out.below hk); replace HB := Aside0.mk (below_step HB.out hk); clear hk) | (go_at_call 13; with_reducible refine (ints_two HR2'.out).mono ?_; rintro e w6 ⟨rfl, hk⟩; replace HB := Aside0.mk (below_step HB.out hk); clear hk))
  go_ret
  exact ⟨rfl, HB.out⟩
end Go.Proofs.Ytmcecmcnbhhniaa.G
