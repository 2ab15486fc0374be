/- Several sets and several rows at once, for the laws' walks. Each lemma names its state. -/
import Derived.Test.YtmcecmcnbhhniaaNk
import Derived.Test.YtmcecmcnbhhniaaL2
import Derived.Test.YtmcecmcnbhhniaaPe
set_option linter.unusedVariables false
set_option linter.unusedSimpArgs false
namespace Go.Proofs.Ytmcecmcnbhhniaa.G
open Go.RowKit Go.Proofs.Ytmcecmcnbhhniaa.B Go.Proofs.YtmcecmcnbhhniaaW.PrintWords Go.Proofs.YtmcecmcnbhhniaaW.PrintLast Go.Proofs.YtmcecmcnbhhniaaW.PrintMore

theorem SetAt.base_le {b b' : Nat} {W : World} {gs : Nat} {R : Option Nat} {l : List Sp} (h : SetAt b W gs R l) (hb : b' ≤ b) : SetAt b' W gs R l := by
  obtain ⟨v, h1, h2, h3⟩ := h.box
  exact ⟨⟨v, h1, own_less h2 hb, h3⟩, Nat.le_trans hb h.base⟩
theorem Made.after {w W W' : World} {gs : Nat} {R : Option Nat} {l : List Sp} (h : Made W W' gs R l) (hb : Below w.heap.size w W) : Made w W' gs R l :=
  ⟨h.set.base_le hb.size, h.wf, below_step hb h.below⟩
/-- Some sets that this call made, apart from each other. -/
structure Sets (w W : World) (s : List (Nat × Option Nat × List Sp)) : Prop where
  all : ∀ (i : Nat) (x : Nat × Option Nat × List Sp), s[i]? = some x → Made w W x.1 x.2.1 x.2.2
  apart : ∀ (i j : Nat) (x y : Nat × Option Nat × List Sp), i ≠ j → s[i]? = some x → s[j]? = some y → x.1 ≠ y.1 ∧ ∀ k, x.2.1 = some k → y.2.1 ≠ some k
  below : Below w.heap.size w W
theorem Sets.set {w W : World} {s : List (Nat × Option Nat × List Sp)} (h : Sets w W s) (i : Nat) {gs : Nat} {R : Option Nat} {l : List Sp} (hi : s[i]? = some (gs, R, l)) : SetAt w.heap.size W gs R l := (h.all i _ hi).set
theorem Sets.wf {w W : World} {s : List (Nat × Option Nat × List Sp)} (h : Sets w W s) (i : Nat) {gs : Nat} {R : Option Nat} {l : List Sp} (hi : s[i]? = some (gs, R, l)) : WF l := (h.all i _ hi).wf
theorem Sets.may {w W : World} {s : List (Nat × Option Nat × List Sp)} (h : Sets w W s) (i : Nat) {gs : Nat} {R : Option Nat} {l : List Sp} (hi : s[i]? = some (gs, R, l)) : May W (.pointer (some ⟨gs, 0, none⟩)) l := ⟨h.wf i hi, .inr ⟨_, _, _, rfl, h.set i hi⟩⟩
theorem Sets.nil {w W : World} (h : Below w.heap.size w W) : Sets w W [] := ⟨fun i x hi => by simp at hi, fun i j x y _ hi => by simp at hi, h⟩
theorem Sets.low {w W W' : World} {s : List (Nat × Option Nat × List Sp)} (h : Sets w W s) (hb : Below W.heap.size W W') : Sets w W' s :=
  ⟨fun i x hi => (h.all i x hi).low hb, h.apart, below_step h.below hb⟩
theorem Sets.push {w W W' : World} {s : List (Nat × Option Nat × List Sp)} {g : Nat} {R : Option Nat} {l : List Sp} (h : Sets w W s) (hm : Made W W' g R l) : Sets w W' (s ++ [(g, R, l)]) := by
  have key : ∀ (i : Nat) (x : Nat × Option Nat × List Sp), (s ++ [(g, R, l)])[i]? = some x → (s[i]? = some x ∧ i < s.length) ∨ (x = (g, R, l) ∧ i = s.length) := fun i x hx => by
    rcases Nat.lt_or_ge i s.length with hlt | hge
    · rw [List.getElem?_append_left hlt] at hx
      exact .inl ⟨hx, hlt⟩
    · rw [List.getElem?_append_right hge] at hx
      have hi : i - s.length = 0 := by
        have := (List.getElem?_eq_some_iff.1 hx).1
        simpa using this
      rw [hi] at hx
      exact .inr ⟨by simpa using hx.symm, by omega⟩
  have far : ∀ (i : Nat) (x : Nat × Option Nat × List Sp), s[i]? = some x → x.1 ≠ g ∧ (∀ k, x.2.1 = some k → R ≠ some k) ∧ (∀ k, R = some k → x.2.1 ≠ some k) := fun i x hx => by
    have hM := h.all i x hx
    have h1 := hM.set.lt
    have hR : ∀ k, x.2.1 = some k → k < W.heap.size := fun k hk => by
      obtain ⟨c, hc, _⟩ := hM.set.own k hk
      exact blk_lt hc
    have hR2 : ∀ k, R = some k → W.heap.size ≤ k := fun k hk => by
      obtain ⟨c, hc, h2⟩ := hm.set.own k hk
      exact h2
    refine ⟨fun he => ?_, fun k hk he => ?_, fun k hk he => ?_⟩
    · have := hm.set.base
      omega
    · have := hR k hk
      have := hR2 k he
      omega
    · have := hR k he
      have := hR2 k hk
      omega
  refine ⟨fun i x hx => ?_, fun i j x y hij hx hy => ?_, below_step h.below hm.below⟩
  · rcases key i x hx with ⟨hx, _⟩ | ⟨rfl, _⟩
    · exact (h.all i x hx).low hm.below
    · exact hm.after h.below
  · rcases key i x hx with ⟨hx, _⟩ | ⟨rfl, hi⟩
    · rcases key j y hy with ⟨hy, _⟩ | ⟨rfl, hj⟩
      · exact h.apart i j x y hij hx hy
      · exact ⟨(far i x hx).1, (far i x hx).2.1⟩
    · rcases key j y hy with ⟨hy, _⟩ | ⟨rfl, hj⟩
      · exact ⟨fun he => (far j y hy).1 he.symm, (far j y hy).2.2⟩
      · omega
theorem Sets.left {w W W' : World} {s : List (Nat × Option Nat × List Sp)} {gs : Nat} {R : Option Nat} {l m : List Sp} (h : Sets w W s) (i : Nat) (hi : s[i]? = some (gs, R, l)) (hL : Left w.heap.size W gs R W' m) (hm : WF m) : ∃ R', Sets w W' (s.set i (gs, R', m)) := by
  obtain ⟨R', hM, hR'⟩ := Left.made (h.all i _ hi) hL hm
  refine ⟨R', ⟨fun j x hx => ?_, fun j k x y hjk hx hy => ?_, hM.below⟩⟩
  · rw [List.getElem?_set] at hx
    split at hx
    · rename_i hij
      split at hx
      · injection hx with hx
        subst hx
        exact hM
      · cases hx
    · rename_i hij
      have ha := h.apart i j _ x hij hi hx
      have hMx := h.all j x hx
      refine ⟨hMx.set.keep hL.kp (fun hh => ?_) (fun k hk hh => ?_), hMx.wf, hM.below⟩
      · rcases hh with hh | hh
        · exact ha.1 hh.symm
        · obtain ⟨c, hc, _⟩ := (h.set i hi).own _ hh
          obtain ⟨v, hv, _⟩ := hMx.set.box
          rw [hc] at hv
          injection hv with hv
          injection hv with _ hv
          exact absurd hv (by decide)
      · rcases hh with hh | hh
        · obtain ⟨c, hc, _⟩ := hMx.set.own _ hk
          obtain ⟨v, hv, _⟩ := (h.set i hi).box
          rw [hh, hv] at hc
          injection hc with hc
          injection hc with _ hc
          exact absurd hc (by decide)
        · exact ha.2 k hh hk
  · have old : ∀ (j : Nat) (x : Nat × Option Nat × List Sp), i ≠ j → s[j]? = some x → gs ≠ x.1 ∧ (∀ k, R' = some k → x.2.1 ≠ some k) := fun j x hij hx => by
      have ha := h.apart i j _ x hij hi hx
      refine ⟨ha.1, fun k hk hh => ?_⟩
      rcases hR' with rfl | hR'
      · exact ha.2 k hk hh
      · obtain ⟨c, hc, _⟩ := (h.all j x hx).set.own _ hh
        have := blk_lt hc
        have := hR' k hk
        omega
    rw [List.getElem?_set] at hx hy
    split at hx
    · rename_i hij
      split at hx
      · injection hx with hx
        subst hx
        rw [if_neg (by omega)] at hy
        exact old k y (by omega) hy
      · cases hx
    · rename_i hij
      split at hy
      · rename_i hik
        split at hy
        · injection hy with hy
          subst hy
          have := old j x hij hx
          exact ⟨fun he => this.1 he.symm, fun k hk he => this.2 k he hk⟩
        · cases hy
      · exact h.apart j k x y hjk hx hy
/-- Some rows that are read. -/
def Rows_ (W : World) (s : List (Value × List Int)) : Prop := ∀ (i : Nat) (x : Value × List Int), s[i]? = some x → RdI W x.1 x.2
theorem Rows_.nil (W : World) : Rows_ W [] := fun i x hi => by simp at hi
theorem Rows_.get {W : World} {s : List (Value × List Int)} (h : Rows_ W s) (i : Nat) {v : Value} {l : List Int} (hi : s[i]? = some (v, l)) : RdI W v l := h i _ hi
theorem Rows_.low {W W' : World} {s : List (Value × List Int)} (h : Rows_ W s) (hb : Below W.heap.size W W') : Rows_ W' s := fun i x hi => (h i x hi).below hb
theorem Rows_.push {W : World} {s : List (Value × List Int)} {v : Value} {l : List Int} (h : Rows_ W s) (hr : RdI W v l) : Rows_ W (s ++ [(v, l)]) := fun i x hx => by
  rcases Nat.lt_or_ge i s.length with hlt | hge
  · rw [List.getElem?_append_left hlt] at hx
    exact h i x hx
  · rw [List.getElem?_append_right hge] at hx
    have hi : i - s.length = 0 := by
      have := (List.getElem?_eq_some_iff.1 hx).1
      simpa using this
    rw [hi] at hx
    obtain rfl : (v, l) = x := by simpa using hx
    exact hr
theorem ints_rd {W : World} {v1 v2 : Value} {l1 l2 : List Int} (h1 : RdI W v1 l1) (h2 : RdI W v2 l2) (he : l1 = l2) (hl : l2.length ≤ 4000000) :
    Calls Try.prog 13 #[v1, v2] W fun e w' => e = .returned (.bool true) ∧ Below W.heap.size W w' := by
  subst he
  obtain ⟨A, c, rfl, hc, hC⟩ := h1
  obtain ⟨A2, c2, rfl, hc2, hC2⟩ := h2
  exact ints_same hl hC hc hC2 hc2
theorem rspans_rd {W : World} {v : Value} {l : List Sp} (h : RdI W v (listS l)) (hw : WF l) :
    Calls Try.prog 20 #[v] W fun e w' => ∃ A2 c2, e = .returned (.slice A2 (spansS l).length c2) ∧ RowI w' W.heap.size (.slice A2 (spansS l).length c2) (spansS l) ∧ Below W.heap.size W w' := by
  obtain ⟨A, c, rfl, hc, hC⟩ := h
  exact r_spans hC hc hw
theorem rminus_rd {W : World} {v u : Value} {l m : List Sp} (h : RdI W v (listS l)) (h2 : RdI W u (listS m)) (hw : WF l) (hm : WF m) :
    Calls Try.prog 26 #[v, u] W fun e w' => ∃ A2 c2, e = .returned (.slice A2 (listS (minusS l m)).length c2) ∧ RowI w' W.heap.size (.slice A2 (listS (minusS l m)).length c2) (listS (minusS l m)) ∧ Below W.heap.size W w' := by
  obtain ⟨A, c, rfl, hc, hC⟩ := h
  obtain ⟨A2, c2, rfl, hc2, hC2⟩ := h2
  exact r_minus hC hc hC2 hc2 hw hm
theorem union_nobody (p : Value) (W : World) : Calls Try.prog 22 #[.pointer none, p] W fun e w' => e = .returned (.bool false) ∧ w' = W := by
  go_enter Try.func22, Try.ntmps22
  go_wp2
  go_ret
  exact ⟨rfl, rfl⟩
theorem new_one (w : World) : Calls Try.prog 11 #[.slice (some ⟨w.heap.size, 0, none⟩) 1 1] (w.alloc (.cells #[.int .i64 1] 3)) fun e w' => ∃ gs, e = .returned (.pointer (some ⟨gs, 0, none⟩)) ∧ ∃ R, Made w w' gs R [⟨1, 1⟩] :=
  (new_calls (xs := [1]) (lit_C (l := [1]) (blk_new w _) (by decide)) (by decide)).mono (by
    rintro e w' ⟨gs, rfl, R, hM⟩
    exact ⟨gs, rfl, R, Made.after hM (below_alloc (Below.refl _ _) _)⟩)
end Go.Proofs.Ytmcecmcnbhhniaa.G
