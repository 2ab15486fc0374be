/- The reference's marks spread to what is led to; its groups are the groups. Plain Lean. -/
import Derived.Test.YtjbgealnnlmchaaPd
import Derived.Test.YtjbgealnnlmchaaGx9
set_option linter.unusedVariables false
set_option linter.unusedSimpArgs false
namespace Go.Proofs.Ytjbgealnnlmchaa.G
open Go.RowKit Go.Proofs.Ytjbgealnnlmchaa.B Go.Proofs.YtjbgealnnlmchaaW.PrintWords Go.Proofs.YtjbgealnnlmchaaW.PrintLast Go.Proofs.YtjbgealnnlmchaaW.PrintMore

theorem le_mono {β : Type} {g : Nat → Option β} (h : ∀ k, LeO (g k) (g (k + 1))) {m : Nat} {r : β} (hr : g m = some r) : ∀ k, m ≤ k → g k = some r := by
  intro k hk
  obtain ⟨d, rfl⟩ : ∃ d, k = m + d := ⟨k - m, by omega⟩
  clear hk
  induction d with
  | zero => exact hr
  | succ d ih => exact h _ _ ih
def pstep (N : Nat) (p : List Bool × Bool) (e : S41) : List Bool × Bool :=
  if okE N e ∧ p.1.getD e.f0.toNat false = true ∧ p.1.getD e.f2.toNat false = false then (p.1.set e.f2.toNat true, true) else p
theorem rdOf_at (m : List Bool) (x : Int) : rdOf false m x = m.getD x.toNat false := rfl
theorem pstep_len (N : Nat) (p : List Bool × Bool) (e : S41) : (pstep N p e).1.length = p.1.length := by
  unfold pstep
  split
  · show (p.1.set _ _).length = _; rw [List.length_set]
  · rfl
theorem spread_l1 (N : Nat) (l : List S41) (hl : l.length ≤ 1000000) (K : Nat) (r : List Bool) : ∀ (d i : Nat) (m : List Bool) (b : Bool), l.length - i = d → i ≤ l.length → m.length = N →
    crosstreeref15_spread.l0 K (N : Int) l ((l.drop i).foldl (pstep N) (m, b)).1 ((l.drop i).foldl (pstep N) (m, b)).2 = some r → crosstreeref15_spread.l1 (K + d + 1) (N : Int) l m b (i : Int) = some r := by
  intro d
  induction d with
  | zero =>
    intro i m b h1 h2 hm h
    unfold crosstreeref15_spread.l1
    rw [if_neg (by omega)]
    rw [List.drop_eq_nil_of_le (by omega)] at h
    exact h
  | succ d ih =>
    intro i m b h1 h2 hm h
    have hlt : i < l.length := by omega
    rw [List.drop_eq_getElem_cons hlt, List.foldl_cons] at h
    have hnext : ∀ m' b', (m', b') = pstep N (m, b) l[i] → crosstreeref15_spread.l1 (K + d + 1) (N : Int) l m' b' (wrap64 ((i : Int) + 1)) = some r := by
      intro m' b' he
      rw [w64 (by omega) (by omega), show (i : Int) + 1 = ((i + 1 : Nat) : Int) by omega]
      rw [← he] at h
      refine ih (i + 1) m' b' (by omega) (by omega) ?_ h
      have := pstep_len N (m, b) l[i]
      rw [← he] at this
      exact this.trans hm
    have hsame : ¬ (okE N l[i] ∧ m.getD l[i].f0.toNat false = true ∧ m.getD l[i].f2.toNat false = false) → (m, b) = pstep N (m, b) l[i] := fun hh => by unfold pstep; rw [if_neg hh]
    unfold crosstreeref15_spread.l1
    rw [if_pos (by omega), if_pos (by omega), rd33_at _ _ hlt]
    by_cases c1 : l[i].f0 ≥ 0
    · rw [if_pos c1]
      by_cases c2 : l[i].f0 < (N : Int)
      · rw [if_pos c2]
        by_cases c3 : l[i].f2 ≥ 0
        · rw [if_pos c3]
          by_cases c4 : l[i].f2 < (N : Int)
          · rw [if_pos c4, if_pos c1, if_pos (by omega), rdOf_at]
            by_cases c5 : m.getD l[i].f0.toNat false = true
            · rw [if_pos c5, if_pos c3, if_pos (by omega), rdOf_at]
              by_cases c6 : m.getD l[i].f2.toNat false = true
              · rw [if_pos c6]
                exact hnext m b (hsame (fun hh => by rw [c6] at hh; exact absurd hh.2.2 (by simp)))
              · rw [if_neg c6]
                refine hnext _ _ ?_
                unfold pstep
                rw [if_pos ⟨⟨c1, c2, c3, c4⟩, c5, by simpa using c6⟩]
            · rw [if_neg c5]
              exact hnext m b (hsame (fun hh => c5 hh.2.1))
          · rw [if_neg c4]
            exact hnext m b (hsame (fun hh => c4 hh.1.2.2.2))
        · rw [if_neg c3]
          exact hnext m b (hsame (fun hh => c3 hh.1.2.2.1))
      · rw [if_neg c2]
        exact hnext m b (hsame (fun hh => c2 hh.1.2.1))
    · rw [if_neg c1]
      exact hnext m b (hsame (fun hh => c1 hh.1.1))
theorem count_setF : ∀ (l : List Bool) (i : Nat), i < l.length → l.getD i false = false → (l.set i true).count false + 1 = l.count false
  | [], i, h, _ => by simp at h
  | x :: l, 0, h, h0 => by
    have hx : x = false := by simpa using h0
    subst hx
    simp
  | x :: l, i + 1, h, h0 => by
    have := count_setF l i (by simpa using h) (by simpa using h0)
    rw [List.set_cons_succ, List.count_cons, List.count_cons]
    omega
/-- What one pass over the edges gives. -/
theorem pass_ok (N : Nat) (L : List S41) (m0 : List Bool) : ∀ (l : List S41) (m : List Bool) (b : Bool), (∀ e ∈ l, e ∈ L) → m.length = N → (∀ x, m0.getD x false = true → m.getD x false = true) → (∀ x, m.getD x false = true → ∃ y, m0.getD y false = true ∧ Rch (EE N L) y x) →
    (l.foldl (pstep N) (m, b)).1.length = N ∧ (∀ x, m.getD x false = true → (l.foldl (pstep N) (m, b)).1.getD x false = true) ∧ (∀ x, (l.foldl (pstep N) (m, b)).1.getD x false = true → ∃ y, m0.getD y false = true ∧ Rch (EE N L) y x) ∧
    (l.foldl (pstep N) (m, b)).1.count false ≤ m.count false ∧
    ((l.foldl (pstep N) (m, b)).2 = false → b = false ∧ (l.foldl (pstep N) (m, b)).1 = m ∧ ∀ e ∈ l, okE N e → m.getD e.f0.toNat false = true → m.getD e.f2.toNat false = true) ∧
    ((l.foldl (pstep N) (m, b)).2 = true → b = true ∨ (l.foldl (pstep N) (m, b)).1.count false < m.count false) := by
  intro l
  induction l with
  | nil =>
    intro m b _ hm _ hs
    exact ⟨hm, fun _ h => h, hs, Nat.le_refl _, fun h => ⟨h, rfl, by simp⟩, fun h => .inl h⟩
  | cons e l ih =>
    intro m b hL hm h0 hs
    rw [List.foldl_cons]
    by_cases hc : okE N e ∧ m.getD e.f0.toNat false = true ∧ m.getD e.f2.toNat false = false
    · have hp : pstep N (m, b) e = (m.set e.f2.toNat true, true) := by unfold pstep; rw [if_pos hc]
      have hlt : e.f2.toNat < m.length := by have := hc.1.2.2; omega
      have hcnt := count_setF m e.f2.toNat hlt hc.2.2
      rw [hp]
      obtain ⟨g1, g2, g3, g4, g5, g6⟩ := ih (m.set e.f2.toNat true) true (fun x hx => hL x (List.mem_cons_of_mem _ hx)) (by rw [List.length_set]; exact hm) (fun x hx => by
        rw [getD_set _ _ _ _ _ hlt]
        split
        · rfl
        · exact h0 x hx) (fun x hx => by
        rw [getD_set _ _ _ _ _ hlt] at hx
        split at hx
        · rename_i hxe
          obtain ⟨y, hy, hr⟩ := hs _ hc.2.1
          refine ⟨y, hy, hr.tail ⟨e, hL e List.mem_cons_self, hc.1, ?_, ?_⟩⟩
          · have := hc.1.1; omega
          · have := hc.1.2.2.1; omega
        · exact hs x hx)
      refine ⟨g1, fun x hx => g2 x ?_, g3, by omega, fun hh => absurd (g5 hh).1 (by simp), fun _ => .inr (by omega)⟩
      rw [getD_set _ _ _ _ _ hlt]
      split
      · rfl
      · exact hx
    · have hp : pstep N (m, b) e = (m, b) := by unfold pstep; rw [if_neg hc]
      rw [hp]
      obtain ⟨g1, g2, g3, g4, g5, g6⟩ := ih m b (fun x hx => hL x (List.mem_cons_of_mem _ hx)) hm h0 hs
      refine ⟨g1, g2, g3, g4, fun hh => ?_, g6⟩
      obtain ⟨q1, q2, q3⟩ := g5 hh
      refine ⟨q1, q2, fun x hx hok hmx => ?_⟩
      rcases List.mem_cons.1 hx with rfl | hx
      · cases hv : m.getD x.f2.toNat false with
        | true => rfl
        | false => exact absurd ⟨hok, hmx, hv⟩ hc
      · exact q3 x hx hok hmx
/-- What is led to from what is marked. -/
def Marks (N : Nat) (l : List S41) (m0 m : List Bool) : Prop := m.length = N ∧ ∀ x, m.getD x false = true ↔ ∃ y, m0.getD y false = true ∧ Rch (EE N l) y x
theorem spread_ok (N : Nat) (l : List S41) (hl : l.length ≤ 1000000) (m0 : List Bool) : ∀ (c : Nat) (m : List Bool), m.count false ≤ c → m.length = N → (∀ x, m0.getD x false = true → m.getD x false = true) → (∀ x, m.getD x false = true → ∃ y, m0.getD y false = true ∧ Rch (EE N l) y x) →
    ∃ k m', crosstreeref15_spread.l0 k (N : Int) l m true = some m' ∧ Marks N l m0 m' := by
  intro c
  induction c with
  | zero =>
    intro m hc hm h0 hs
    obtain ⟨g1, g2, g3, g4, g5, g6⟩ := pass_ok N l m0 l m false (fun _ h => h) hm h0 hs
    have hf : (l.foldl (pstep N) (m, false)).2 = false := by
      cases hh : (l.foldl (pstep N) (m, false)).2 with
      | false => rfl
      | true => exact absurd (g6 hh) (by intro h; rcases h with h | h; exact absurd h (by simp); omega)
    obtain ⟨_, q2, q3⟩ := g5 hf
    have h1 := spread_l1 N l hl 1 m l.length 0 m false (by omega) (Nat.zero_le _) hm (by
      rw [List.drop_zero, hf, q2]
      unfold crosstreeref15_spread.l0
      rw [if_neg (by simp)])
    refine ⟨1 + l.length + 1 + 1, m, by unfold crosstreeref15_spread.l0; rw [if_pos rfl]; exact h1, hm, fun x => ⟨hs x, ?_⟩⟩
    rintro ⟨y, hy, hr⟩
    refine hr.stays (T := fun z => m.getD z false = true) (h0 y hy) (fun u v hu huv => ?_)
    obtain ⟨e, he, hok, e1, e2⟩ := huv
    have := q3 e he hok (by rw [e1, Int.toNat_natCast]; exact hu)
    rw [e2, Int.toNat_natCast] at this
    exact this
  | succ c ih =>
    intro m hc hm h0 hs
    obtain ⟨g1, g2, g3, g4, g5, g6⟩ := pass_ok N l m0 l m false (fun _ h => h) hm h0 hs
    cases hh : (l.foldl (pstep N) (m, false)).2 with
    | false =>
      obtain ⟨_, q2, q3⟩ := g5 hh
      have h1 := spread_l1 N l hl 1 m l.length 0 m false (by omega) (Nat.zero_le _) hm (by
        rw [List.drop_zero, hh, q2]
        unfold crosstreeref15_spread.l0
        rw [if_neg (by simp)])
      refine ⟨1 + l.length + 1 + 1, m, by unfold crosstreeref15_spread.l0; rw [if_pos rfl]; exact h1, hm, fun x => ⟨hs x, ?_⟩⟩
      rintro ⟨y, hy, hr⟩
      refine hr.stays (T := fun z => m.getD z false = true) (h0 y hy) (fun u v hu huv => ?_)
      obtain ⟨e, he, hok, e1, e2⟩ := huv
      have := q3 e he hok (by rw [e1, Int.toNat_natCast]; exact hu)
      rw [e2, Int.toNat_natCast] at this
      exact this
    | true =>
      have hlt : (l.foldl (pstep N) (m, false)).1.count false < m.count false := (g6 hh).resolve_left (by simp)
      obtain ⟨k, m', h1, h2⟩ := ih (l.foldl (pstep N) (m, false)).1 (by omega) g1 (fun x hx => g2 x (h0 x hx)) g3
      have h3 := spread_l1 N l hl k m' l.length 0 m false (by omega) (Nat.zero_le _) hm (by
        rw [List.drop_zero, hh]
        exact h1)
      exact ⟨k + l.length + 1 + 1, m', by unfold crosstreeref15_spread.l0; rw [if_pos rfl]; exact h3, h2⟩
theorem spread_f (N : Nat) (l : List S41) (hl : l.length ≤ 1000000) (m : List Bool) (hm : m.length = N) : ∃ k m', crosstreeref15_spread.f k (N : Int) l m = some m' ∧ Marks N l m m' := by
  obtain ⟨k, m', h1, h2⟩ := spread_ok N l hl m (m.count false) m (Nat.le_refl _) hm (fun _ h => h) (fun x hx => ⟨x, hx, .refl x⟩)
  exact ⟨k, m', h1, h2⟩
theorem repF (N x : Nat) : (List.replicate N false).getD x false = false := by
  rw [List.getD_eq_getElem?_getD, List.getElem?_replicate]
  split <;> rfl
theorem size_f (n : Int) : crosstreeref15_size.f n = some ((sizeN n : Nat) : Int) := by
  unfold crosstreeref15_size.f sizeN
  split
  · congr 1; omega
  · split
    · congr 1; omega
    · congr 1; omega
end Go.Proofs.Ytjbgealnnlmchaa.G
