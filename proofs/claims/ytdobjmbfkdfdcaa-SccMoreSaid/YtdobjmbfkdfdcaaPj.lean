/- What the laws of scc compare: places in the order, groups that each other lead to, rings, edges more. Plain Lean. -/
import Derived.Test.YtdobjmbfkdfdcaaPi
set_option linter.unusedVariables false
set_option linter.unusedSimpArgs false
namespace Go.Proofs.Ytdobjmbfkdfdcaa.G
open Go.RowKit Go.Proofs.Ytdobjmbfkdfdcaa.B Go.Proofs.YtdobjmbfkdfdcaaW.PrintWords Go.Proofs.YtdobjmbfkdfdcaaW.PrintLast Go.Proofs.YtdobjmbfkdfdcaaW.PrintMore

/-! ### SccOrder: the places -/
def atS (N : Nat) (R : List Nat) : Nat → List Nat
  | 0 => List.replicate N 0
  | i + 1 => (atS N R i).set (R.getD i 0) (i + 1)
theorem atS_len (N : Nat) (R : List Nat) : ∀ i, (atS N R i).length = N
  | 0 => List.length_replicate
  | i + 1 => by unfold atS; rw [List.length_set]; exact atS_len N R i
theorem atS_miss {N : Nat} {R : List Nat} {v : Nat} : ∀ i, i ≤ R.length → (∀ j, j < i → R.getD j 0 ≠ v) → (∀ j, j < i → R.getD j 0 < N) → (atS N R i).getD v 0 = 0
  | 0, _, _, _ => by
    unfold atS
    rw [List.getD_eq_getElem?_getD, List.getElem?_replicate]
    split <;> rfl
  | i + 1, hi, h, hN => by
    unfold atS
    rw [getD_set _ _ _ _ _ (by rw [atS_len]; exact hN i (by omega)), if_neg (h i (by omega))]
    exact atS_miss i (by omega) (fun j hj => h j (by omega)) (fun j hj => hN j (by omega))
theorem nodup_at {R : List Nat} (hn : R.Nodup) {i j : Nat} (hi : i < R.length) (hj : j < R.length) (h : R.getD i 0 = R.getD j 0) : i = j := by
  rw [List.getD_eq_getElem?_getD, List.getD_eq_getElem?_getD, List.getElem?_eq_getElem hi, List.getElem?_eq_getElem hj] at h
  exact (List.getElem_inj hn).1 h
theorem atS_hit {N : Nat} {R : List Nat} (hn : R.Nodup) (hN : ∀ v ∈ R, v < N) : ∀ i j, j < i → i ≤ R.length → (atS N R i).getD (R.getD j 0) 0 = j + 1 := by
  have hlt : ∀ j, j < R.length → R.getD j 0 < N := fun j hj => by
    rw [List.getD_eq_getElem?_getD, List.getElem?_eq_getElem hj]
    exact hN _ (List.getElem_mem hj)
  intro i
  induction i with
  | zero => intro j h; omega
  | succ i ih =>
    intro j hj hi
    unfold atS
    rw [getD_set _ _ _ _ _ (by rw [atS_len]; exact hlt i (by omega))]
    by_cases h : R.getD i 0 = R.getD j 0
    · have := nodup_at hn (by omega) (by omega) h
      rw [if_pos h, this]
    · rw [if_neg h]
      refine ih j ?_ (by omega)
      by_cases hji : j = i
      · subst hji; exact absurd rfl h
      · omega
/-- All that SccOrder asks. -/
structure AtOk (N : Nat) (l : List S33) (r R AT : List Nat) : Prop where
  len : AT.length = N
  all : ∀ v, v < N → 0 < AT.getD (r.getD v 0) 0
  ahead : ∀ a b, EE N l a b → AT.getD (r.getD a 0) 0 ≤ AT.getD (r.getD b 0) 0
  small : ∀ v, AT.getD v 0 ≤ R.length
theorem atS_le {N : Nat} {R : List Nat} (hN : ∀ v ∈ R, v < N) (v : Nat) : ∀ i, i ≤ R.length → (atS N R i).getD v 0 ≤ i
  | 0, _ => by
    unfold atS
    rw [List.getD_eq_getElem?_getD, List.getElem?_replicate]
    split <;> exact Nat.le_refl _
  | i + 1, hi => by
    unfold atS
    rw [getD_set _ _ _ _ _ (by
      rw [atS_len, List.getD_eq_getElem?_getD, List.getElem?_eq_getElem (by omega)]
      exact hN _ (List.getElem_mem (by omega)))]
    have := atS_le hN v i (by omega)
    split <;> omega
theorem at_ok {N : Nat} {l : List S33} {r R : List Nat} (h : OrdOk N l r R) : AtOk N l r R (atS N R R.length) := by
  have hN : ∀ v ∈ R, v < N := fun v hv => (h.head v hv).1
  have hit : ∀ (j v : Nat), R[j]? = some v → (atS N R R.length).getD v 0 = j + 1 := fun j v hj => by
    have hl := (List.getElem?_eq_some_iff.1 hj).1
    have := atS_hit h.nodup hN R.length j hl (Nat.le_refl _)
    have hv : R.getD j 0 = v := by rw [List.getD_eq_getElem?_getD, hj]; rfl
    rw [hv] at this
    exact this
  refine ⟨atS_len N R _, fun v hv => ?_, fun a b hE => ?_, fun v => atS_le hN v R.length (Nat.le_refl _)⟩
  · obtain ⟨j, hj⟩ := List.getElem?_of_mem (h.all v hv)
    rw [hit j _ hj]
    omega
  · obtain ⟨i, hi⟩ := List.getElem?_of_mem (h.all b (EE_lt hE).2)
    rcases h.ahead a b i hE hi with e | ⟨j, hj, hja⟩
    · rw [e]; exact Nat.le_refl _
    · rw [hit j _ hja, hit i _ hi]; omega

/-! ### SccBoth -/
theorem rch_iff {N : Nat} {l : List S33} {a b : Nat} (ha : a < N) : RchF N l [(a : Int)] b ↔ Rch (EE N l) a b := by
  constructor
  · rintro ⟨u, hu, _, h⟩
    rw [List.mem_singleton] at hu
    have : u = a := by omega
    rw [← this]; exact h
  · exact fun h => ⟨a, List.mem_singleton.2 rfl, ha, h⟩
theorem both_ok {N : Nat} {l : List S33} {r x y : List Nat} {a b : Nat} (hr : GrpOk N l r) (ha : a < N) (hb : b < N) (hx : ROk N l [(a : Int)] x) (hy : ROk N l [(b : Int)] y) : r.getD a 0 = r.getD b 0 ↔ b ∈ x ∧ a ∈ y := by
  rw [hr.iff ha hb, hx.2, hy.2, rch_iff ha, rch_iff hb]
  exact Iff.rfl

/-! ### SccMore -/
theorem EE_more (N : Nat) (l : List S33) (e : S33) (a b : Nat) : EE N (l ++ [e]) a b ↔ EE N l a b ∨ (okE N e ∧ e.f0 = (a : Int) ∧ e.f2 = (b : Int)) := by
  constructor
  · rintro ⟨x, hx, h⟩
    rcases List.mem_append.1 hx with hx | hx
    · exact .inl ⟨x, hx, h⟩
    · rw [List.mem_singleton] at hx; subst hx; exact .inr h
  · rintro (⟨x, hx, h⟩ | h)
    · exact ⟨x, List.mem_append_left _ hx, h⟩
    · exact ⟨e, List.mem_append_right _ (List.mem_singleton.2 rfl), h⟩
theorem Rch.more {N : Nat} {l : List S33} (e : S33) {a b : Nat} (h : Rch (EE N l) a b) : Rch (EE N (l ++ [e])) a b := by
  induction h with
  | refl => exact .refl _
  | tail _ k ih => exact ih.tail ((EE_more N l e _ _).2 (.inl k))
theorem more_ok {N : Nat} {l : List S33} {e : S33} {g h x y : List Nat} {fr : List Int} (hg : GrpOk N l g) (hh : GrpOk N (l ++ [e]) h) (hx : ROk N l fr x) (hy : ROk N (l ++ [e]) fr y) :
    x.length ≤ y.length ∧ ∀ i, i < N → h.getD i 0 ≤ g.getD i 0 ∧ h.getD (g.getD i 0) 0 = h.getD i 0 := by
  have hS : ∀ {a b}, Scc (EE N l) a b → Scc (EE N (l ++ [e])) a b := fun k => ⟨k.1.more e, k.2.more e⟩
  refine ⟨?_, fun i hi => ?_⟩
  · refine List.Nodup.length_le_of_subset (hx.1.imp (fun h => Nat.ne_of_lt h)) (fun v hv => ?_)
    obtain ⟨u, h1, h2, h3⟩ := (hx.2 v).1 hv
    exact (hy.2 v).2 ⟨u, h1, h2, h3.more e⟩
  · have g1 := hg.2 i hi
    have h1 := hh.2 i hi
    exact ⟨h1.2 _ (hS g1.1), (hh.iff (hg.lt i hi).1 hi).2 (hS g1.1).symm⟩
theorem none_ok {N : Nat} {l : List S33} {e : S33} {g h x y : List Nat} {fr : List Int} (hg : GrpOk N l g) (hh : GrpOk N (l ++ [e]) h) (hx : ROk N l fr x) (hy : ROk N (l ++ [e]) fr y) (hn : ¬ okE N e) : g = h ∧ x = y := by
  have hE : EE N (l ++ [e]) = EE N l := by
    funext a b
    exact propext ((EE_more N l e a b).trans ⟨fun k => k.elim id (fun k => absurd k.1 hn), .inl⟩)
  refine ⟨GrpOk.unique hg ⟨hh.1, ?_⟩, ROk.unique hx ⟨hy.1, ?_⟩⟩
  · have := hh.2; rw [hE] at this; exact this
  · have := hy.2; unfold RchF at this ⊢; rw [hE] at this; exact this

/-! ### SccRings -/
def ringE (K i : Nat) : S33 := ⟨(i : Int), 0, (((i + 1) % K : Nat) : Int)⟩
def ring (K : Nat) : List S33 := (List.range K).map (ringE K)
theorem ring_len (K : Nat) : (ring K).length = K := by unfold ring; rw [List.length_map, List.length_range]
theorem ring_EE {K a b : Nat} : EE K (ring K) a b ↔ a < K ∧ b = (a + 1) % K := by
  constructor
  · rintro ⟨e, he, h1, h2, h3⟩
    obtain ⟨i, hi, rfl⟩ := List.mem_map.1 he
    rw [List.mem_range] at hi
    have h2 : (i : Int) = (a : Int) := h2
    have h3 : (((i + 1) % K : Nat) : Int) = (b : Int) := h3
    have : i = a := by omega
    subst this
    exact ⟨hi, by omega⟩
  · rintro ⟨ha, rfl⟩
    have := Nat.mod_lt (a + 1) (show 0 < K by omega)
    refine ⟨ringE K a, List.mem_map.2 ⟨a, List.mem_range.2 ha, rfl⟩, ?_, rfl, rfl⟩
    unfold okE ringE
    dsimp only
    omega
theorem ring_rch {K : Nat} : ∀ (d a : Nat), a + d < K → Rch (EE K (ring K)) a (a + d)
  | 0, a, _ => .refl a
  | d + 1, a, h => (ring_rch d a (by omega)).tail (ring_EE.2 ⟨by omega, by rw [Nat.mod_eq_of_lt (by omega)]; omega⟩)
theorem ring_back {K a : Nat} (ha : a < K) : Rch (EE K (ring K)) a 0 := by
  have h1 := ring_rch (K := K) (K - 1 - a) a (by omega)
  rw [show a + (K - 1 - a) = K - 1 by omega] at h1
  exact h1.tail (ring_EE.2 ⟨by omega, by rw [show K - 1 + 1 = K by omega, Nat.mod_self]⟩)
theorem ring_ok (K : Nat) : GrpOk K (ring K) (List.replicate K 0) := by
  refine ⟨List.length_replicate, fun v hv => ?_⟩
  have h0 : (List.replicate K 0).getD v 0 = 0 := by
    rw [List.getD_eq_getElem?_getD, List.getElem?_replicate]
    split <;> rfl
  rw [h0]
  have h1 := ring_rch (K := K) v 0 (by omega)
  rw [Nat.zero_add] at h1
  exact ⟨⟨ring_back hv, h1⟩, fun u _ => Nat.zero_le _⟩
/-- A ring without one of its edges. -/
def cutR (K c : Nat) : List S33 := (ring K).take c ++ (ring K).drop (c + 1)
theorem cut_EE {K c a b : Nat} (hc : c < K) (h : EE K (cutR K c) a b) : a < K ∧ b = (a + 1) % K ∧ a ≠ c := by
  obtain ⟨e, he, h1, h2, h3⟩ := h
  unfold cutR at he
  have hex : ∃ i, i < K ∧ i ≠ c ∧ e = ringE K i := by
    unfold ring at he
    rcases List.mem_append.1 he with he | he
    · rw [← List.map_take] at he
      obtain ⟨i, hi, rfl⟩ := List.mem_map.1 he
      obtain ⟨j, hj⟩ := List.getElem?_of_mem hi
      rw [List.getElem?_take] at hj
      split at hj
      · rename_i hjc
        rw [List.getElem?_range (by omega)] at hj
        injection hj with hj
        exact ⟨i, by omega, by omega, rfl⟩
      · cases hj
    · rw [← List.map_drop] at he
      obtain ⟨i, hi, rfl⟩ := List.mem_map.1 he
      obtain ⟨j, hj⟩ := List.getElem?_of_mem hi
      rw [List.getElem?_drop] at hj
      have hlt := (List.getElem?_eq_some_iff.1 hj).1
      rw [List.length_range] at hlt
      rw [List.getElem?_range (by omega)] at hj
      injection hj with hj
      exact ⟨i, by omega, by omega, rfl⟩
  obtain ⟨i, hi, hic, rfl⟩ := hex
  have h2 : (i : Int) = (a : Int) := h2
  have h3 : (((i + 1) % K : Nat) : Int) = (b : Int) := h3
  have : i = a := by omega
  subst this
  exact ⟨hi, by omega, hic⟩
def rankR (K c v : Nat) : Nat := if c < v then v - c - 1 else v + K - c - 1
theorem cut_rank {K c a b : Nat} (hc : c < K) (h : EE K (cutR K c) a b) : rankR K c b = rankR K c a + 1 := by
  obtain ⟨h1, h2, h3⟩ := cut_EE hc h
  unfold rankR
  by_cases hk : a + 1 < K
  · rw [Nat.mod_eq_of_lt hk] at h2
    subst h2
    by_cases h4 : c < a
    · rw [if_pos h4, if_pos (by omega)]; omega
    · rw [if_neg h4, if_neg (by omega)]; omega
  · have : a + 1 = K := by omega
    rw [this, Nat.mod_self] at h2
    subst h2
    rw [if_neg (by omega), if_pos (by omega)]; omega
theorem cut_rch {K c a b : Nat} (hc : c < K) (h : Rch (EE K (cutR K c)) a b) : a = b ∨ rankR K c a < rankR K c b := by
  induction h with
  | refl => exact .inl rfl
  | tail _ e ih =>
    have := cut_rank hc e
    rcases ih with rfl | ih
    · right; omega
    · right; omega
theorem cut_ok (K c : Nat) (hc : c < K) : GrpOk K (cutR K c) (List.range K) := by
  refine ⟨List.length_range, fun v hv => ?_⟩
  have h0 : (List.range K).getD v 0 = v := by
    rw [List.getD_eq_getElem?_getD, List.getElem?_range hv]
    rfl
  rw [h0]
  refine ⟨Scc.refl _ _, fun u hu => ?_⟩
  rcases cut_rch hc hu.1 with h | h
  · exact Nat.le_of_eq h
  · rcases cut_rch hc hu.2 with h2 | h2
    · exact Nat.le_of_eq h2.symm
    · omega
end Go.Proofs.Ytdobjmbfkdfdcaa.G
