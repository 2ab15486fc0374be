/- What the laws of calls compare. Plain Lean. -/
import Derived.Test.YtjbgealnnlmchaaTb
set_option linter.unusedVariables false
set_option linter.unusedSimpArgs false
namespace Go.Proofs.Ytjbgealnnlmchaa.G
open Go.RowKit Go.Proofs.Ytjbgealnnlmchaa.B Go.Proofs.YtjbgealnnlmchaaW.PrintWords Go.Proofs.YtjbgealnnlmchaaW.PrintLast Go.Proofs.YtjbgealnnlmchaaW.PrintMore

theorem rchF_one {N : Nat} {l : List S41} {a b : Nat} (ha : a < N) : RchF N l [(a : Int)] b ↔ Rch (EE N l) a b := by
  constructor
  · rintro ⟨u, hu, _, h⟩
    rw [List.mem_singleton] at hu
    have : u = a := by omega
    rw [← this]; exact h
  · exact fun h => ⟨a, List.mem_singleton.2 rfl, ha, h⟩
/-- CallsReach: main is reached; what a reached one calls is; nothing else is. -/
theorem reach_main {N : Nat} {l : List S41} {a : Nat} {s : List Nat} (h : ROk N l [(a : Int)] s) (ha : a < N) : a ∈ s := (h.2 a).2 ((rchF_one ha).2 (.refl a))
theorem reach_on {N : Nat} {l : List S41} {a : Nat} {s : List Nat} (h : ROk N l [(a : Int)] s) (ha : a < N) {u v : Nat} (hu : u ∈ s) (hE : EE N l u v) : v ∈ s :=
  (h.2 v).2 ((rchF_one ha).2 (((rchF_one ha).1 ((h.2 u).1 hu)).tail hE))
theorem reach_by {N : Nat} {l : List S41} {a : Nat} {s : List Nat} (h : ROk N l [(a : Int)] s) (ha : a < N) {v : Nat} (hv : v ∈ s) : v = a ∨ ∃ u ∈ s, EE N l u v := by
  have h1 := (rchF_one ha).1 ((h.2 v).1 hv)
  cases h1 with
  | refl => exact .inl rfl
  | tail h2 h3 => exact .inr ⟨_, (h.2 _).2 ((rchF_one ha).2 h2), h3⟩
/-- CallsMore. -/
theorem EE_more' (N : Nat) (l : List S41) (e : S41) (a b : Nat) : EE N (l ++ [e]) a b ↔ EE N l a b ∨ (okE N e ∧ e.f0 = (a : Int) ∧ e.f2 = (b : Int)) := by
  constructor
  · rintro ⟨x, hx, h⟩
    rcases List.mem_append.1 hx with hx | hx
    · exact .inl ⟨x, hx, h⟩
    · rw [List.mem_singleton] at hx; subst hx; exact .inr h
  · rintro (⟨x, hx, h⟩ | h)
    · exact ⟨x, List.mem_append_left _ hx, h⟩
    · exact ⟨e, List.mem_append_right _ (List.mem_singleton.2 rfl), h⟩
theorem rch_more {N : Nat} {l : List S41} (e : S41) {a b : Nat} (h : Rch (EE N l) a b) : Rch (EE N (l ++ [e])) a b := by
  induction h with
  | refl => exact .refl _
  | tail _ k ih => exact ih.tail ((EE_more' N l e _ _).2 (.inl k))
theorem more_reach {N : Nat} {l : List S41} {e : S41} {fr : List Int} {x y : List Nat} (hx : ROk N l fr x) (hy : ROk N (l ++ [e]) fr y) {v : Nat} (hv : v ∈ x) : v ∈ y := by
  obtain ⟨u, h1, h2, h3⟩ := (hx.2 v).1 hv
  exact (hy.2 v).2 ⟨u, h1, h2, rch_more e h3⟩
theorem more_ring {N : Nat} {l : List S41} {e : S41} {f : Nat} (h : InRing N l f) : InRing N (l ++ [e]) f := by
  obtain ⟨u, h1, h2⟩ := h
  exact ⟨u, (EE_more' N l e f u).2 (.inl h1), rch_more e h2⟩
theorem more_same {N : Nat} {l : List S41} {e : S41} {a : Nat} {x y : List Nat} (hx : ROk N l [(a : Int)] x) (hy : ROk N (l ++ [e]) [(a : Int)] y) (ha : a < N) (hn : ∀ v ∈ x, e.f0 ≠ (v : Int)) : x = y := by
  refine hx.unique ⟨hy.1, fun v => (hy.2 v).trans ?_⟩
  rw [rchF_one ha, rchF_one ha]
  constructor
  · intro h
    induction h with
    | refl => exact .refl a
    | @tail b c _ k ih =>
      rcases (EE_more' N l e b c).1 k with k | ⟨_, k, _⟩
      · exact ih.tail k
      · exact absurd k (hn b ((hx.2 b).2 ((rchF_one ha).2 ih)))
  · exact rch_more e
/-- The functions in rings. -/
def RgOk (N : Nat) (l : List S41) (g : List Nat) : Prop := g.Pairwise (· < ·) ∧ ∀ f, f ∈ g ↔ f < N ∧ InRing N l f
theorem RgOk.unique {N : Nat} {l : List S41} {g h : List Nat} (a : RgOk N l g) (b : RgOk N l h) : g = h := rise_unique g h a.1 b.1 (fun v => (a.2 v).trans (b.2 v).symm)
theorem RgOk.len {N : Nat} {l : List S41} {g : List Nat} (a : RgOk N l g) : g.length ≤ N := rise_len g N a.1 (fun v hv => ((a.2 v).1 hv).1)
open Classical in
theorem RgOk.exists_ (N : Nat) (l : List S41) : ∃ g, RgOk N l g := by
  refine ⟨(List.range N).filter (fun f => decide (InRing N l f)), List.Pairwise.filter _ List.pairwise_lt_range, fun f => ?_⟩
  rw [List.mem_filter, List.mem_range, decide_eq_true_eq]
/-- A function is in a ring just if it is reached from something that it calls. -/
theorem ring_back_ {N : Nat} {l : List S41} {f : Nat} (hf : f < N) : InRing N l f ↔ ∃ e ∈ l, e.f0 = (f : Int) ∧ 0 ≤ e.f2 ∧ e.f2 < (N : Int) ∧ Rch (EE N l) e.f2.toNat f := by
  constructor
  · rintro ⟨u, ⟨e, h1, h2, h3, h4⟩, h5⟩
    refine ⟨e, h1, h3, h2.2.2.1, h2.2.2.2, ?_⟩
    rw [show e.f2.toNat = u by omega]
    exact h5
  · rintro ⟨e, h1, h2, h3, h4, h5⟩
    exact ⟨e.f2.toNat, ⟨e, h1, ⟨by omega, by omega, h3, h4⟩, h2, by omega⟩, h5⟩
end Go.Proofs.Ytjbgealnnlmchaa.G
