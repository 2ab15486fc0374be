/- The functions in rings, one after the other. Plain Lean. -/
import Derived.Test.YtjbgealnnlmchaaTc
set_option linter.unusedVariables false
set_option linter.unusedSimpArgs false
namespace Go.Proofs.Ytjbgealnnlmchaa.G
open Go.RowKit Go.Proofs.Ytjbgealnnlmchaa.B Go.Proofs.YtjbgealnnlmchaaW.PrintWords Go.Proofs.YtjbgealnnlmchaaW.PrintLast Go.Proofs.YtjbgealnnlmchaaW.PrintMore

def aloneS (r : List Nat) (i : Nat) : Nat → Bool
  | 0 => true
  | j + 1 => aloneS r i j && (decide (j = i) || !decide (r.getD j 0 = r.getD i 0))
theorem aloneS_iff (r : List Nat) (i : Nat) : ∀ j, aloneS r i j = true ↔ ∀ o, o < j → o = i ∨ r.getD o 0 ≠ r.getD i 0
  | 0 => ⟨fun _ o h => absurd h (Nat.not_lt_zero _), fun _ => rfl⟩
  | j + 1 => by
    unfold aloneS
    rw [Bool.and_eq_true, aloneS_iff r i j, Bool.or_eq_true, decide_eq_true_eq, Bool.not_eq_true', decide_eq_false_iff_not]
    constructor
    · rintro ⟨h1, h2⟩ o ho
      by_cases hh : o = j
      · subst hh; exact h2
      · exact h1 o (by omega)
    · exact fun h => ⟨fun o ho => h o (by omega), h j (by omega)⟩
def selfP (f : Int) (e : S41) : Bool := decide (e.f0 = f) && decide (e.f2 = f)
theorem selfP_iff {N : Nat} {l : List S41} {i : Nat} (hi : i < N) : l.any (selfP (i : Int)) = true ↔ EE N l i i := by
  rw [List.any_eq_true]
  constructor
  · rintro ⟨e, he, h⟩
    unfold selfP at h
    rw [Bool.and_eq_true, decide_eq_true_eq, decide_eq_true_eq] at h
    exact ⟨e, he, ⟨by omega, by omega, by omega, by omega⟩, h.1, h.2⟩
  · rintro ⟨e, he, _, h1, h2⟩
    refine ⟨e, he, ?_⟩
    unfold selfP
    rw [decide_eq_true h1, decide_eq_true h2]
    rfl
theorem ring_test {N : Nat} {l : List S41} {r : List Nat} (hr : GrpOk N l r) {i : Nat} (hi : i < N) : (!aloneS r i N || l.any (selfP (i : Int))) = true ↔ InRing N l i := by
  rw [ring_iff hr hi, Bool.or_eq_true, selfP_iff hi, Bool.not_eq_true', ← Bool.not_eq_true, aloneS_iff]
  constructor
  · rintro (h | h)
    · left
      rw [Classical.not_forall] at h
      obtain ⟨o, ho⟩ := h
      rw [Classical.not_imp] at ho
      obtain ⟨h1, h2⟩ := ho
      rw [not_or] at h2
      exact ⟨o, h1, h2.1, Classical.not_not.1 h2.2⟩
    · exact .inr h
  · rintro (⟨o, h1, h2, h3⟩ | h)
    · exact .inl (fun h => (h o h1).elim h2 (fun k => k h3))
    · exact .inr h
/-- The rings among the first i functions. -/
def RgI (N : Nat) (l : List S41) (i : Nat) (g : List Nat) : Prop := g.Pairwise (· < ·) ∧ ∀ f, f ∈ g ↔ f < i ∧ InRing N l f
theorem RgI.nil (N : Nat) (l : List S41) : RgI N l 0 [] := ⟨List.Pairwise.nil, fun f => ⟨fun h => (by cases h), fun h => absurd h.1 (Nat.not_lt_zero _)⟩⟩
theorem RgI.yes {N : Nat} {l : List S41} {i : Nat} {g : List Nat} (h : RgI N l i g) (hi : InRing N l i) : RgI N l (i + 1) (g ++ [i]) := by
  refine ⟨List.pairwise_append.2 ⟨h.1, List.pairwise_singleton _ _, fun a ha b hb => by rw [List.mem_singleton] at hb; subst hb; exact ((h.2 a).1 ha).1⟩, fun f => ?_⟩
  rw [List.mem_append, List.mem_singleton, h.2 f]
  constructor
  · rintro (⟨a, b⟩ | rfl)
    · exact ⟨by omega, b⟩
    · exact ⟨by omega, hi⟩
  · rintro ⟨a, b⟩
    by_cases hf : f = i
    · exact .inr hf
    · exact .inl ⟨by omega, b⟩
theorem RgI.no {N : Nat} {l : List S41} {i : Nat} {g : List Nat} (h : RgI N l i g) (hi : ¬ InRing N l i) : RgI N l (i + 1) g := by
  refine ⟨h.1, fun f => (h.2 f).trans ⟨fun ⟨a, b⟩ => ⟨by omega, b⟩, fun ⟨a, b⟩ => ⟨?_, b⟩⟩⟩
  by_cases hf : f = i
  · subst hf; exact absurd b hi
  · omega
theorem RgI.len {N : Nat} {l : List S41} {i : Nat} {g : List Nat} (h : RgI N l i g) : g.length ≤ i := rise_len g i h.1 (fun v hv => ((h.2 v).1 hv).1)
end Go.Proofs.Ytjbgealnnlmchaa.G
