/- Numbers one behind the other, put in by steps: what was put in. Plain Lean, no program. -/
import Derived.Test.YtmcecmcnbhhniaaPb
namespace Go.Proofs.Ytmcecmcnbhhniaa.G

/-- What the law has put in: all of residues below k, and those of residue k ahead of i. -/
def Vis (f : Int) (N s k i : Nat) (l : List Sp) : Prop := ∀ m, inS l m ↔ ∃ j : Nat, j < N ∧ (j % s < k ∨ (j % s = k ∧ j < i)) ∧ m = f + (j : Int)
theorem Vis.start (f : Int) (N s : Nat) : Vis f N s 0 0 [] := fun m => ⟨fun h => absurd h (inS_nil m), fun ⟨j, _, h, _⟩ => by omega⟩
theorem Vis.enter {f : Int} {N s k : Nat} {l : List Sp} (h : Vis f N s k 0 l) : Vis f N s k k l := fun m => (h m).trans ⟨fun ⟨j, h1, h2, h3⟩ => ⟨j, h1, by omega, h3⟩, fun ⟨j, h1, h2, h3⟩ => ⟨j, h1, by have := Nat.mod_le j s; omega, h3⟩⟩
theorem mod_next {s i j : Nat} (h : j % s = i % s) (h1 : i ≤ j) (h2 : j < i + s) : j = i := by
  have h3 := Nat.sub_mod_eq_zero_of_mod_eq h
  rw [Nat.mod_eq_of_lt (by omega)] at h3
  omega
theorem Vis.fresh {f : Int} {N s k i : Nat} {l : List Sp} (h : Vis f N s k i l) (hi : i % s = k) : ¬ inS l (f + (i : Int)) := fun hin => by
  obtain ⟨j, _, h2, h3⟩ := (h _).1 hin
  have : j = i := by omega
  subst this
  omega
theorem Vis.step {f : Int} {N s k i : Nat} {l m : List Sp} (h : Vis f N s k i l) (hs : 0 < s) (hi : i % s = k) (hN : i < N) (hm : ∀ x, inS m x ↔ inS l x ∨ x = f + (i : Int)) : Vis f N s k (i + s) m := fun x => by
  rw [hm x, h x]
  constructor
  · rintro (⟨j, h1, h2, h3⟩ | rfl)
    · exact ⟨j, h1, by omega, h3⟩
    · refine ⟨i, hN, ?_, rfl⟩
      right
      omega
  · rintro ⟨j, h1, h2, h3⟩
    by_cases hji : j < i
    · exact .inl ⟨j, h1, by omega, h3⟩
    · rcases h2 with h2 | ⟨h2, h4⟩
      · exact .inl ⟨j, h1, .inl h2, h3⟩
      · have := mod_next (h2.trans hi.symm) (by omega) h4
        subst this
        exact .inr h3
theorem Vis.leave {f : Int} {N s k i : Nat} {l : List Sp} (h : Vis f N s k i l) (hi : N ≤ i) : Vis f N s (k + 1) 0 l := fun m => (h m).trans ⟨fun ⟨j, h1, h2, h3⟩ => ⟨j, h1, by omega, h3⟩, fun ⟨j, h1, h2, h3⟩ => ⟨j, h1, by omega, h3⟩⟩
theorem Vis.done {f : Int} {N s : Nat} {l : List Sp} (h : Vis f N s s 0 l) (hw : WF l) (hs : 0 < s) (hN : 0 < N) (hf : 0 ≤ f) (h9 : f + (N : Int) ≤ 1000000) : l = [⟨f, f + (N : Int) - 1⟩] := by
  refine hw.only (WF.cons ⟨hf, by show f ≤ f + (N : Int) - 1; omega, by show f + (N : Int) - 1 ≤ 1000000; omega⟩ WF.nil (by simp)) (fun m => ?_)
  rw [h m, inS_cons]
  constructor
  · rintro ⟨j, h1, _, rfl⟩
    exact .inl ⟨by show f ≤ f + (j : Int); omega, by show f + (j : Int) ≤ f + (N : Int) - 1; omega⟩
  · rintro (⟨h1, h2⟩ | h1)
    · have h1' : f ≤ m := h1
      have h2' : m ≤ f + (N : Int) - 1 := h2
      exact ⟨(m - f).toNat, by omega, .inl (Nat.mod_lt _ hs), by omega⟩
    · exact absurd h1 (inS_nil m)
end Go.Proofs.Ytmcecmcnbhhniaa.G
