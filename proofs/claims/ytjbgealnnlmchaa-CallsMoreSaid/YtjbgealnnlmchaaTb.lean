/- What a call may call; which functions are in rings. Plain Lean. -/
import Derived.Test.YtjbgealnnlmchaaTa
import Derived.Test.YtjbgealnnlmchaaPf
set_option linter.unusedVariables false
set_option linter.unusedSimpArgs false
namespace Go.Proofs.Ytjbgealnnlmchaa.G
open Go.RowKit Go.Proofs.Ytjbgealnnlmchaa.B Go.Proofs.YtjbgealnnlmchaaW.PrintWords Go.Proofs.YtjbgealnnlmchaaW.PrintLast Go.Proofs.YtjbgealnnlmchaaW.PrintMore

def isAt (fn pc : Int) (e : S41) : Bool := decide (e.f0 = fn) && decide (e.f1 = pc)
def toL (l : List S41) (fn pc : Int) : List Int := (l.filter (isAt fn pc)).map (fun e => e.f2)
theorem toL_snoc (l : List S41) (e : S41) (fn pc : Int) : toL (l ++ [e]) fn pc = toL l fn pc ++ (if isAt fn pc e = true then [e.f2] else []) := by
  unfold toL
  rw [List.filter_append, List.map_append]
  congr 1
  by_cases h : isAt fn pc e = true
  · rw [if_pos h, List.filter_cons_of_pos h]; rfl
  · rw [if_neg h, List.filter_cons_of_neg h]; rfl
theorem toL_take (l : List S41) (fn pc : Int) (i : Nat) (h : i < l.length) : toL (l.take (i + 1)) fn pc = toL (l.take i) fn pc ++ (if isAt fn pc l[i] = true then [l[i].f2] else []) := by
  rw [List.take_succ_eq_append_getElem h, toL_snoc]
theorem toL_len (l : List S41) (fn pc : Int) : (toL l fn pc).length ≤ l.length := by
  unfold toL
  rw [List.length_map]
  exact List.length_filter_le _ _
theorem mem_toL {l : List S41} {fn pc x : Int} : x ∈ toL l fn pc ↔ ∃ e ∈ l, e.f0 = fn ∧ e.f1 = pc ∧ e.f2 = x := by
  unfold toL
  rw [List.mem_map]
  constructor
  · rintro ⟨e, he, rfl⟩
    rw [List.mem_filter] at he
    unfold isAt at he
    rw [Bool.and_eq_true, decide_eq_true_eq, decide_eq_true_eq] at he
    exact ⟨e, he.1, he.2.1, he.2.2, rfl⟩
  · rintro ⟨e, h1, h2, h3, h4⟩
    refine ⟨e, List.mem_filter.2 ⟨h1, ?_⟩, h4⟩
    unfold isAt
    rw [decide_eq_true h2, decide_eq_true h3]
    rfl
/-- What a call may call: rising, each once. -/
def TOk (l : List S41) (fn pc : Int) (t : List Int) : Prop := t.Pairwise (· < ·) ∧ ∀ x, x ∈ t ↔ x ∈ toL l fn pc
theorem TOk.unique {l : List S41} {fn pc : Int} {s t : List Int} (h : TOk l fn pc s) (k : TOk l fn pc t) : s = t := riseI_unique s t h.1 k.1 (fun v => (h.2 v).trans (k.2 v).symm)
theorem to_ok (l : List S41) (fn pc : Int) : TOk l fn pc (Lib.compact ((toL l fn pc).mergeSort (fun x y => decide (x ≤ y)))) := by
  have hp : ((toL l fn pc).mergeSort (fun x y => decide (x ≤ y))).Perm (toL l fn pc) := List.mergeSort_perm _ _
  have hs := List.pairwise_mergeSort (le := fun (x y : Int) => decide (x ≤ y)) (fun a b c h1 h2 => by simp only [decide_eq_true_eq] at *; omega) (fun a b => by simp only [Bool.or_eq_true, decide_eq_true_eq]; omega) (toL l fn pc)
  obtain ⟨h1, h2⟩ := compact_rise _ (hs.imp (fun h => of_decide_eq_true h))
  exact ⟨h1, fun x => (h2 x).trans hp.mem_iff⟩
theorem TOk.len {l : List S41} {fn pc : Int} {t : List Int} (h : TOk l fn pc t) : t.length ≤ l.length :=
  Nat.le_trans (List.Nodup.length_le_of_subset (h.1.imp (fun h => Int.ne_of_lt h)) (fun x hx => (h.2 x).1 hx)) (toL_len l fn pc)

/-! ### Rings -/
theorem EE_rch_lt {N : Nat} {l : List S41} {a b : Nat} (h : Rch (EE N l) a b) (hb : b < N) : a < N := by
  induction h with
  | refl => exact hb
  | tail _ e ih => exact ih (EE_lt e).1
theorem GrpOk.lt {N : Nat} {l : List S41} {r : List Nat} (h : GrpOk N l r) (v : Nat) (hv : v < N) : r.getD v 0 < N ∧ r.getD v 0 ≤ v ∧ r.getD (r.getD v 0) 0 = r.getD v 0 := by
  have h1 := h.2 v hv
  have h2 : r.getD v 0 < N := EE_rch_lt h1.1.2 hv
  have h3 := h.2 _ h2
  exact ⟨h2, h1.2 v (Scc.refl _ _), h3.unique (h1.same h1.1)⟩
theorem GrpOk.iff {N : Nat} {l : List S41} {r : List Nat} (h : GrpOk N l r) {a b : Nat} (ha : a < N) (hb : b < N) : r.getD a 0 = r.getD b 0 ↔ Scc (EE N l) a b := by
  have h1 := h.2 a ha
  have h2 := h.2 b hb
  constructor
  · intro e
    rw [e] at h1
    exact h1.1.trans h2.1.symm
  · intro e
    exact (h1.same e).unique h2
def InRing (N : Nat) (l : List S41) (f : Nat) : Prop := ∃ u, EE N l f u ∧ Rch (EE N l) u f
theorem ring_iff {N : Nat} {l : List S41} {r : List Nat} (hr : GrpOk N l r) {f : Nat} (hf : f < N) : InRing N l f ↔ (∃ o, o < N ∧ o ≠ f ∧ r.getD o 0 = r.getD f 0) ∨ EE N l f f := by
  constructor
  · rintro ⟨u, h1, h2⟩
    by_cases hu : u = f
    · subst hu; exact .inr h1
    · have hlt := EE_lt h1
      exact .inl ⟨u, hlt.2, hu, (hr.iff hlt.2 hf).2 ⟨h2, Rch.one h1⟩⟩
  · rintro (⟨o, h1, h2, h3⟩ | h)
    · have hs := (hr.iff h1 hf).1 h3
      obtain ⟨x, y, a1, a2, a3, a4, a5⟩ := Rch.leaves (T := fun z => z = f) hs.2 rfl h2
      subst a1
      exact ⟨y, a3, a5.trans hs.1⟩
    · exact ⟨f, h, .refl f⟩
end Go.Proofs.Ytjbgealnnlmchaa.G
