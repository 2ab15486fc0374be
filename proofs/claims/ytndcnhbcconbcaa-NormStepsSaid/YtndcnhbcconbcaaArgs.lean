/- A call's argument, read as data, is a value of its own kind: numbers, texts, structs, slices of whatever depth (Opens). No condition. -/
import Derived.Test.YtndcnhbcconbcaaBase
import Derived.ProofKit
import Derived.OpenShut
import Derived.ShutString
import Derived.ChangeOld
import Derived.SizedLaws
namespace Go.Proofs.Ytndcnhbcconbcaa.B
open Go.RowKit Go.Proofs.YtndcnhbcconbcaaW.PrintWords Go.Proofs.YtndcnhbcconbcaaW.PrintLast Go.Proofs.YtndcnhbcconbcaaW.PrintMore

/-- Whatever reads as type t within n steps is a value of kind d, and well. -/
structure Opens {α : Type} (P : Program) (n : Nat) (t : TypeId) (d : Kd α) (wf : α → Prop) : Prop where
  out : ∀ {H : Type} (enc : TypeId × Value → H) (w : World) (base : Nat) (spare : Nat → Bool) (held : Bool) (fuel : Nat) (cs : List Value) (x : DataW H × List MemPlace),
    fuel ≤ n → DataW.trod enc P w base spare held fuel t cs = some x → ∃ a, d.K w a cs ∧ wf a
section
variable {α β : Type} {P : Program} {n m : Nat} {t e : TypeId} {d : Kd α} {d' : Kd β} {wf wf' : α → Prop} {wfb : β → Prop}
theorem Opens.le (h : Opens P n t d wf) (hm : m ≤ n) : Opens P m t d wf :=
  ⟨fun enc w base spare held fuel cs x hf ht => h.out enc w base spare held fuel cs x (Nat.le_trans hf hm) ht⟩
theorem Opens.imp (h : Opens P n t d wf) (hi : ∀ a, wf a → wf' a) : Opens P n t d wf' :=
  ⟨fun enc w base spare held fuel cs x hf ht => let ⟨a, h1, h2⟩ := h.out enc w base spare held fuel cs x hf ht; ⟨a, h1, hi a h2⟩⟩
theorem Opens.int {k : IntKind} (hu : P.underlying t = some (.int k)) (n : Nat) : Opens P n t (Kd.int k) (fun x => (Lit.int k x).wf = true) := by
  constructor
  intro H enc w base spare held fuel cs x _ h
  obtain ⟨z, rfl, _, hz⟩ := DataW.trod_int hu h
  exact ⟨z, rfl, hz⟩
theorem Opens.bool (hu : P.underlying t = some .bool) (n : Nat) : Opens P n t Kd.bool (fun _ => True) := by
  constructor
  intro H enc w base spare held fuel cs x _ h
  obtain ⟨z, rfl, _⟩ := DataW.trod_bool hu h
  exact ⟨z, rfl, trivial⟩
theorem Opens.string (hu : P.underlying t = some .string) (n : Nat) : Opens P n t Kd.string (fun s => s.size ≤ maxLen) := by
  constructor
  intro H enc w base spare held fuel cs x _ h
  obtain ⟨z, rfl, _, hz⟩ := DataW.trod_string hu h
  exact ⟨z, rfl, hz⟩
theorem add_add (a : Addr) (i j : Nat) : (a.add i).add j = a.add (i + j) := by
  unfold Addr.add
  by_cases hj : j = 0
  · simp [hj]
  · by_cases hi : i = 0
    · simp [hi]
    · simp [hi, hj, Nat.add_assoc]
theorem list_of {p : Nat → α → Prop} : ∀ n, (∀ i, i < n → ∃ a, p i a) → ∃ l : List α, l.length = n ∧ ∀ i a, l[i]? = some a → p i a
  | 0, _ => ⟨[], rfl, fun i a h => by simp at h⟩
  | n + 1, h => by
    obtain ⟨l, hl, hp⟩ := list_of n (fun i hi => h i (by omega))
    obtain ⟨a, ha⟩ := h n (by omega)
    refine ⟨l ++ [a], by simp [hl], fun i b hb => ?_⟩
    rcases Nat.lt_or_ge i n with hi | hi
    · rw [List.getElem?_append_left (by omega)] at hb
      exact hp i b hb
    · have : i = n := by
        have := (List.getElem?_eq_some_iff.1 hb).1
        simp [hl] at this
        omega
      subst this
      have hb' : a = b := by simpa [← hl] using hb
      rw [← hb']
      exact ha
theorem Opens.slice (hu : P.underlying t = some (.slice e)) (hsz : P.cellsOf e = d.sz) (h : Opens P n e d wf) : Opens P (n + 1) t (Kd.slice e d) (fun l => ∀ x ∈ l, wf x) := by
  constructor
  intro H enc w base spare held fuel cs x hf ht
  rcases DataW.trod_slice hu ht with ⟨rfl, _⟩ | ⟨a, len, cap, elems, rest, m, rfl, rfl, _, hb, hl, hm, hlen, hel, _⟩
  · exact ⟨[], ⟨none, 0, rfl, Nat.le_refl _, Kd.C_nil d w⟩, by simp⟩
  · have h1 : ∀ i, i < len → ∃ a' : α, wf a' ∧ ∃ c : List Value, c.length = d.sz ∧ d.K w a' c ∧ ∀ j u, c[j]? = some u → w.cell? (a.add (i * d.sz + j)) = some u := by
      intro i hi
      have he := hel i hi
      rw [List.getElem?_eq_getElem (by omega)] at he
      obtain ⟨c, hc, ht2⟩ := Option.bind_eq_some_iff.1 he
      obtain ⟨a', hK, hw⟩ := h.out enc w base spare held m c _ (by omega) ht2
      rw [hsz] at hc
      obtain ⟨_, hcl, hcc⟩ := World.cells?_some hc
      refine ⟨a', hw, c, hcl, hK, fun j u hj => ?_⟩
      have hjl : j < d.sz := by
        have := (List.getElem?_eq_some_iff.1 hj).1
        omega
      have := hcc j hjl
      rw [add_add] at this
      rw [this, hj]
    obtain ⟨l, hll, hp⟩ := list_of (p := fun i a' => wf a' ∧ ∃ c : List Value, c.length = d.sz ∧ d.K w a' c ∧ ∀ j u, c[j]? = some u → w.cell? (a.add (i * d.sz + j)) = some u) len h1
    refine ⟨l, ⟨some a, cap, by rw [hll], by omega, ⟨rfl, by rw [hll]; unfold maxLen at hm; omega, fun _ => ⟨a, rfl, fun j p hj => ?_⟩⟩⟩, fun x hx => ?_⟩
    · obtain ⟨_, c, h2, h3, h4⟩ := hp j p hj
      exact ⟨c, h2, h3, h4⟩
    · obtain ⟨i, hi⟩ := List.getElem?_of_mem hx
      exact (hp i x hi).1
/-- Of a struct's cells, those of the fields fs, which begin at o. -/
structure OpensF {α : Type} (P : Program) (n : Nat) (fs : List Field) (o : Nat) (d : Kd α) (wf : α → Prop) : Prop where
  out : ∀ {H : Type} (enc : TypeId × Value → H) (w : World) (base : Nat) (spare : Nat → Bool) (held : Bool) (fuel : Nat) (cs : List Value) (xs : List (DataW H × List MemPlace)),
    fuel ≤ n → (fs.mapM fun f => DataW.trod enc P w base spare held fuel f.type ((cs.drop f.offset).take (P.cellsOf f.type))) = some xs → ∃ a, d.K w a ((cs.drop o).take d.sz) ∧ wf a
theorem OpensF.one {f : Field} (hs : P.cellsOf f.type = d.sz) (h : Opens P n f.type d wf) : OpensF P n [f] f.offset d wf := by
  constructor
  intro H enc w base spare held fuel cs xs hf ht
  cases h1 : DataW.trod enc P w base spare held fuel f.type ((cs.drop f.offset).take (P.cellsOf f.type)) with
  | none => simp [h1] at ht
  | some y =>
    rw [hs] at h1
    exact h.out enc w base spare held fuel _ y hf h1
theorem OpensF.cons {f : Field} {fs : List Field} (hs : P.cellsOf f.type = d.sz) (h : Opens P n f.type d wf) (hr : OpensF P n fs (f.offset + d.sz) d' wfb) : OpensF P n (f :: fs) f.offset (Kd.pair d d') (fun x => wf x.1 ∧ wfb x.2) := by
  constructor
  intro H enc w base spare held fuel cs xs hf ht
  rw [List.mapM_cons] at ht
  cases h1 : DataW.trod enc P w base spare held fuel f.type ((cs.drop f.offset).take (P.cellsOf f.type)) with
  | none => simp [h1] at ht
  | some y =>
    cases h2 : (fs.mapM fun f => DataW.trod enc P w base spare held fuel f.type ((cs.drop f.offset).take (P.cellsOf f.type))) with
    | none => simp [h1, h2] at ht
    | some ys =>
      rw [hs] at h1
      obtain ⟨a, ha, hw⟩ := h.out enc w base spare held fuel _ y hf h1
      obtain ⟨b, hb, hwb⟩ := hr.out enc w base spare held fuel cs ys hf h2
      refine ⟨(a, b), ⟨_, _, ?_, ha, hb⟩, hw, hwb⟩
      show (cs.drop f.offset).take (d.sz + d'.sz) = _
      rw [List.take_add, List.drop_drop]
theorem Opens.struct {fs : Array Field} {f : β → α} (g : α → β) (hg : ∀ a, f (g a) = a) (hu : P.underlying t = some (.struct fs)) (hs : P.cellsOf t = d.sz) (h : OpensF P n fs.toList 0 d wf) : Opens P (n + 1) t (Kd.iso d f) (fun b => ∃ a, b = g a ∧ wf a) := by
  constructor
  intro H enc w base spare held fuel cs x hf ht
  cases fuel with
  | zero => simp [DataW.trod] at ht
  | succ fuel =>
    have hlen : cs.length = P.cellsOf t := by
      obtain ⟨_, _, _, _, h4, _⟩ := DataW.trod_struct hu ht
      exact h4
    have hm : ∃ xs, (fs.toList.mapM fun f => DataW.trod enc P w base spare held fuel f.type ((cs.drop f.offset).take (P.cellsOf f.type))) = some xs := by
      unfold DataW.trod at ht
      rw [hu] at ht
      simp only [hlen, if_true] at ht
      obtain ⟨xs, hxs, _⟩ := Option.map_eq_some_iff.1 ht
      exact ⟨xs, hxs⟩
    obtain ⟨xs, hxs⟩ := hm
    obtain ⟨a, ha, hw⟩ := h.out enc w base spare held fuel cs xs (by omega) hxs
    refine ⟨g a, ?_, a, rfl, hw⟩
    show d.K w (f (g a)) cs
    rw [hg]
    have : (cs.drop 0).take d.sz = cs := by rw [List.drop_zero, ← hs, ← hlen, List.take_length]
    rw [this] at ha
    exact ha
end
end Go.Proofs.Ytndcnhbcconbcaa.B
