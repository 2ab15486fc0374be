/- The walk in depth tells the groups. Plain Lean. -/
import Derived.Test.YtjbgealnnlmchaaPa
set_option linter.unusedVariables false
namespace Go.Proofs.Ytjbgealnnlmchaa.G

theorem getD_set {α : Type} (l : List α) (i j : Nat) (a d : α) (hi : i < l.length) : (l.set i a).getD j d = if i = j then a else l.getD j d := by
  rw [List.getD_eq_getElem?_getD, List.getD_eq_getElem?_getD]
  by_cases h : i = j
  · subst h
    rw [List.getElem?_set_self hi, if_pos rfl]
    rfl
  · rw [List.getElem?_set_ne h, if_neg h]
theorem count_set0 : ∀ (l : List Nat) (i a : Nat), i < l.length → l.getD i 0 = 0 → a ≠ 0 → (l.set i a).count 0 + 1 = l.count 0
  | [], i, a, h, _, _ => by simp at h
  | x :: l, 0, a, _, h0, ha => by
    have hx : x = 0 := by simpa using h0
    subst hx
    simp [ha]
  | x :: l, i + 1, a, h, h0, ha => by
    have := count_set0 l i a (by simpa using h) (by simpa using h0) ha
    rw [List.set_cons_succ, List.count_cons, List.count_cons]
    omega
theorem pairs_len {f : Nat → Nat} {m : Nat} : ∀ l : List Nat, l.Pairwise (fun a b => f a < f b) → (∀ x ∈ l, f x ≤ m ∧ f x ≠ 0) → l.length ≤ m := by
  have key : ∀ (l : List Nat) (b : Nat), l.Pairwise (fun a b => f a < f b) → (∀ x ∈ l, b < f x ∧ f x ≤ m) → b ≤ m → l.length + b ≤ m := by
    intro l
    induction l with
    | nil => intro b _ _ hb; simpa using hb
    | cons x l ih =>
      intro b hp h hb
      rw [List.pairwise_cons] at hp
      have h1 := h x List.mem_cons_self
      have := ih (f x) hp.2 (fun y hy => ⟨hp.1 y hy, (h y (List.mem_cons_of_mem _ hy)).2⟩) h1.2
      rw [List.length_cons]
      omega
  intro l hp h
  have := key l 0 hp (fun x hx => ⟨Nat.pos_of_ne_zero (h x hx).2, (h x hx).1⟩) (Nat.zero_le _)
  omega
theorem leastOf_spec : ∀ (l : List Nat), l ≠ [] → leastOf l ∈ l ∧ ∀ x ∈ l, leastOf l ≤ x := by
  have key : ∀ (l : List Nat) (a : Nat), (l.foldl min a = a ∨ l.foldl min a ∈ l) ∧ l.foldl min a ≤ a ∧ ∀ x ∈ l, l.foldl min a ≤ x := by
    intro l
    induction l with
    | nil => intro a; exact ⟨.inl rfl, Nat.le_refl _, by simp⟩
    | cons b l ih =>
      intro a
      obtain ⟨h1, h2, h3⟩ := ih (min a b)
      rw [List.foldl_cons]
      refine ⟨?_, by omega, fun x hx => ?_⟩
      · rcases h1 with h1 | h1
        · rw [h1]
          rcases Nat.le_total a b with hab | hab
          · exact .inl (Nat.min_eq_left hab)
          · rw [Nat.min_eq_right hab]; exact .inr List.mem_cons_self
        · exact .inr (List.mem_cons_of_mem _ h1)
      · rcases List.mem_cons.1 hx with rfl | hx
        · omega
        · exact h3 x hx
  intro l hl
  cases l with
  | nil => exact absurd rfl hl
  | cons a l =>
    obtain ⟨h1, h2, h3⟩ := key l a
    refine ⟨?_, fun x hx => ?_⟩
    · show l.foldl min a ∈ _
      rcases h1 with h1 | h1
      · rw [h1]; exact List.mem_cons_self
      · exact List.mem_cons_of_mem _ h1
    · show l.foldl min a ≤ x
      rcases List.mem_cons.1 hx with rfl | hx
      · exact h2
      · exact h3 x hx
theorem foldl_set_at {α : Type} (a d : α) : ∀ (l : List Nat) (o : List α) (j : Nat), (∀ x ∈ l, x < o.length) → (l.foldl (fun o w => o.set w a) o).getD j d = if j ∈ l then a else o.getD j d := by
  intro l
  induction l with
  | nil => intro o j _; simp
  | cons x l ih =>
    intro o j h
    rw [List.foldl_cons, ih _ _ (fun y hy => by rw [List.length_set]; exact h y (List.mem_cons_of_mem _ hy)), getD_set _ _ _ _ _ (h x List.mem_cons_self)]
    by_cases h1 : j ∈ l
    · rw [if_pos h1, if_pos (List.mem_cons_of_mem _ h1)]
    · rw [if_neg h1]
      by_cases h2 : x = j
      · subst h2; rw [if_pos rfl, if_pos List.mem_cons_self]
      · rw [if_neg h2, if_neg (fun hh => (List.mem_cons.1 hh).elim (fun e => h2 e.symm) h1)]

structure Inv (E : Nat → Nat → Prop) (n : Nat) (s : TS) (gray : List Nat) : Prop where
  wf : Wf n s
  cnt : s.last + s.num.count 0 = n
  le : ∀ x, s.N x ≤ s.last
  inj : ∀ x y, s.N x = s.N y → s.N x ≠ 0 → x = y
  stk : s.stack.Pairwise (fun a b => s.N a < s.N b)
  opn : ∀ x, s.opn.getD x false = true ↔ x ∈ s.stack
  seen : ∀ x ∈ s.stack, s.N x ≠ 0
  gr : ∀ x ∈ gray, x ∈ s.stack
  blk : ∀ x, s.N x ≠ 0 → x ∉ gray → ∀ y, E x y → s.N y ≠ 0
  dn : ∀ x, s.N x ≠ 0 → x ∉ s.stack → ∀ y, E x y → s.N y ≠ 0 ∧ y ∉ s.stack
  ord : ∀ x ∈ s.stack, ∀ y ∈ s.stack, s.N x ≤ s.N y → Rch E x y
  up : ∀ y ∈ s.stack, ∃ x ∈ gray, s.N x ≤ s.N y ∧ Rch E y x
  outs : ∀ x, s.N x ≠ 0 → x ∉ s.stack → IsGrp E x (s.out.getD x 0)

/-- What a round from v on, begun at s, gives. -/
structure Post (E : Nat → Nat → Prop) (s s' : TS) (v : Nat) : Prop where
  keep : ∀ x, s.N x ≠ 0 → s'.N x = s.N x ∧ s'.L x = s.L x
  last : s.last ≤ s'.last
  new : ∀ x, s.N x = 0 → s'.N x ≠ 0 → s.last < s'.N x
  here : s'.N v ≠ 0
  stk : ∃ t, s'.stack = s.stack ++ t ∧ ∀ x ∈ t, s.N x = 0
  low : s'.L v ≤ s'.N v
  lowz : (∃ z ∈ s.stack, s.N z = s'.L v ∧ Rch E v z) ∨ s'.L v = s'.N v
  edge : ∀ x ∈ s'.stack, x ∉ s.stack → ∀ y, E x y → y ∈ s.stack → s'.L v ≤ s.N y

/-- Within v's round. -/
structure LI (E : Nat → Nat → Prop) (n : Nat) (s0 s : TS) (v : Nat) (gray : List Nat) (p : Nat → Prop) : Prop where
  inv : Inv E n s (gray ++ [v])
  keep : ∀ x, s0.N x ≠ 0 → s.N x = s0.N x ∧ s.L x = s0.L x
  nv : s.N v = s0.last + 1
  new : ∀ x, s0.N x = 0 → s.N x ≠ 0 → s0.last < s.N x
  last : s0.last < s.last
  stk : ∃ t, s.stack = s0.stack ++ v :: t ∧ ∀ x ∈ t, s0.N x = 0
  low : s.L v ≤ s.N v
  lowz : (∃ z ∈ s0.stack, s0.N z = s.L v ∧ Rch E v z) ∨ s.L v = s.N v
  edge : ∀ x ∈ s.stack, x ∉ s0.stack → x ≠ v → ∀ y, E x y → y ∈ s0.stack → s.L v ≤ s0.N y
  proc : ∀ w, p w → s.N w ≠ 0 ∧ (w ∈ s0.stack → s.L v ≤ s0.N w)
section
variable {E : Nat → Nat → Prop} {n : Nat} {s s' s0 : TS} {gray : List Nat} {v : Nat}
theorem N_lt (h : Wf n s) {x : Nat} (hx : s.N x ≠ 0) : x < n := by
  rcases Nat.lt_or_ge x n with h1 | h1
  · exact h1
  · exact absurd (show s.N x = 0 by unfold TS.N; rw [List.getD_eq_getElem?_getD, List.getElem?_eq_none (by rw [h.num]; exact h1)]; rfl) hx
theorem LI.start (h : Inv E n s gray) (hv : s.N v = 0) (hvn : v < n) (hacc : ∀ x ∈ gray, Rch E x v) : LI E n s (push v s) v gray (fun _ => False) := by
  have hN : ∀ x, (push v s).N x = if v = x then s.last + 1 else s.N x := fun x => getD_set _ _ _ _ _ (by rw [h.wf.num]; exact hvn)
  have hL : ∀ x, (push v s).L x = if v = x then s.last + 1 else s.L x := fun x => getD_set _ _ _ _ _ (by rw [h.wf.low]; exact hvn)
  have hNv : (push v s).N v = s.last + 1 := by rw [hN, if_pos rfl]
  have hNe : ∀ x, x ≠ v → (push v s).N x = s.N x := fun x hx => by rw [hN, if_neg (fun e => hx e.symm)]
  have hvs : v ∉ s.stack := fun hm => h.seen v hm hv
  have hne : ∀ x ∈ s.stack, x ≠ v := fun x hx e => hvs (e ▸ hx)
  have hmem : ∀ x, x ∈ (push v s).stack ↔ x ∈ s.stack ∨ x = v := fun x => by
    show x ∈ s.stack ++ [v] ↔ _
    rw [List.mem_append, List.mem_singleton]
  have hsv : ∀ y ∈ s.stack, Rch E y v := fun y hy => by
    obtain ⟨x, hx, _, hr⟩ := h.up y hy
    exact hr.trans (hacc x hx)
  have hlow : ∀ x, x ≠ v → (push v s).L x = s.L x := fun x hx => by rw [hL, if_neg (fun e => hx e.symm)]
  refine ⟨⟨h.wf.push hvn, ?_, ?_, ?_, ?_, ?_, ?_, ?_, ?_, ?_, ?_, ?_, ?_⟩, ?_, hNv, ?_, Nat.lt_succ_self _, ⟨[], rfl, by simp⟩, ?_, ?_, ?_, fun _ h => h.elim⟩
  · have := count_set0 s.num v (s.last + 1) (by rw [h.wf.num]; exact hvn) hv (by omega)
    have := h.cnt
    show s.last + 1 + (s.num.set v (s.last + 1)).count 0 = n
    omega
  · intro x
    rw [hN]
    show _ ≤ s.last + 1
    have := h.le x
    split <;> omega
  · intro x y hxy hx
    by_cases hxv : x = v
    · by_cases hyv : y = v
      · rw [hxv, hyv]
      · rw [hxv, hNv, hNe y hyv] at hxy
        have := h.le y
        omega
    · by_cases hyv : y = v
      · rw [hyv, hNv, hNe x hxv] at hxy
        have := h.le x
        omega
      · rw [hNe x hxv] at hxy hx
        rw [hNe y hyv] at hxy
        exact h.inj x y hxy hx
  · show (s.stack ++ [v]).Pairwise _
    rw [List.pairwise_append]
    refine ⟨?_, List.pairwise_singleton _ _, fun a ha b hb => ?_⟩
    · refine h.stk.imp_of_mem ?_
      intro a b ha hb hab
      rw [hNe a (hne a ha), hNe b (hne b hb)]
      exact hab
    · rw [List.mem_singleton.1 hb, hNv, hNe a (hne a ha)]
      have := h.le a
      omega
  · intro x
    rw [hmem]
    have : (push v s).opn.getD x false = if v = x then true else s.opn.getD x false := getD_set _ _ _ _ _ (by rw [h.wf.opn]; exact hvn)
    rw [this]
    by_cases hxv : v = x
    · rw [if_pos hxv]
      simp [hxv]
    · rw [if_neg hxv, h.opn]
      exact ⟨.inl, fun hh => hh.resolve_right (fun e => hxv e.symm)⟩
  · intro x hx
    rcases (hmem x).1 hx with h1 | rfl
    · rw [hNe x (hne x h1)]; exact h.seen x h1
    · rw [hNv]; omega
  · intro x hx
    rw [hmem]
    rcases List.mem_append.1 hx with h1 | h1
    · exact .inl (h.gr x h1)
    · exact .inr (List.mem_singleton.1 h1)
  · intro x hx hg y hxy
    have hxv : x ≠ v := fun e => hg (List.mem_append_right _ (by rw [e]; exact List.mem_singleton.2 rfl))
    rw [hNe x hxv] at hx
    have h1 := h.blk x hx (fun hh => hg (List.mem_append_left _ hh)) y hxy
    by_cases hyv : y = v
    · rw [hyv, hNv]; omega
    · rw [hNe y hyv]; exact h1
  · intro x hx hs y hxy
    rw [hmem, not_or] at hs
    rw [hNe x hs.2] at hx
    obtain ⟨h1, h2⟩ := h.dn x hx hs.1 y hxy
    have hyv : y ≠ v := fun e => h1 (e ▸ hv)
    rw [hNe y hyv, hmem, not_or]
    exact ⟨h1, h2, hyv⟩
  · intro x hx y hy hxy
    rcases (hmem x).1 hx with h1 | rfl
    · rcases (hmem y).1 hy with h2 | rfl
      · rw [hNe x (hne x h1), hNe y (hne y h2)] at hxy
        exact h.ord x h1 y h2 hxy
      · exact hsv x h1
    · rcases (hmem y).1 hy with h2 | rfl
      · rw [hNv, hNe y (hne y h2)] at hxy
        have := h.le y
        omega
      · exact .refl _
  · intro y hy
    rcases (hmem y).1 hy with h1 | rfl
    · obtain ⟨x, hx, hle, hr⟩ := h.up y h1
      refine ⟨x, List.mem_append_left _ hx, ?_, hr⟩
      rw [hNe x (hne x (h.gr x hx)), hNe y (hne y h1)]
      exact hle
    · exact ⟨y, List.mem_append_right _ (List.mem_singleton.2 rfl), Nat.le_refl _, .refl _⟩
  · intro x hx hs
    rw [hmem, not_or] at hs
    rw [hNe x hs.2] at hx
    exact h.outs x hx hs.1
  · intro x hx
    have hxv : x ≠ v := fun e => hx (e ▸ hv)
    exact ⟨hNe x hxv, hlow x hxv⟩
  · intro x hx hx'
    by_cases hxv : x = v
    · rw [hxv, hNv]; omega
    · rw [hNe x hxv] at hx'; exact absurd hx hx'
  · rw [hNv, hL, if_pos rfl]; exact Nat.le_refl _
  · right; rw [hNv, hL, if_pos rfl]
  · intro x hx hs hxv
    rcases (hmem x).1 hx with h1 | h1
    · exact absurd h1 hs
    · exact absurd h1 hxv
end
end Go.Proofs.Ytjbgealnnlmchaa.G
