/- Graphs: what a point leads to; groups. The walk in depth that tells them (Tarjan's), as a plain function. Plain Lean. -/
set_option linter.unusedVariables false
namespace Go.Proofs.Ytjbgealnnlmchaa.G

inductive Rch (E : Nat → Nat → Prop) : Nat → Nat → Prop
  | refl (a : Nat) : Rch E a a
  | tail {a b c : Nat} : Rch E a b → E b c → Rch E a c
theorem Rch.one {E : Nat → Nat → Prop} {a b : Nat} (h : E a b) : Rch E a b := (Rch.refl a).tail h
theorem Rch.trans {E : Nat → Nat → Prop} {a b c : Nat} (h : Rch E a b) (k : Rch E b c) : Rch E a c := by
  induction k with
  | refl => exact h
  | tail _ e ih => exact ih.tail e
theorem Rch.head {E : Nat → Nat → Prop} {a b c : Nat} (h : E a b) (k : Rch E b c) : Rch E a c := (Rch.one h).trans k
def Scc (E : Nat → Nat → Prop) (a b : Nat) : Prop := Rch E a b ∧ Rch E b a
theorem Scc.symm {E : Nat → Nat → Prop} {a b : Nat} (h : Scc E a b) : Scc E b a := ⟨h.2, h.1⟩
theorem Scc.refl (E : Nat → Nat → Prop) (a : Nat) : Scc E a a := ⟨.refl a, .refl a⟩
theorem Scc.trans {E : Nat → Nat → Prop} {a b c : Nat} (h : Scc E a b) (k : Scc E b c) : Scc E a c := ⟨h.1.trans k.1, k.2.trans h.2⟩
/-- w is the least of v's group. -/
def IsGrp (E : Nat → Nat → Prop) (v w : Nat) : Prop := Scc E v w ∧ ∀ u, Scc E v u → w ≤ u
theorem IsGrp.unique {E : Nat → Nat → Prop} {v w w' : Nat} (h : IsGrp E v w) (k : IsGrp E v w') : w = w' := Nat.le_antisymm (h.2 _ k.1) (k.2 _ h.1)
theorem IsGrp.same {E : Nat → Nat → Prop} {v u w : Nat} (h : IsGrp E v w) (k : Scc E v u) : IsGrp E u w := ⟨k.symm.trans h.1, fun x hx => h.2 x (k.trans hx)⟩
/-- A path that leaves a set has an edge that leaves it. -/
theorem Rch.leaves {E : Nat → Nat → Prop} {T : Nat → Prop} {a b : Nat} (h : Rch E a b) (ha : T a) (hb : ¬ T b) : ∃ x y, T x ∧ ¬ T y ∧ E x y ∧ Rch E a x ∧ Rch E y b := by
  induction h with
  | refl => exact absurd ha hb
  | @tail b c hab e ih =>
    by_cases hT : T b
    · exact ⟨b, c, hT, hb, e, hab, .refl c⟩
    · obtain ⟨x, y, h1, h2, h3, h4, h5⟩ := ih hT
      exact ⟨x, y, h1, h2, h3, h4, h5.tail e⟩
/-- A path from a set that nothing leaves stays. -/
theorem Rch.stays {E : Nat → Nat → Prop} {T : Nat → Prop} {a b : Nat} (h : Rch E a b) (ha : T a) (hT : ∀ x y, T x → E x y → T y) : T b := by
  induction h with
  | refl => exact ha
  | tail _ e ih => exact hT _ _ ih e

structure TS where
  last : Nat
  num : List Nat
  low : List Nat
  stack : List Nat
  opn : List Bool
  out : List Nat
def TS.N (s : TS) (x : Nat) : Nat := s.num.getD x 0
def TS.L (s : TS) (x : Nat) : Nat := s.low.getD x 0
def push (v : Nat) (s : TS) : TS := ⟨s.last + 1, s.num.set v (s.last + 1), s.low.set v (s.last + 1), s.stack ++ [v], s.opn.set v true, s.out⟩
def lowTo (v x : Nat) (s : TS) : TS := { s with low := s.low.set v (min (s.L v) x) }
def leastOf : List Nat → Nat
  | [] => 0
  | x :: l => l.foldl min x
def popV (v : Nat) (s : TS) : TS :=
  { s with stack := s.stack.take (s.stack.idxOf v), opn := (s.stack.drop (s.stack.idxOf v)).foldl (fun o w => o.set w false) s.opn, out := (s.stack.drop (s.stack.idxOf v)).foldl (fun o w => o.set w (leastOf (s.stack.drop (s.stack.idxOf v)))) s.out }
def endV (v : Nat) (s : TS) : Option TS := if s.L v < s.N v then some s else if v ∈ s.stack then some (popV v s) else none
def stepF (f : Nat → TS → Option TS) (v : Nat) (s : TS) (w : Nat) : Option TS :=
  if s.N w = 0 then (f w s).map (fun s' => lowTo v (s'.L w) s') else if s.opn.getD w false = true then some (lowTo v (s.N w) s) else some s
def vis (g : List (List Nat)) : Nat → Nat → TS → Option TS
  | 0, _, _ => none
  | d + 1, v, s => if s.last < 1000000 ∧ s.stack.length < 1000000 then ((g.getD v []).foldlM (stepF (vis g d) v) (push v s)).bind (endV v) else none
def stepA (g : List (List Nat)) (d : Nat) (s : TS) (v : Nat) : Option TS := if s.N v = 0 then vis g d v s else some s
def initS (n : Nat) : TS := ⟨0, List.replicate n 0, List.replicate n 0, [], List.replicate n false, List.replicate n 0⟩
def groupsT (g : List (List Nat)) : Option TS := (List.range g.length).foldlM (stepA g (g.length + 1)) (initS g.length)

/-! ### What stays within bounds -/
structure Wf (n : Nat) (s : TS) : Prop where
  num : s.num.length = n
  low : s.low.length = n
  opn : s.opn.length = n
  out : s.out.length = n
  stk : ∀ x ∈ s.stack, x < n
theorem Wf.push {n v : Nat} {s : TS} (h : Wf n s) (hv : v < n) : Wf n (push v s) :=
  ⟨by show (s.num.set _ _).length = n; rw [List.length_set]; exact h.num, by show (s.low.set _ _).length = n; rw [List.length_set]; exact h.low, by show (s.opn.set _ _).length = n; rw [List.length_set]; exact h.opn, h.out, fun x hx => by
    rcases List.mem_append.1 hx with h1 | h1
    · exact h.stk x h1
    · rw [List.mem_singleton.1 h1]; exact hv⟩
theorem Wf.lowTo {n v x : Nat} {s : TS} (h : Wf n s) : Wf n (lowTo v x s) := ⟨h.num, by show (s.low.set _ _).length = n; rw [List.length_set]; exact h.low, h.opn, h.out, h.stk⟩
theorem foldl_set_len {α : Type} (l : List Nat) (a : α) : ∀ o : List α, (l.foldl (fun o w => o.set w a) o).length = o.length := by
  induction l with
  | nil => intro o; rfl
  | cons x l ih => intro o; rw [List.foldl_cons, ih, List.length_set]
theorem Wf.endV {n v : Nat} {s s' : TS} (h : Wf n s) (he : endV v s = some s') : Wf n s' := by
  unfold Go.Proofs.Ytjbgealnnlmchaa.G.endV at he
  split at he
  · injection he with he; rw [← he]; exact h
  · split at he
    · injection he with he
      rw [← he]
      exact ⟨h.num, h.low, (foldl_set_len _ _ _).trans h.opn, (foldl_set_len _ _ _).trans h.out, fun x hx => h.stk x (List.mem_of_mem_take hx)⟩
    · cases he
theorem Wf.foldlM {n : Nat} {f : TS → Nat → Option TS} {q : Nat → Prop} (hf : ∀ s s' w, q w → Wf n s → f s w = some s' → Wf n s') : ∀ (l : List Nat) (s s' : TS), (∀ w ∈ l, q w) → Wf n s → l.foldlM f s = some s' → Wf n s'
  | [], s, s', _, h, he => by
    rw [List.foldlM_nil] at he
    injection he with he
    rw [← he]; exact h
  | w :: l, s, s', hq, h, he => by
    rw [List.foldlM_cons] at he
    obtain ⟨s1, h1, h2⟩ := Option.bind_eq_some_iff.1 he
    exact Wf.foldlM hf l s1 s' (fun w hw => hq w (List.mem_cons_of_mem _ hw)) (hf s s1 w (hq w List.mem_cons_self) h h1) h2
theorem Wf.stepF {n v : Nat} {f : Nat → TS → Option TS} (hf : ∀ w s s', w < n → Wf n s → f w s = some s' → Wf n s') (s s' : TS) (w : Nat) (hw : w < n) (h : Wf n s) (he : stepF f v s w = some s') : Wf n s' := by
  unfold Go.Proofs.Ytjbgealnnlmchaa.G.stepF at he
  split at he
  · obtain ⟨s1, h1, h2⟩ := Option.map_eq_some_iff.1 he
    rw [← h2]
    exact (hf w s s1 hw h h1).lowTo
  · split at he
    · injection he with he; rw [← he]; exact h.lowTo
    · injection he with he; rw [← he]; exact h
theorem Wf.vis {n : Nat} {g : List (List Nat)} (hg : ∀ v, ∀ w ∈ g.getD v [], w < n) : ∀ (d v : Nat) (s s' : TS), v < n → Wf n s → vis g d v s = some s' → Wf n s' := by
  intro d
  induction d with
  | zero => intro v s s' _ _ he; cases he
  | succ d ih =>
    intro v s s' hv h he
    unfold Go.Proofs.Ytjbgealnnlmchaa.G.vis at he
    split at he
    · obtain ⟨s1, h1, h2⟩ := Option.bind_eq_some_iff.1 he
      exact (Wf.foldlM (q := fun w => w < n) (fun a b w hw ha hb => Wf.stepF (fun w s s' hw hs he => ih w s s' hw hs he) a b w hw ha hb) _ _ _ (hg v) (h.push hv) h1).endV h2
    · cases he
end Go.Proofs.Ytjbgealnnlmchaa.G
