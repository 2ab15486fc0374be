/- Sets of integers as rising spans: membership, putting in, taking away; a set has one list of spans. Plain Lean, no program. -/
import Derived.WalkKit
namespace Go.Proofs.Ytmcecmcnbhhniaa.G

structure Sp where
  lo : Int
  hi : Int
def inS (l : List Sp) (n : Int) : Prop := ∃ x ∈ l, x.lo ≤ n ∧ n ≤ x.hi
structure WF (l : List Sp) : Prop where
  ok : ∀ x ∈ l, 0 ≤ x.lo ∧ x.lo ≤ x.hi ∧ x.hi ≤ 1000000
  apart : l.Pairwise (fun a b => a.hi + 1 < b.lo)
theorem inS_nil (n : Int) : ¬ inS [] n := fun ⟨_, h, _⟩ => by cases h
theorem inS_cons (x : Sp) (l : List Sp) (n : Int) : inS (x :: l) n ↔ (x.lo ≤ n ∧ n ≤ x.hi) ∨ inS l n := by
  constructor
  · rintro ⟨y, hy, h⟩
    rcases List.mem_cons.1 hy with rfl | hy
    · exact .inl h
    · exact .inr ⟨y, hy, h⟩
  · rintro (h | ⟨y, hy, h⟩)
    · exact ⟨x, List.mem_cons_self .., h⟩
    · exact ⟨y, List.mem_cons_of_mem _ hy, h⟩
theorem inS_append (l m : List Sp) (n : Int) : inS (l ++ m) n ↔ inS l n ∨ inS m n := by
  induction l with
  | nil => simp [inS_nil]
  | cons x l ih => rw [List.cons_append, inS_cons, inS_cons, ih, or_assoc]
theorem WF.nil : WF [] := ⟨by simp, List.Pairwise.nil⟩
theorem WF.tail {x : Sp} {l : List Sp} (h : WF (x :: l)) : WF l := ⟨fun y hy => h.ok y (List.mem_cons_of_mem _ hy), (List.pairwise_cons.1 h.apart).2⟩
theorem WF.head {x : Sp} {l : List Sp} (h : WF (x :: l)) : 0 ≤ x.lo ∧ x.lo ≤ x.hi ∧ x.hi ≤ 1000000 := h.ok x (List.mem_cons_self ..)
theorem WF.next {x : Sp} {l : List Sp} (h : WF (x :: l)) : ∀ y ∈ l, x.hi + 1 < y.lo := (List.pairwise_cons.1 h.apart).1
theorem WF.cons {x : Sp} {l : List Sp} (hx : 0 ≤ x.lo ∧ x.lo ≤ x.hi ∧ x.hi ≤ 1000000) (h : WF l) (hn : ∀ y ∈ l, x.hi + 1 < y.lo) : WF (x :: l) :=
  ⟨fun y hy => by rcases List.mem_cons.1 hy with rfl | hy; exact hx; exact h.ok y hy, List.pairwise_cons.2 ⟨hn, h.apart⟩⟩
theorem WF.append {l m : List Sp} (hl : WF l) (hm : WF m) (h : ∀ x ∈ l, ∀ y ∈ m, x.hi + 1 < y.lo) : WF (l ++ m) :=
  ⟨fun x hx => by rcases List.mem_append.1 hx with hx | hx; exact hl.ok x hx; exact hm.ok x hx, List.pairwise_append.2 ⟨hl.apart, hm.apart, h⟩⟩
theorem WF.left {l m : List Sp} (h : WF (l ++ m)) : WF l := ⟨fun x hx => h.ok x (List.mem_append_left _ hx), (List.pairwise_append.1 h.apart).1⟩
theorem WF.right {l m : List Sp} (h : WF (l ++ m)) : WF m := ⟨fun x hx => h.ok x (List.mem_append_right _ hx), (List.pairwise_append.1 h.apart).2.1⟩
theorem WF.across {l m : List Sp} (h : WF (l ++ m)) : ∀ x ∈ l, ∀ y ∈ m, x.hi + 1 < y.lo := (List.pairwise_append.1 h.apart).2.2
theorem WF.range {l : List Sp} (h : WF l) {n : Int} (hn : inS l n) : 0 ≤ n ∧ n ≤ 1000000 := by
  obtain ⟨x, hx, h1, h2⟩ := hn
  have := h.ok x hx
  omega
/-- The first span that does not end ahead of n. -/
def atS (l : List Sp) (n : Int) : Nat := l.findIdx (fun x => decide (n ≤ x.hi))
theorem atS_nil (n : Int) : atS [] n = 0 := rfl
theorem atS_cons (x : Sp) (l : List Sp) (n : Int) : atS (x :: l) n = if n ≤ x.hi then 0 else atS l n + 1 := by
  unfold atS
  rw [List.findIdx_cons]
  by_cases h : n ≤ x.hi
  · simp [h]
  · simp [h]
theorem atS_le (l : List Sp) (n : Int) : atS l n ≤ l.length := List.findIdx_le_length
theorem at_split {l : List Sp} (h : WF l) (n : Int) : (∀ x ∈ l.take (atS l n), x.hi < n) ∧ (∀ x ∈ l.drop (atS l n), n ≤ x.hi) := by
  induction l with
  | nil => simp
  | cons x l ih =>
    have hx := h.head
    obtain ⟨h1, h2⟩ := ih h.tail
    rw [atS_cons]
    split
    · rename_i hle
      refine ⟨by simp, fun y hy => ?_⟩
      rw [List.drop_zero] at hy
      rcases List.mem_cons.1 hy with rfl | hy
      · exact hle
      · have := h.next y hy
        have := h.tail.ok y hy
        omega
    · rename_i hle
      refine ⟨fun y hy => ?_, fun y hy => h2 y (by simpa using hy)⟩
      rw [List.take_succ_cons] at hy
      rcases List.mem_cons.1 hy with rfl | hy
      · omega
      · exact h1 y hy
/-- The place is the only one of its kind. -/
theorem at_only {l : List Sp} {n : Int} {k : Nat} (hk : k ≤ l.length) (h1 : ∀ i x, i < k → l[i]? = some x → x.hi < n) (h2 : ∀ x, l[k]? = some x → n ≤ x.hi) : atS l n = k := by
  induction l generalizing k with
  | nil => simp at hk; subst hk; rfl
  | cons x l ih =>
    rw [atS_cons]
    cases k with
    | zero =>
      have := h2 x rfl
      rw [if_pos this]
    | succ k =>
      have := h1 0 x (by omega) rfl
      rw [if_neg (by omega), ih (k := k) (by simpa using hk) (fun i y hi hy => h1 (i + 1) y (by omega) (by simpa using hy)) (fun y hy => h2 y (by simpa using hy))]
def hasS (l : List Sp) (n : Int) : Bool := match l[atS l n]? with | some x => decide (x.lo ≤ n) | none => false
theorem hasS_iff {l : List Sp} (h : WF l) (n : Int) : hasS l n = true ↔ inS l n := by
  induction l with
  | nil => simp [hasS, atS_nil, inS_nil]
  | cons x l ih =>
    rw [inS_cons, ← ih h.tail]
    unfold hasS
    rw [atS_cons]
    by_cases hle : n ≤ x.hi
    · rw [if_pos hle]
      show decide (x.lo ≤ n) = true ↔ _
      rw [decide_eq_true_eq]
      constructor
      · exact fun hx => .inl ⟨hx, hle⟩
      · rintro (hx | hx)
        · exact hx.1
        · have hi : inS l n := (ih h.tail).1 hx
          obtain ⟨y, hy, h3, _⟩ := hi
          have := h.next y hy
          omega
    · rw [if_neg hle]
      constructor
      · exact fun hx => .inr hx
      · rintro (hx | hx)
        · omega
        · exact hx
theorem hasS_false {l : List Sp} (h : WF l) (n : Int) : hasS l n = false ↔ ¬ inS l n := by
  rw [← hasS_iff h]; simp
/-- What put makes of spans. -/
def upS (l : List Sp) (hi : Int) : Nat := match l[atS l (hi + 1)]? with | some x => if x.lo ≤ hi + 1 then atS l (hi + 1) + 1 else atS l (hi + 1) | none => atS l (hi + 1)
def newSp (l : List Sp) (lo hi : Int) (i j : Nat) : Sp :=
  if i < j then ⟨min lo ((l[i]?.getD ⟨0, 0⟩).lo), max hi ((l[j - 1]?.getD ⟨0, 0⟩).hi)⟩ else ⟨lo, hi⟩
def putS (l : List Sp) (lo hi : Int) : List Sp :=
  l.take (atS l (lo - 1)) ++ newSp l lo hi (atS l (lo - 1)) (upS l hi) :: l.drop (upS l hi)
theorem upS_le (l : List Sp) (hi : Int) : upS l hi ≤ l.length := by
  unfold upS
  split
  · rename_i x hx
    have := (List.getElem?_eq_some_iff.1 hx).1
    split <;> omega
  · exact atS_le _ _
theorem at_mono {l : List Sp} (h : WF l) {a b : Int} (hab : a ≤ b) : atS l a ≤ atS l b := by
  induction l with
  | nil => simp [atS_nil]
  | cons x l ih =>
    rw [atS_cons, atS_cons]
    split <;> split <;> first | omega | exact Nat.succ_le_succ (ih h.tail)
theorem atS_le_upS {l : List Sp} (h : WF l) {lo hi : Int} (hlh : lo ≤ hi) : atS l (lo - 1) ≤ upS l hi := by
  have := at_mono h (show lo - 1 ≤ hi + 1 by omega)
  unfold upS
  split
  · split <;> omega
  · exact this
theorem up_split {l : List Sp} (h : WF l) (hi : Int) : (∀ x ∈ l.take (upS l hi), x.lo ≤ hi + 1) ∧ (∀ x ∈ l.drop (upS l hi), hi + 1 < x.lo) := by
  obtain ⟨h1, h2⟩ := at_split h (hi + 1)
  unfold upS
  generalize atS l (hi + 1) = k at h1 h2 ⊢
  have h1' : ∀ x ∈ l.take k, x.lo ≤ hi + 1 := fun x hx => by
    have := h1 x hx
    have := h.ok x (List.mem_of_mem_take hx)
    omega
  cases hk : l[k]? with
  | none =>
    refine ⟨h1', fun x hx => ?_⟩
    have := List.getElem?_eq_none_iff.1 hk
    rw [List.drop_eq_nil_of_le this] at hx
    cases hx
  | some y =>
    obtain ⟨hlt, hy⟩ := List.getElem?_eq_some_iff.1 hk
    have hd : l.drop k = y :: l.drop (k + 1) := by rw [List.drop_eq_getElem_cons hlt, hy]
    have hw : WF (y :: l.drop (k + 1)) := by rw [← hd]; exact (show WF (l.take k ++ l.drop k) by rw [List.take_append_drop]; exact h).right
    dsimp only
    split
    · rename_i hle
      refine ⟨fun x hx => ?_, fun x hx => ?_⟩
      · rw [List.take_add_one, hk] at hx
        rcases List.mem_append.1 hx with hx | hx
        · exact h1' x hx
        · obtain rfl : x = y := by simpa using hx
          exact hle
      · have h3 := hw.next x hx
        have h4 := h2 y (by rw [hd]; exact List.mem_cons_self ..)
        omega
    · rename_i hle
      refine ⟨h1', fun x hx => ?_⟩
      rw [hd] at hx
      rcases List.mem_cons.1 hx with rfl | hx
      · omega
      · have h3 := hw.next x hx
        have h4 := hw.head
        omega
theorem drop_take_mid (l : List Sp) (i j : Nat) (h : i ≤ j) : l = l.take i ++ ((l.take j).drop i ++ l.drop j) := by
  have h1 : l.take i = (l.take j).take i := by rw [List.take_take, Nat.min_eq_left h]
  rw [h1, ← List.append_assoc, List.take_append_drop, List.take_append_drop]
theorem put_spec {l : List Sp} (h : WF l) {lo hi : Int} (h0 : 0 ≤ lo) (hlh : lo ≤ hi) (h9 : hi ≤ 1000000) :
    WF (putS l lo hi) ∧ ∀ n, inS (putS l lo hi) n ↔ inS l n ∨ (lo ≤ n ∧ n ≤ hi) := by
  have hij := atS_le_upS h hlh
  have hj := upS_le l hi
  obtain ⟨a1, a2⟩ := at_split h (lo - 1)
  obtain ⟨b1, b2⟩ := up_split h hi
  unfold putS
  generalize atS l (lo - 1) = i at a1 a2 hij ⊢
  generalize upS l hi = j at b1 b2 hij hj ⊢
  have hl := drop_take_mid l i j hij
  generalize hA : l.take i = A at a1 hl ⊢
  generalize hB : (l.take j).drop i = B at hl
  generalize hD : l.drop j = D at b2 hl ⊢
  have hW : WF (A ++ (B ++ D)) := by rw [← hl]; exact h
  have hwA := hW.left
  have hwB := hW.right.left
  have hwD := hW.right.right
  have hB1 : ∀ x ∈ B, lo - 1 ≤ x.hi := fun x hx => a2 x (by
    rw [← hB, List.drop_take] at hx
    exact List.mem_of_mem_take hx)
  have hB2 : ∀ x ∈ B, x.lo ≤ hi + 1 := fun x hx => b1 x (by rw [← hB] at hx; exact List.mem_of_mem_drop hx)
  have hlen : B.length = j - i := by rw [← hB, List.length_drop, List.length_take]; omega
  -- the new span
  have hnew : ∃ lo' hi', newSp l lo hi i j = ⟨lo', hi'⟩ ∧ lo' ≤ lo ∧ hi ≤ hi' ∧ (∀ x ∈ B, lo' ≤ x.lo ∧ x.hi ≤ hi') ∧ 0 ≤ lo' ∧ hi' ≤ 1000000 ∧ (∀ x ∈ A, x.hi + 1 < lo') ∧ (∀ y ∈ D, hi' + 1 < y.lo) ∧ (∀ n, lo' ≤ n → n ≤ hi' → inS B n ∨ (lo ≤ n ∧ n ≤ hi)) := by
    unfold newSp
    split
    · rename_i hlt
      have hb0 : B[0]? = l[i]? := by rw [← hB, List.getElem?_drop, List.getElem?_take]; simp [hlt]
      have hb9 : B[B.length - 1]? = l[j - 1]? := by rw [hlen, ← hB, List.getElem?_drop, List.getElem?_take, show i + (j - i - 1) = j - 1 by omega]; simp [show j - 1 < j by omega]
      obtain ⟨p, hp⟩ : ∃ p, B[0]? = some p := ⟨_, List.getElem?_eq_getElem (by omega)⟩
      obtain ⟨q, hq⟩ : ∃ q, B[B.length - 1]? = some q := ⟨_, List.getElem?_eq_getElem (by omega)⟩
      rw [← hb0, ← hb9, hp, hq]
      have hpm := List.mem_of_getElem? hp
      have hqm := List.mem_of_getElem? hq
      have hlow : ∀ x ∈ B, p.lo ≤ x.lo := fun x hx => by
        obtain ⟨k, hk⟩ := List.mem_iff_getElem?.1 hx
        obtain ⟨hk1, hk2⟩ := List.getElem?_eq_some_iff.1 hk
        obtain ⟨hp1, hp2⟩ := List.getElem?_eq_some_iff.1 hp
        rcases Nat.eq_zero_or_pos k with rfl | hpos
        · rw [hp] at hk; injection hk with hk; subst hk; omega
        · have := List.pairwise_iff_getElem.1 hwB.apart 0 k hp1 hk1 hpos
          rw [hp2, hk2] at this
          have := hwB.ok p hpm
          omega
      have hhigh : ∀ x ∈ B, x.hi ≤ q.hi := fun x hx => by
        obtain ⟨k, hk⟩ := List.mem_iff_getElem?.1 hx
        obtain ⟨hk1, hk2⟩ := List.getElem?_eq_some_iff.1 hk
        obtain ⟨hq1, hq2⟩ := List.getElem?_eq_some_iff.1 hq
        rcases Nat.lt_or_ge k (B.length - 1) with hlt | hge
        · have := List.pairwise_iff_getElem.1 hwB.apart k (B.length - 1) hk1 hq1 hlt
          rw [hk2, hq2] at this
          have := hwB.ok q hqm
          omega
        · obtain rfl : k = B.length - 1 := by omega
          rw [hq] at hk; injection hk with hk; subst hk; omega
      have hpo := hwB.ok p hpm
      have hqo := hwB.ok q hqm
      have hp1 := hB1 p hpm
      have hq1 := hB2 q hqm
      refine ⟨_, _, rfl, by simp only [Option.getD_some]; omega, by simp only [Option.getD_some]; omega, fun x hx => ?_, by simp only [Option.getD_some]; omega, by simp only [Option.getD_some]; omega, fun x hx => ?_, fun y hy => ?_, fun n h1 h2 => ?_⟩
      · have := hlow x hx
        have := hhigh x hx
        simp only [Option.getD_some]
        omega
      · have := a1 x hx
        have := hW.across x hx p (List.mem_append_left _ hpm)
        simp only [Option.getD_some]
        omega
      · have := b2 y hy
        have := hW.right.across q hqm y hy
        simp only [Option.getD_some]
        omega
      · simp only [Option.getD_some] at h1 h2
        by_cases c1 : n < lo
        · exact .inl ⟨p, hpm, by omega, by omega⟩
        · by_cases c2 : hi < n
          · exact .inl ⟨q, hqm, by omega, by omega⟩
          · exact .inr ⟨by omega, by omega⟩
    · rename_i hnl
      have hb : B = [] := List.eq_nil_of_length_eq_zero (by omega)
      refine ⟨lo, hi, rfl, by omega, by omega, by simp [hb], h0, h9, fun x hx => by have := a1 x hx; omega, fun y hy => by have := b2 y hy; omega, fun n h1 h2 => .inr ⟨h1, h2⟩⟩
  obtain ⟨lo', hi', hn, c1, c2, c3, c4, c5, c6, c7, c8⟩ := hnew
  rw [hn]
  constructor
  · refine WF.append hwA (WF.cons ⟨c4, by show lo' ≤ hi'; omega, c5⟩ hwD c7) (fun x hx y hy => ?_)
    rcases List.mem_cons.1 hy with rfl | hy
    · exact c6 x hx
    · have := c6 x hx
      have := c7 y hy
      omega
  · intro n
    rw [hl, inS_append, inS_append, inS_append, inS_cons]
    constructor
    · rintro (k | k | k)
      · exact .inl (.inl k)
      · rcases c8 n k.1 k.2 with k | k
        · exact .inl (.inr (.inl k))
        · exact .inr k
      · exact .inl (.inr (.inr k))
    · rintro ((k | k | k) | k)
      · exact .inl k
      · obtain ⟨x, hx, k1, k2⟩ := k
        have := c3 x hx
        exact .inr (.inl ⟨by show lo' ≤ n; omega, by show n ≤ hi'; omega⟩)
      · exact .inr (.inr k)
      · exact .inr (.inl ⟨by show lo' ≤ n; omega, by show n ≤ hi'; omega⟩)
/-- A set has one list of spans. -/
theorem WF.only {l m : List Sp} (hl : WF l) (hm : WF m) (h : ∀ n, inS l n ↔ inS m n) : l = m := by
  induction l generalizing m with
  | nil =>
    cases m with
    | nil => rfl
    | cons y m => exact absurd ((h y.lo).2 ((inS_cons ..).2 (.inl ⟨by omega, hm.head.2.1⟩))) (inS_nil _)
  | cons x l ih =>
    cases m with
    | nil => exact absurd ((h x.lo).1 ((inS_cons ..).2 (.inl ⟨by omega, hl.head.2.1⟩))) (inS_nil _)
    | cons y m =>
      have hx := hl.head
      have hy := hm.head
      have lows : ∀ {a : Sp} {k : List Sp} {n : Int}, WF (a :: k) → inS (a :: k) n → a.lo ≤ n ∧ (n ≤ a.hi ∨ a.hi + 1 < n) := fun {a k n} hw hn => by
        rcases (inS_cons ..).1 hn with hn | ⟨z, hz, h1, h2⟩
        · exact ⟨hn.1, .inl hn.2⟩
        · have := hw.next z hz
          have := hw.head
          exact ⟨by omega, .inr (by omega)⟩
      have e1 := lows hm ((h x.lo).1 ((inS_cons ..).2 (.inl ⟨by omega, hx.2.1⟩)))
      have e2 := lows hl ((h y.lo).2 ((inS_cons ..).2 (.inl ⟨by omega, hy.2.1⟩)))
      have elo : x.lo = y.lo := by omega
      have e3 := lows hm ((h x.hi).1 ((inS_cons ..).2 (.inl ⟨hx.2.1, by omega⟩)))
      have e4 := lows hl ((h y.hi).2 ((inS_cons ..).2 (.inl ⟨hy.2.1, by omega⟩)))
      have ehi : x.hi = y.hi := by
        rcases e3.2 with h1 | h1
        · rcases e4.2 with h2 | h2
          · omega
          · exfalso
            have e5 := lows hl ((h (x.hi + 1)).2 ((inS_cons ..).2 (.inl ⟨by omega, by omega⟩)))
            omega
        · exfalso
          have e5 := lows hm ((h (y.hi + 1)).1 ((inS_cons ..).2 (.inl ⟨by omega, by omega⟩)))
          omega
      have hxy : x = y := by cases x; cases y; simp only at elo ehi; rw [elo, ehi]
      subst hxy
      rw [ih hl.tail hm.tail (fun n => ?_)]
      have hn := h n
      rw [inS_cons, inS_cons] at hn
      have back : ∀ {k : List Sp}, WF (x :: k) → inS k n → ¬ (x.lo ≤ n ∧ n ≤ x.hi) := fun {k} hw ⟨z, hz, h1, h2⟩ => by
        have := hw.next z hz
        omega
      constructor
      · intro hk
        rcases hn.1 (.inr hk) with h1 | h1
        · exact absurd h1 (back hl hk)
        · exact h1
      · intro hk
        rcases hn.2 (.inr hk) with h1 | h1
        · exact absurd h1 (back hm hk)
        · exact h1
end Go.Proofs.Ytmcecmcnbhhniaa.G
