/- scc.Order's links between groups, how many stand ahead of each; its choice is greedy's. Plain Lean. -/
import Derived.Test.YtdobjmbfkdfdcaaPg
set_option linter.unusedVariables false
set_option linter.unusedSimpArgs false
namespace Go.Proofs.Ytdobjmbfkdfdcaa.G
open Go.RowKit Go.Proofs.Ytdobjmbfkdfdcaa.B Go.Proofs.YtdobjmbfkdfdcaaW.PrintWords Go.Proofs.YtdobjmbfkdfdcaaW.PrintLast Go.Proofs.YtdobjmbfkdfdcaaW.PrintMore

def linkE (r : List Nat) (v w : Nat) : S33 := ⟨((r.getD v 0 : Nat) : Int), 0, ((r.getD w 0 : Nat) : Int)⟩
def linkS (r : List Nat) (v : Nat) (p : List S33 × List Int) (w : Nat) : List S33 × List Int :=
  if r.getD v 0 = r.getD w 0 then p else (p.1 ++ [linkE r v w], p.2.set (r.getD w 0) (p.2.getD (r.getD w 0) 0 + 1))
def linksS (G : List (List Nat)) (r : List Nat) : Nat → List S33 × List Int
  | 0 => ([], List.replicate G.length 0)
  | v + 1 => (G.getD v []).foldl (linkS r v) (linksS G r v)
/-- What is known of the links between groups. -/
structure BtI (N : Nat) (r : List Nat) (L : Nat → Nat → Prop) (p : List S33 × List Int) : Prop where
  mem : ∀ e, e ∈ p.1 ↔ ∃ v w, L v w ∧ r.getD v 0 ≠ r.getD w 0 ∧ e = linkE r v w
  len : p.2.length = N
  cnt : ∀ b, b < N → p.2.getD b 0 = ((p.1.countP (fun e => decide (e.f2 = (b : Int))) : Nat) : Int)
theorem BtI.link {N : Nat} {r : List Nat} {L : Nat → Nat → Prop} {p : List S33 × List Int} (h : BtI N r L p) (v w : Nat) (hw : r.getD w 0 < N) : BtI N r (fun a b => L a b ∨ (a = v ∧ b = w)) (linkS r v p w) := by
  unfold linkS
  by_cases hc : r.getD v 0 = r.getD w 0
  · rw [if_pos hc]
    refine ⟨fun e => (h.mem e).trans ⟨fun ⟨a, b, h1, h2, h3⟩ => ⟨a, b, .inl h1, h2, h3⟩, ?_⟩, h.len, h.cnt⟩
    rintro ⟨a, b, h1 | ⟨rfl, rfl⟩, h2, h3⟩
    · exact ⟨a, b, h1, h2, h3⟩
    · exact absurd hc h2
  · rw [if_neg hc]
    refine ⟨fun e => ?_, by show (List.set _ _ _).length = N; rw [List.length_set]; exact h.len, fun b hb => ?_⟩
    · show e ∈ p.1 ++ _ ↔ _
      rw [List.mem_append, List.mem_singleton, h.mem e]
      constructor
      · rintro (⟨a, b, h1, h2, h3⟩ | rfl)
        · exact ⟨a, b, .inl h1, h2, h3⟩
        · exact ⟨v, w, .inr ⟨rfl, rfl⟩, hc, rfl⟩
      · rintro ⟨a, b, h1 | ⟨rfl, rfl⟩, h2, h3⟩
        · exact .inl ⟨a, b, h1, h2, h3⟩
        · exact .inr h3
    · show (List.set _ _ _).getD b 0 = ((List.countP _ (p.1 ++ [linkE r v w]) : Nat) : Int)
      rw [getD_set _ _ _ _ _ (by rw [h.len]; exact hw), List.countP_append]
      have hone : [linkE r v w].countP (fun e => decide (e.f2 = (b : Int))) = if r.getD w 0 = b then 1 else 0 := by
        unfold linkE
        rw [List.countP_cons, List.countP_nil]
        by_cases hh : r.getD w 0 = b
        · rw [if_pos hh, if_pos (decide_eq_true (by show ((r.getD w 0 : Nat) : Int) = b; omega))]
        · rw [if_neg hh, if_neg (by rw [decide_eq_true_eq]; show ¬ ((r.getD w 0 : Nat) : Int) = b; omega)]
      rw [hone]
      have h1 := h.cnt b hb
      by_cases hh : r.getD w 0 = b
      · rw [if_pos hh, if_pos hh, hh]; omega
      · rw [if_neg hh, if_neg hh]; omega
theorem BtI.row {N : Nat} {r : List Nat} (hrN : ∀ v, v < N → r.getD v 0 < N) (v : Nat) : ∀ (ws : List Nat) {L : Nat → Nat → Prop} {p : List S33 × List Int}, BtI N r L p → (∀ w ∈ ws, w < N) → BtI N r (fun a b => L a b ∨ (a = v ∧ b ∈ ws)) (ws.foldl (linkS r v) p) := by
  intro ws
  induction ws with
  | nil =>
    intro L p h _
    rw [List.foldl_nil]
    exact ⟨fun e => (h.mem e).trans ⟨fun ⟨a, b, h1, h2⟩ => ⟨a, b, .inl h1, h2⟩, fun ⟨a, b, h1, h2⟩ => ⟨a, b, h1.elim id (fun h => by cases h.2), h2⟩⟩, h.len, h.cnt⟩
  | cons w ws ih =>
    intro L p h hw
    rw [List.foldl_cons]
    have h1 := ih (h.link v w (hrN w (hw w List.mem_cons_self))) (fun u hu => hw u (List.mem_cons_of_mem _ hu))
    refine ⟨fun e => (h1.mem e).trans ⟨fun ⟨a, b, k1, k2⟩ => ⟨a, b, ?_, k2⟩, fun ⟨a, b, k1, k2⟩ => ⟨a, b, ?_, k2⟩⟩, h1.len, h1.cnt⟩
    · rcases k1 with (k1 | ⟨rfl, rfl⟩) | ⟨rfl, k1⟩
      · exact .inl k1
      · exact .inr ⟨rfl, List.mem_cons_self⟩
      · exact .inr ⟨rfl, List.mem_cons_of_mem _ k1⟩
    · rcases k1 with k1 | ⟨rfl, k1⟩
      · exact .inl (.inl k1)
      · rcases List.mem_cons.1 k1 with rfl | k1
        · exact .inl (.inr ⟨rfl, rfl⟩)
        · exact .inr ⟨rfl, k1⟩
theorem links_ok {N : Nat} {l : List S33} {r : List Nat} (hrN : ∀ v, v < N → r.getD v 0 < N) : ∀ v, v ≤ N → BtI N r (fun a b => a < v ∧ EE N l a b) (linksS (graphS N l) r v) := by
  intro v
  induction v with
  | zero =>
    intro _
    unfold linksS
    refine ⟨fun e => ⟨fun h => (by cases h), fun ⟨a, b, h, _⟩ => absurd h.1 (Nat.not_lt_zero _)⟩, by rw [List.length_replicate, graphS_len], fun b hb => ?_⟩
    rw [List.getD_eq_getElem?_getD, List.getElem?_replicate, graphS_len, if_pos hb]
    rfl
  | succ v ih =>
    intro hv
    unfold linksS
    have h := BtI.row hrN v ((graphS N l).getD v []) (ih (by omega)) (fun w hw => (EE_lt ((graphS_mem N l v w).1 hw)).2)
    refine ⟨fun e => (h.mem e).trans ⟨fun ⟨a, b, k1, k2⟩ => ⟨a, b, ?_, k2⟩, fun ⟨a, b, k1, k2⟩ => ⟨a, b, ?_, k2⟩⟩, h.len, h.cnt⟩
    · rcases k1 with k1 | ⟨rfl, k1⟩
      · exact ⟨by omega, k1.2⟩
      · exact ⟨by omega, (graphS_mem N l a b).1 k1⟩
    · obtain ⟨k0, k1⟩ := k1
      by_cases hh : a = v
      · subst hh; exact .inr ⟨rfl, (graphS_mem N l a b).2 k1⟩
      · exact .inl ⟨by omega, k1⟩

/-! ### How many links -/
def sumL : List (List Nat) → Nat
  | [] => 0
  | r :: G => r.length + sumL G
theorem sumL_set : ∀ (G : List (List Nat)) (i : Nat) (x : List Nat), i < G.length → sumL (G.set i x) + (G.getD i []).length = sumL G + x.length
  | [], i, x, h => by simp at h
  | y :: G, 0, x, h => by simp [sumL]; omega
  | y :: G, i + 1, x, h => by
    have := sumL_set G i x (by simpa using h)
    simp only [List.set_cons_succ, sumL, List.getD_cons_succ]
    omega
theorem gfold_sum (N : Nat) : ∀ (l : List S33) (G : List (List Nat)), G.length = N → sumL (l.foldl (gstep N) G) ≤ sumL G + l.length := by
  intro l
  induction l with
  | nil => intro G _; simp
  | cons e l ih =>
    intro G hG
    rw [List.foldl_cons, List.length_cons]
    have h1 := ih (gstep N G e) (by rw [gstep_len]; exact hG)
    have h2 : sumL (gstep N G e) ≤ sumL G + 1 := by
      unfold gstep
      split
      · rename_i hc
        obtain ⟨c1, c2, c3, c4⟩ := hc
        have := sumL_set G e.f0.toNat (G.getD e.f0.toNat [] ++ [e.f2.toNat]) (by omega)
        rw [List.length_append, List.length_singleton] at this
        omega
      · omega
    omega
theorem sumL_rep : ∀ N, sumL (List.replicate N []) = 0
  | 0 => rfl
  | N + 1 => by rw [List.replicate_succ]; simp [sumL, sumL_rep N]
theorem graphS_sum (N : Nat) (l : List S33) : sumL (graphS N l) ≤ l.length := by
  have := gfold_sum N l (List.replicate N []) (by simp)
  rw [sumL_rep] at this
  unfold graphS
  omega
theorem sumL_take : ∀ (G : List (List Nat)) (v : Nat), sumL (G.take (v + 1)) = sumL (G.take v) + (G.getD v []).length
  | [], v => by simp [sumL]
  | x :: G, 0 => by simp [sumL]
  | x :: G, v + 1 => by
    have := sumL_take G v
    rw [List.take_succ_cons, List.take_succ_cons, List.getD_cons_succ]
    simp only [sumL]
    omega
theorem sumL_take_le : ∀ (G : List (List Nat)) (v : Nat), sumL (G.take v) ≤ sumL G
  | [], v => by simp
  | x :: G, 0 => by simp [sumL]
  | x :: G, v + 1 => by
    have := sumL_take_le G v
    rw [List.take_succ_cons]
    simp only [sumL]
    omega
theorem linkS_len (r : List Nat) (v : Nat) : ∀ (ws : List Nat) (p : List S33 × List Int), (ws.foldl (linkS r v) p).1.length ≤ p.1.length + ws.length ∧ (ws.foldl (linkS r v) p).2.length = p.2.length := by
  intro ws
  induction ws with
  | nil => intro p; exact ⟨by simp, rfl⟩
  | cons w ws ih =>
    intro p
    rw [List.foldl_cons, List.length_cons]
    have h1 := ih (linkS r v p w)
    have h2 : (linkS r v p w).1.length ≤ p.1.length + 1 ∧ (linkS r v p w).2.length = p.2.length := by
      unfold linkS
      split
      · exact ⟨by omega, rfl⟩
      · refine ⟨?_, ?_⟩
        · show (_ ++ [_] : List S33).length ≤ _
          rw [List.length_append, List.length_singleton]
          exact Nat.le_refl _
        · show (List.set _ _ _).length = _
          rw [List.length_set]
    omega
theorem links_len (G : List (List Nat)) (r : List Nat) : ∀ v, (linksS G r v).1.length ≤ sumL (G.take v)
  | 0 => by simp [linksS]
  | v + 1 => by
    unfold linksS
    have h1 := links_len G r v
    have h2 := (linkS_len r v (G.getD v []) (linksS G r v)).1
    rw [sumL_take]
    omega
/-- Within a row. -/
theorem links_in (N : Nat) (l : List S33) (r : List Nat) (v i : Nat) : ((((graphS N l).getD v []).take i).foldl (linkS r v) (linksS (graphS N l) r v)).1.length ≤ l.length := by
  have h1 := (linkS_len r v (((graphS N l).getD v []).take i) (linksS (graphS N l) r v)).1
  have h2 := links_len (graphS N l) r v
  have h3 := sumL_take (graphS N l) v
  have h4 := sumL_take_le (graphS N l) (v + 1)
  have h5 := graphS_sum N l
  have h6 := List.length_take_le i ((graphS N l).getD v [])
  have h7 : (((graphS N l).getD v []).take i).length ≤ ((graphS N l).getD v []).length := by rw [List.length_take]; omega
  omega

/-! ### What stands ahead -/
def decr (A : List Int) (ws : List Nat) : List Int := ws.foldl (fun A w => A.set w (A.getD w 0 - 1)) A
theorem decr_len : ∀ (ws : List Nat) (A : List Int), (decr A ws).length = A.length
  | [], A => rfl
  | w :: ws, A => by
    show (decr (A.set w _) ws).length = _
    rw [decr_len ws, List.length_set]
theorem decr_at (b : Nat) : ∀ (ws : List Nat) (A : List Int), (∀ w ∈ ws, w < A.length) → (decr A ws).getD b 0 = A.getD b 0 - ((ws.count b : Nat) : Int)
  | [], A, _ => by simp [decr]
  | w :: ws, A, h => by
    show (decr (A.set w _) ws).getD b 0 = _
    rw [decr_at b ws _ (fun u hu => by rw [List.length_set]; exact h u (List.mem_cons_of_mem _ hu)), getD_set _ _ _ _ _ (h w List.mem_cons_self), List.count_cons]
    by_cases hh : w = b
    · subst hh; simp; omega
    · rw [if_neg hh, if_neg (by simpa using hh)]; omega
theorem gfold_count (N v b : Nat) : ∀ (l : List S33) (G : List (List Nat)), G.length = N → ((l.foldl (gstep N) G).getD v []).count b = (G.getD v []).count b + l.countP (fun e => decide (okE N e ∧ e.f0 = (v : Int) ∧ e.f2 = (b : Int))) := by
  intro l
  induction l with
  | nil => intro G _; simp
  | cons e l ih =>
    intro G hG
    rw [List.foldl_cons, ih _ (by rw [gstep_len]; exact hG), gstep_at N G e hG, List.countP_cons]
    by_cases h : okE N e ∧ e.f0 = (v : Int)
    · rw [if_pos h, List.count_append, List.count_singleton]
      have h3 := h.1.2.2.1
      by_cases hb : e.f2 = (b : Int)
      · rw [if_pos (by simp; omega), if_pos (by simp only [decide_eq_true_eq]; exact ⟨h.1, h.2, hb⟩)]; omega
      · rw [if_neg (by simp; omega), if_neg (by simp only [decide_eq_true_eq]; exact fun k => hb k.2.2)]; omega
    · rw [if_neg h, if_neg (by simp only [decide_eq_true_eq]; exact fun k => h ⟨k.1, k.2.1⟩)]; omega
theorem graphS_count (N : Nat) (l : List S33) (v b : Nat) : ((graphS N l).getD v []).count b = l.countP (fun e => decide (okE N e ∧ e.f0 = (v : Int) ∧ e.f2 = (b : Int))) := by
  unfold graphS
  rw [gfold_count N v b l _ (by simp), rep_at]
  simp
/-- How many links from groups that aren't told stand ahead of each. -/
def AHOk (N : Nat) (bt : List S33) (D : List Bool) (A : List Int) : Prop :=
  A.length = N ∧ ∀ b, b < N → A.getD b 0 = ((bt.countP (fun e => decide (e.f2 = (b : Int)) && !D.getD e.f0.toNat false) : Nat) : Int)
theorem ah_start {N : Nat} {r : List Nat} {L : Nat → Nat → Prop} {p : List S33 × List Int} (h : BtI N r L p) : AHOk N p.1 (List.replicate N false) p.2 := by
  refine ⟨h.len, fun b hb => ?_⟩
  rw [h.cnt b hb]
  congr 2
  funext e
  have : (List.replicate N false).getD e.f0.toNat false = false := by
    rw [List.getD_eq_getElem?_getD, List.getElem?_replicate]
    split <;> rfl
  rw [this]
  simp
theorem ah_count {N : Nat} {D : List Bool} (hD : D.length = N) (v : Nat) (hv : v < N) (hf : D.getD v false = false) (b : Nat) : ∀ (bt : List S33), (∀ e ∈ bt, okE N e) →
    bt.countP (fun e => decide (e.f2 = (b : Int)) && !D.getD e.f0.toNat false) = bt.countP (fun e => decide (e.f2 = (b : Int)) && !(D.set v true).getD e.f0.toNat false) + bt.countP (fun e => decide (okE N e ∧ e.f0 = (v : Int) ∧ e.f2 = (b : Int))) := by
  intro bt
  induction bt with
  | nil => intro _; rfl
  | cons e bt ih =>
    intro h
    have he := h e List.mem_cons_self
    rw [List.countP_cons, List.countP_cons, List.countP_cons, ih (fun x hx => h x (List.mem_cons_of_mem _ hx)), getD_set _ _ _ _ _ (by omega)]
    have h0 := he.1
    by_cases hb : e.f2 = (b : Int)
    · rw [decide_eq_true hb, Bool.true_and, Bool.true_and]
      by_cases hvv : v = e.f0.toNat
      · have h2 : e.f0 = (v : Int) := by omega
        rw [if_pos hvv, ← hvv, hf, if_pos (by rfl), if_neg (by simp), if_pos (by simp only [decide_eq_true_eq]; exact ⟨he, h2, hb⟩)]
        omega
      · rw [if_neg hvv, if_neg (c := decide (okE N e ∧ _) = true) (by simp only [decide_eq_true_eq]; exact fun k => hvv (by omega))]
        omega
    · rw [decide_eq_false hb, Bool.false_and, Bool.false_and, if_neg (by simp), if_neg (c := decide (okE N e ∧ _) = true) (by simp only [decide_eq_true_eq]; exact fun k => hb k.2.2)]
      omega
theorem ah_step {N : Nat} {bt : List S33} {D : List Bool} {A : List Int} (h : AHOk N bt D A) (hok : ∀ e ∈ bt, okE N e) (hD : D.length = N) (v : Nat) (hv : v < N) (hf : D.getD v false = false) : AHOk N bt (D.set v true) (decr A ((graphS N bt).getD v [])) := by
  refine ⟨by rw [decr_len]; exact h.1, fun b hb => ?_⟩
  rw [decr_at b _ _ (fun w hw => by rw [h.1]; exact (EE_lt ((graphS_mem N bt v w).1 hw)).2), graphS_count, h.2 b hb, ah_count hD v hv hf b bt hok]
  omega
theorem ah_zero {N : Nat} {l : List S33} {r : List Nat} {L : Nat → Nat → Prop} {p : List S33 × List Int} (hB : BtI N r L p) (hL : ∀ a b, L a b ↔ EE N l a b) (hrN : ∀ v, v < N → r.getD v 0 < N) {D : List Bool} {A : List Int} (h : AHOk N p.1 D A) (v : Nat) (hv : v < N) : decide (A.getD v 0 = 0) = freeP N l r D v := by
  have h1 : A.getD v 0 = 0 ↔ freeP N l r D v = true := by
    rw [h.2 v hv]
    unfold freeP
    rw [List.all_eq_true]
    constructor
    · intro h0 e he
      have h0' := List.countP_eq_zero.1 (by omega : p.1.countP (fun e => decide (e.f2 = (v : Int)) && !D.getD e.f0.toNat false) = 0)
      rw [decide_eq_true_eq]
      intro hok h2 h3
      have hE : EE N l e.f0.toNat e.f2.toNat := ⟨e, he, hok, by have := hok.1; omega, by have := hok.2.2.1; omega⟩
      have h4 := h0' (linkE r e.f0.toNat e.f2.toNat) ((hB.mem _).2 ⟨_, _, (hL _ _).2 hE, by rw [h2]; exact h3, rfl⟩)
      unfold linkE at h4
      simp only [Bool.and_eq_true, decide_eq_true_eq, Bool.not_eq_true', Int.toNat_natCast] at h4
      cases hh : D.getD (r.getD e.f0.toNat 0) false with
      | true => rfl
      | false => exact absurd ⟨by omega, hh⟩ h4
    · intro h0
      have : p.1.countP (fun e => decide (e.f2 = (v : Int)) && !D.getD e.f0.toNat false) = 0 := by
        rw [List.countP_eq_zero]
        intro e he hh
        obtain ⟨a, b, k1, k2, rfl⟩ := (hB.mem e).1 he
        obtain ⟨x, hx, k3, k4, k5⟩ := (hL a b).1 k1
        have h5 := h0 x hx
        rw [decide_eq_true_eq] at h5
        have e0 : x.f0.toNat = a := by omega
        have e2 : x.f2.toNat = b := by omega
        unfold clear1 at h5
        rw [e0, e2] at h5
        unfold linkE at hh
        simp only [Bool.and_eq_true, decide_eq_true_eq, Bool.not_eq_true', Int.toNat_natCast] at hh
        have h6 : r.getD b 0 = v := by omega
        have h7 := h5 k3 h6 (by rw [← h6]; exact k2)
        rw [h7] at hh
        exact absurd hh.2 (by simp)
      omega
  cases hh : freeP N l r D v with
  | true => exact decide_eq_true (h1.2 hh)
  | false => exact decide_eq_false (fun k => by rw [h1.1 k] at hh; cases hh)

/-! ### The choice -/
theorem find_range {p : Nat → Bool} {i : Nat} (hp : p i = true) : ∀ (d s : Nat), s ≤ i → i < s + d → (∀ j, s ≤ j → j < i → p j = false) → (List.range' s d).find? p = some i
  | 0, s, h1, h2, _ => by omega
  | d + 1, s, h1, h2, h3 => by
    rw [List.range'_succ, List.find?_cons]
    by_cases hh : s = i
    · subst hh; rw [hp]
    · rw [h3 s (Nat.le_refl _) (by omega)]
      exact find_range hp d (s + 1) (by omega) (by omega) (fun j k1 k2 => h3 j (by omega) k2)
theorem pick_at {N : Nat} {l : List S33} {r : List Nat} {D : List Bool} {i : Nat} (hi : i < N) (hp : isNext N l r D i = true) (h : ∀ j, j < i → isNext N l r D j = false) : pickS N l r D = some i :=
  find_range hp N 0 (Nat.zero_le _) (by omega) (fun j _ hj => h j hj)
theorem pick_none {N : Nat} {l : List S33} {r : List Nat} {D : List Bool} (h : ∀ j, j < N → isNext N l r D j = false) : pickS N l r D = none := by
  unfold pickS
  rw [List.find?_eq_none]
  intro x hx
  rw [List.mem_range'_1] at hx
  rw [h x (by omega)]
  simp
theorem greedy_none {N : Nat} {l : List S33} {r : List Nat} {k : Nat} {D : List Bool} {out R : List Nat} (h : greedy N l r (k + 1) D out = some R) (hp : pickS N l r D = none) : R = out := by
  unfold greedy at h
  rw [hp] at h
  injection h with h
  exact h.symm
theorem greedy_some {N : Nat} {l : List S33} {r : List Nat} {k : Nat} {D : List Bool} {out R : List Nat} {v : Nat} (h : greedy N l r (k + 1) D out = some R) (hp : pickS N l r D = some v) : greedy N l r k (D.set v true) (out ++ [v]) = some R := by
  unfold greedy at h
  rw [hp] at h
  exact h
theorem greedy_ends {N : Nat} {l : List S33} {r : List Nat} : ∀ (k : Nat) (D : List Bool) (out : List Nat), D.length = N → D.count false < k → ∃ R, greedy N l r k D out = some R := by
  intro k
  induction k with
  | zero => intro D out _ h; omega
  | succ k ih =>
    intro D out hD h
    unfold greedy
    cases hp : pickS N l r D with
    | none => exact ⟨out, rfl⟩
    | some v =>
      obtain ⟨h1, h2, h3, h4⟩ := pickS_some hp
      have := count_setF D v (by omega) h3
      exact ih (D.set v true) (out ++ [v]) (by rw [List.length_set]; exact hD) (by omega)
theorem greedy_start (N : Nat) (l : List S33) (r : List Nat) : ∃ R, greedy N l r (N + 1) (List.replicate N false) [] = some R :=
  greedy_ends (N + 1) _ [] (by simp) (by rw [List.count_replicate_self]; omega)
/-- What is told, and in which order. -/
structure OrdI (N : Nat) (l : List S33) (r : List Nat) (D : List Bool) (out : List Nat) : Prop where
  done : ∀ v, D.getD v false = true ↔ v ∈ out
  nodup : out.Nodup
  head : ∀ v ∈ out, v < N ∧ r.getD v 0 = v
  ahead : ∀ a b i : Nat, EE N l a b → out[i]? = some (r.getD b 0) → r.getD a 0 = r.getD b 0 ∨ ∃ j, j < i ∧ out[j]? = some (r.getD a 0)
theorem OrdI.step {N : Nat} {l : List S33} {r : List Nat} {D : List Bool} {out : List Nat} (h : OrdI N l r D out) (hD : D.length = N) {v : Nat} (hp : pickS N l r D = some v) : OrdI N l r (D.set v true) (out ++ [v]) := by
  obtain ⟨h1, h2, h3, h4⟩ := pickS_some hp
  have hn : v ∉ out := fun hh => by rw [(h.done v).2 hh] at h3; cases h3
  refine ⟨fun x => ?_, ?_, fun x hx => ?_, fun a b i hE hi => ?_⟩
  · rw [getD_set _ _ _ _ _ (by omega), List.mem_append, List.mem_singleton]
    by_cases hx : v = x
    · rw [if_pos hx]; exact ⟨fun _ => .inr hx.symm, fun _ => rfl⟩
    · rw [if_neg hx, h.done x]; exact ⟨.inl, fun hh => hh.elim id (fun e => absurd e.symm hx)⟩
  · rw [List.nodup_append]
    exact ⟨h.nodup, by simp, fun x hx y hy => by rw [List.mem_singleton] at hy; subst hy; exact fun e => hn (e ▸ hx)⟩
  · rcases List.mem_append.1 hx with hx | hx
    · exact h.head x hx
    · rw [List.mem_singleton] at hx; subst hx; exact ⟨h1, h2⟩
  · by_cases hlt : i < out.length
    · rw [List.getElem?_append_left hlt] at hi
      rcases h.ahead a b i hE hi with k | ⟨j, k1, k2⟩
      · exact .inl k
      · exact .inr ⟨j, k1, by rw [List.getElem?_append_left (by omega)]; exact k2⟩
    · have hi2 : i = out.length := by
        have := (List.getElem?_eq_some_iff.1 hi).1
        rw [List.length_append, List.length_singleton] at this
        omega
      subst hi2
      rw [List.getElem?_append_right (Nat.le_refl _), Nat.sub_self] at hi
      have hv : v = r.getD b 0 := by simpa using hi
      by_cases hs : r.getD a 0 = r.getD b 0
      · exact .inl hs
      · right
        unfold freeP at h4
        rw [List.all_eq_true] at h4
        obtain ⟨e, he, k1, k2, k3⟩ := hE
        have h5 := h4 e he
        rw [decide_eq_true_eq] at h5
        unfold clear1 at h5
        rw [show e.f0.toNat = a by omega, show e.f2.toNat = b by omega] at h5
        have h6 := (h.done _).1 (h5 k1 hv.symm (by rw [hv]; exact hs))
        obtain ⟨j, hj⟩ := List.getElem?_of_mem h6
        have hjl := (List.getElem?_eq_some_iff.1 hj).1
        exact ⟨j, hjl, by rw [List.getElem?_append_left hjl]; exact hj⟩
noncomputable def cntR (E : Nat → Nat → Prop) (v : Nat) : Nat → Nat
  | 0 => 0
  | n + 1 => cntR E v n + (if @decide (Rch E n v) (Classical.propDecidable _) = true then 1 else 0)
theorem cntR_le {E : Nat → Nat → Prop} {a b : Nat} (h : ∀ u, Rch E u a → Rch E u b) : ∀ n, cntR E a n ≤ cntR E b n := by
  intro n
  induction n with
  | zero => exact Nat.le_refl _
  | succ n ih =>
    unfold cntR
    by_cases h1 : Rch E n a
    · have h2 := h n h1
      simp only [h1, h2, decide_true, if_true]
      omega
    · simp only [h1, decide_false]
      split <;> simp at * <;> omega
theorem cntR_lt {E : Nat → Nat → Prop} {a b : Nat} (h : ∀ u, Rch E u a → Rch E u b) (x : Nat) (hx : Rch E x b) (hn : ¬ Rch E x a) : ∀ n, x < n → cntR E a n < cntR E b n := by
  intro n
  induction n with
  | zero => intro h; omega
  | succ n ih =>
    intro hxn
    unfold cntR
    by_cases he : x = n
    · subst he
      have := cntR_le h x
      simp only [hx, hn, decide_true, decide_false, if_true]
      simp
      omega
    · have h1 := ih (by omega)
      by_cases h2 : Rch E n a
      · have h3 := h n h2
        simp only [h2, h3, decide_true, if_true]
        omega
      · simp only [h2, decide_false]
        split <;> simp at * <;> omega
theorem EE_rch_lt {N : Nat} {l : List S33} {a b : Nat} (h : Rch (EE N l) a b) (hb : b < N) : a < N := by
  induction h with
  | refl => exact hb
  | tail _ e ih => exact ih (EE_lt e).1
theorem GrpOk.lt {N : Nat} {l : List S33} {r : List Nat} (h : GrpOk N l r) (v : Nat) (hv : v < N) : r.getD v 0 < N ∧ r.getD v 0 ≤ v ∧ r.getD (r.getD v 0) 0 = r.getD v 0 := by
  have h1 := h.2 v hv
  have h2 : r.getD v 0 < N := EE_rch_lt h1.1.2 hv
  have h3 := h.2 _ h2
  exact ⟨h2, h1.2 v (Scc.refl _ _), h3.unique (h1.same h1.1)⟩
theorem GrpOk.iff {N : Nat} {l : List S33} {r : List Nat} (h : GrpOk N l r) {a b : Nat} (ha : a < N) (hb : b < N) : r.getD a 0 = r.getD b 0 ↔ Scc (EE N l) a b := by
  have h1 := h.2 a ha
  have h2 := h.2 b hb
  constructor
  · intro e
    rw [e] at h1
    exact h1.1.trans h2.1.symm
  · intro e
    exact (h1.same e).unique h2
/-- While a head isn't told, one is free. -/
theorem has_next {N : Nat} {l : List S33} {r : List Nat} (hr : GrpOk N l r) (D : List Bool) : ∀ (k v : Nat), v < N → r.getD v 0 = v → D.getD v false = false → cntR (EE N l) v N < k → ∃ i, i < N ∧ isNext N l r D i = true := by
  intro k
  induction k with
  | zero => intro v _ _ _ h; omega
  | succ k ih =>
    intro v hv h1 h2 h3
    cases hf : freeP N l r D v with
    | true => exact ⟨v, hv, by unfold isNext; rw [decide_eq_true h1, h2, hf]; rfl⟩
    | false =>
      have hx : ∃ e ∈ l, ¬ clear1 N r D v e := by
        have : ¬ (∀ e ∈ l, clear1 N r D v e) := fun hh => by
          have : freeP N l r D v = true := by unfold freeP; rw [List.all_eq_true]; exact fun e he => decide_eq_true (hh e he)
          rw [this] at hf; cases hf
        rw [Classical.not_forall] at this
        obtain ⟨e, he⟩ := this
        rw [Classical.not_imp] at he
        exact ⟨e, he⟩
      obtain ⟨e, he, hc⟩ := hx
      unfold clear1 at hc
      rw [Classical.not_imp, Classical.not_imp, Classical.not_imp] at hc
      obtain ⟨c1, c2, c3, c4⟩ := hc
      have hE : EE N l e.f0.toNat e.f2.toNat := ⟨e, he, c1, by have := c1.1; omega, by have := c1.2.2.1; omega⟩
      have hlt := EE_lt hE
      have ga := hr.lt _ hlt.1
      have g1 := (hr.2 _ hlt.1).1
      have g2 := (hr.2 _ hlt.2).1
      rw [c2] at g2
      have hto : Rch (EE N l) (r.getD e.f0.toNat 0) v := (g1.2.tail hE).trans g2.1
      refine ih (r.getD e.f0.toNat 0) ga.1 ga.2.2 (by cases hh : D.getD (r.getD e.f0.toNat 0) false with | true => exact absurd hh c4 | false => rfl) ?_
      have := cntR_lt (E := EE N l) (a := r.getD e.f0.toNat 0) (b := v) (fun u hu => hu.trans hto) v (.refl v) (fun hh => c3 (by
        have := (hr.iff ga.1 hv).2 ⟨hto, hh⟩
        rw [ga.2.2, h1] at this
        exact this)) N hv
      omega
/-- The order that is told. -/
structure OrdOk (N : Nat) (l : List S33) (r R : List Nat) : Prop where
  nodup : R.Nodup
  head : ∀ v ∈ R, v < N ∧ r.getD v 0 = v
  all : ∀ v, v < N → r.getD v 0 ∈ R
  ahead : ∀ a b i : Nat, EE N l a b → R[i]? = some (r.getD b 0) → r.getD a 0 = r.getD b 0 ∨ ∃ j, j < i ∧ R[j]? = some (r.getD a 0)
theorem greedy_ok {N : Nat} {l : List S33} {r : List Nat} (hr : GrpOk N l r) (R : List Nat) : ∀ (k : Nat) (D : List Bool) (out : List Nat), D.length = N → OrdI N l r D out → greedy N l r k D out = some R → OrdOk N l r R := by
  intro k
  induction k with
  | zero => intro D out _ _ h; cases h
  | succ k ih =>
    intro D out hD hI h
    cases hp : pickS N l r D with
    | none =>
      rw [greedy_none h hp]
      refine ⟨hI.nodup, hI.head, fun v hv => ?_, hI.ahead⟩
      have g := hr.lt v hv
      rw [← hI.done]
      cases hh : D.getD (r.getD v 0) false with
      | true => rfl
      | false =>
        obtain ⟨i, k1, k2⟩ := has_next hr D _ (r.getD v 0) g.1 g.2.2 hh (Nat.lt_succ_self _)
        unfold pickS at hp
        rw [List.find?_eq_none] at hp
        exact absurd k2 (hp i (by rw [List.mem_range'_1]; omega))
    | some v => exact ih (D.set v true) (out ++ [v]) (by rw [List.length_set]; exact hD) (hI.step hD hp) (greedy_some h hp)
theorem order_ok {N : Nat} {l : List S33} {r : List Nat} (hr : GrpOk N l r) (R : List Nat) (h : greedy N l r (N + 1) (List.replicate N false) [] = some R) : OrdOk N l r R := by
  refine greedy_ok hr R _ _ [] (by simp) ⟨fun v => ?_, List.nodup_nil, fun v hv => (by cases hv), fun a b i _ hi => by simp at hi⟩ h
  rw [List.getD_eq_getElem?_getD, List.getElem?_replicate]
  split <;> simp
end Go.Proofs.Ytdobjmbfkdfdcaa.G
