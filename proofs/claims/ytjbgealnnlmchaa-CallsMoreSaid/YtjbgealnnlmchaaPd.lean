/- scc.graph tells where points lead; the groups by it. Plain Lean. -/
import Derived.Test.YtjbgealnnlmchaaNb0
set_option linter.unusedVariables false
set_option linter.unusedSimpArgs false
namespace Go.Proofs.Ytjbgealnnlmchaa.G
open Go.RowKit Go.Proofs.Ytjbgealnnlmchaa.B Go.Proofs.YtjbgealnnlmchaaW.PrintWords Go.Proofs.YtjbgealnnlmchaaW.PrintLast Go.Proofs.YtjbgealnnlmchaaW.PrintMore

/-- An edge between points that there are. -/
def okE (N : Nat) (e : S41) : Prop := 0 ≤ e.f0 ∧ e.f0 < N ∧ 0 ≤ e.f2 ∧ e.f2 < N
instance (N : Nat) (e : S41) : Decidable (okE N e) := by unfold okE; infer_instance
/-- a leads to b by an edge. -/
def EE (N : Nat) (l : List S41) (a b : Nat) : Prop := ∃ e ∈ l, okE N e ∧ e.f0 = (a : Int) ∧ e.f2 = (b : Int)
def gstep (N : Nat) (G : List (List Nat)) (e : S41) : List (List Nat) := if okE N e then G.set e.f0.toNat (G.getD e.f0.toNat [] ++ [e.f2.toNat]) else G
def graphS (N : Nat) (l : List S41) : List (List Nat) := l.foldl (gstep N) (List.replicate N [])
theorem gstep_len (N : Nat) (G : List (List Nat)) (e : S41) : (gstep N G e).length = G.length := by
  unfold gstep
  split
  · rw [List.length_set]
  · rfl
theorem gfold_len (N : Nat) : ∀ (l : List S41) (G : List (List Nat)), (l.foldl (gstep N) G).length = G.length
  | [], _ => rfl
  | e :: l, G => by rw [List.foldl_cons, gfold_len N l, gstep_len]
theorem gstep_at (N : Nat) (G : List (List Nat)) (e : S41) (hG : G.length = N) (v : Nat) : (gstep N G e).getD v [] = if okE N e ∧ e.f0 = (v : Int) then G.getD v [] ++ [e.f2.toNat] else G.getD v [] := by
  unfold gstep
  by_cases h : okE N e
  · have h' := h
    obtain ⟨h1, h2, h3, h4⟩ := h'
    rw [if_pos h, getD_set _ _ _ _ _ (by omega)]
    by_cases hv : e.f0.toNat = v
    · rw [if_pos hv, if_pos ⟨h, by omega⟩, hv]
    · rw [if_neg hv, if_neg (fun hh => hv (by omega))]
  · rw [if_neg h, if_neg (fun hh => h hh.1)]
theorem gfold_mem (N : Nat) : ∀ (l : List S41) (G : List (List Nat)), G.length = N → ∀ v w, w ∈ (l.foldl (gstep N) G).getD v [] ↔ w ∈ G.getD v [] ∨ EE N l v w := by
  intro l
  induction l with
  | nil =>
    intro G _ v w
    rw [List.foldl_nil]
    exact ⟨.inl, fun h => h.elim id (fun ⟨e, he, _⟩ => by cases he)⟩
  | cons e l ih =>
    intro G hG v w
    rw [List.foldl_cons, ih (gstep N G e) (by rw [gstep_len]; exact hG), gstep_at N G e hG]
    have hE : EE N (e :: l) v w ↔ (okE N e ∧ e.f0 = (v : Int) ∧ e.f2 = (w : Int)) ∨ EE N l v w := by
      constructor
      · rintro ⟨x, hx, h1, h2, h3⟩
        rcases List.mem_cons.1 hx with rfl | hx
        · exact .inl ⟨h1, h2, h3⟩
        · exact .inr ⟨x, hx, h1, h2, h3⟩
      · rintro (⟨h1, h2, h3⟩ | ⟨x, hx, h1, h2, h3⟩)
        · exact ⟨e, List.mem_cons_self, h1, h2, h3⟩
        · exact ⟨x, List.mem_cons_of_mem _ hx, h1, h2, h3⟩
    rw [hE]
    by_cases h : okE N e ∧ e.f0 = (v : Int)
    · rw [if_pos h, List.mem_append, List.mem_singleton]
      have h3 := h.1.2.2.1
      have : w = e.f2.toNat ↔ e.f2 = (w : Int) := by omega
      rw [this]
      constructor
      · rintro ((h1 | h1) | h1)
        · exact .inl h1
        · exact .inr (.inl ⟨h.1, h.2, h1⟩)
        · exact .inr (.inr h1)
      · rintro (h1 | h1 | h1)
        · exact .inl (.inl h1)
        · exact .inl (.inr h1.2.2)
        · exact .inr h1
    · rw [if_neg h]
      constructor
      · rintro (h1 | h1)
        · exact .inl h1
        · exact .inr (.inr h1)
      · rintro (h1 | h1 | h1)
        · exact .inl h1
        · exact absurd ⟨h1.1, h1.2.1⟩ h
        · exact .inr h1
theorem rep_at (N v : Nat) : (List.replicate N ([] : List Nat)).getD v [] = [] := by
  rw [List.getD_eq_getElem?_getD, List.getElem?_replicate]
  split <;> rfl
theorem graphS_len (N : Nat) (l : List S41) : (graphS N l).length = N := by unfold graphS; rw [gfold_len, List.length_replicate]
theorem graphS_mem (N : Nat) (l : List S41) (v w : Nat) : w ∈ (graphS N l).getD v [] ↔ EE N l v w := by
  unfold graphS
  rw [gfold_mem N l _ (by simp), rep_at]
  exact ⟨fun h => h.elim (fun h => by cases h) id, .inr⟩
theorem EE_lt {N : Nat} {l : List S41} {a b : Nat} (h : EE N l a b) : a < N ∧ b < N := by
  obtain ⟨e, _, h1, h2, h3⟩ := h
  obtain ⟨h4, h5, h6, h7⟩ := h1
  omega
theorem gfold_row (N : Nat) : ∀ (l : List S41) (G : List (List Nat)) (m : Nat), G.length = N → (∀ v, (G.getD v []).length ≤ m) → ∀ v, ((l.foldl (gstep N) G).getD v []).length ≤ m + l.length := by
  intro l
  induction l with
  | nil => intro G m _ h v; exact h v
  | cons e l ih =>
    intro G m hG h v
    rw [List.foldl_cons]
    have := ih (gstep N G e) (m + 1) (by rw [gstep_len]; exact hG) (fun u => by
      rw [gstep_at N G e hG]
      have := h u
      split
      · rw [List.length_append, List.length_singleton]; omega
      · omega) v
    rw [List.length_cons]
    omega
theorem graphS_row (N : Nat) (l : List S41) (v : Nat) : ((graphS N l).getD v []).length ≤ l.length := by
  have := gfold_row N l (List.replicate N []) 0 (by simp) (fun u => by rw [rep_at]; exact Nat.le_refl _) v
  unfold graphS
  omega
theorem rd33_at (l : List S41) (i : Nat) (h : i < l.length) : rd_T41 l (i : Int) = l[i] := by
  unfold rd_T41
  rw [Int.toNat_natCast, List.getD_eq_getElem?_getD, List.getElem?_eq_getElem h]
  rfl
theorem w64 {x : Int} (h0 : -1000000000000000000 ≤ x) (h1 : x ≤ 1000000000000000000) : wrap64 x = x := by unfold wrap64; omega
theorem ints_snoc (r : List Nat) (x : Int) (hx : 0 ≤ x) : ints r ++ [x] = ints (r ++ [x.toNat]) := by
  unfold ints
  rw [List.map_append]
  show _ = _ ++ [((x.toNat : Nat) : Int)]
  rw [Int.toNat_of_nonneg hx]
theorem graph_l0 (N : Nat) (l : List S41) (hl : l.length ≤ 1000000) : ∀ (d i : Nat) (G : List (List Nat)), l.length - i = d → i ≤ l.length → G.length = N → (∀ v, (G.getD v []).length ≤ i) →
    scc_graph.l0 (d + 1) (G.map ints) l (l.length : Int) (i : Int) = some (((l.drop i).foldl (gstep N) G).map ints) := by
  intro d
  induction d with
  | zero =>
    intro i G h1 h2 hG hr
    unfold scc_graph.l0
    rw [if_neg (by omega), List.drop_eq_nil_of_le (by omega)]
    rfl
  | succ d ih =>
    intro i G h1 h2 hG hr
    have hlt : i < l.length := by omega
    have hnext : ∀ G', G'.length = N → (∀ v, (G'.getD v []).length ≤ i + 1) → scc_graph.l0 (d + 1) (G'.map ints) l (l.length : Int) (wrap64 ((i : Int) + 1)) = some (((l.drop (i + 1)).foldl (gstep N) G').map ints) := by
      intro G' h3 h4
      rw [w64 (by omega) (by omega), show (i : Int) + 1 = ((i + 1 : Nat) : Int) by omega]
      exact ih (i + 1) G' (by omega) (by omega) h3 h4
    have hrow : ∀ v, ((gstep N G l[i]).getD v []).length ≤ i + 1 := fun v => by
      rw [gstep_at N G _ hG]
      have := hr v
      split
      · rw [List.length_append, List.length_singleton]; omega
      · omega
    have hno : ¬ okE N l[i] → gstep N G l[i] = G := fun h => by unfold gstep; rw [if_neg h]
    unfold scc_graph.l0
    rw [if_pos (by omega), if_pos (by omega), if_pos (by omega), rd33_at _ _ hlt, List.drop_eq_getElem_cons hlt, List.foldl_cons, List.length_map, hG]
    have hr' : ∀ v, (G.getD v []).length ≤ i + 1 := fun v => Nat.le_succ_of_le (hr v)
    by_cases c1 : l[i].f0 ≥ 0
    · rw [if_pos c1]
      by_cases c2 : l[i].f0 < (N : Int)
      · rw [if_pos c2]
        by_cases c3 : l[i].f2 ≥ 0
        · rw [if_pos c3]
          by_cases c4 : l[i].f2 < (N : Int)
          · rw [if_pos c4, if_pos c1]
            have hok : okE N l[i] := ⟨c1, c2, c3, c4⟩
            have hrd : rd_L4 (G.map ints) l[i].f0 = ints (G.getD l[i].f0.toNat []) := by
              have := rd_G G l[i].f0.toNat
              rw [Int.toNat_of_nonneg c1] at this
              exact this
            rw [hrd, ints_len, if_pos (by have := hr l[i].f0.toNat; omega), ints_snoc _ _ c3]
            have hset : (G.map ints).set l[i].f0.toNat (ints (G.getD l[i].f0.toNat [] ++ [l[i].f2.toNat])) = (gstep N G l[i]).map ints := by
              unfold gstep
              rw [if_pos hok, List.map_set]
            rw [hset]
            exact hnext _ (by rw [gstep_len]; exact hG) hrow
          · rw [if_neg c4, hno (fun h => c4 h.2.2.2)]
            exact hnext G hG hr'
        · rw [if_neg c3, hno (fun h => c3 h.2.2.1)]
          exact hnext G hG hr'
      · rw [if_neg c2, hno (fun h => c2 h.2.1)]
        exact hnext G hG hr'
    · rw [if_neg c1, hno (fun h => c1 h.1)]
      exact hnext G hG hr'
/-- How many points there are. -/
def sizeN (n : Int) : Nat := (min (max n 0) 20000).toNat
theorem sizeN_le (n : Int) : sizeN n ≤ 20000 := by unfold sizeN; omega
theorem graph_f (n : Int) (l : List S41) (hl : l.length ≤ 1000000) : ∃ k, scc_graph.f k n l = some ((graphS (sizeN n) l).map ints) := by
  refine ⟨l.length + 1, ?_⟩
  unfold scc_graph.f
  have hm : mn (mx n 0) 20000 = ((sizeN n : Nat) : Int) := by
    unfold sizeN
    have : mn (mx n 0) 20000 = min (max n 0) 20000 := by
      first | rfl | (unfold mn mx; omega)
    rw [this]
    omega
  rw [hm, if_pos (by omega), Int.toNat_natCast, if_pos (by have := sizeN_le n; omega)]
  have h := graph_l0 (sizeN n) l hl l.length 0 (List.replicate (sizeN n) []) (by omega) (Nat.zero_le _) (by simp) (fun v => by rw [rep_at]; exact Nat.le_refl _)
  rw [List.map_replicate, List.drop_zero] at h
  exact h
/-- The groups' least points. -/
def GrpOk (N : Nat) (l : List S41) (r : List Nat) : Prop := r.length = N ∧ ∀ v, v < N → IsGrp (EE N l) v (r.getD v 0)
theorem groups_ok (N : Nat) (l : List S41) (hN : N ≤ 20000) : ∃ s, groupsT (graphS N l) = some s ∧ GrpOk N l s.out := by
  obtain ⟨s, h1, h2, h3⟩ := groupsT_ok (E := EE N l) (g := graphS N l) (fun v w => graphS_mem N l v w) (fun a b h => by rw [graphS_len]; exact (EE_lt h).2) (by rw [graphS_len]; omega)
  rw [graphS_len] at h2 h3
  exact ⟨s, h1, h2, h3⟩
theorem GrpOk.unique {N : Nat} {l : List S41} {r r' : List Nat} (h : GrpOk N l r) (k : GrpOk N l r') : r = r' := by
  refine List.ext_getElem (h.1.trans k.1.symm) (fun i h1 h2 => ?_)
  have e := (h.2 i (h.1 ▸ h1)).unique (k.2 i (h.1 ▸ h1))
  rw [List.getD_eq_getElem?_getD, List.getD_eq_getElem?_getD, List.getElem?_eq_getElem h1, List.getElem?_eq_getElem h2] at e
  exact e
end Go.Proofs.Ytjbgealnnlmchaa.G
