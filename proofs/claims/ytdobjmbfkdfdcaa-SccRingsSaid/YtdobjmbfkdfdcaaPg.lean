/- The order of groups: each time the first head that no edge of a group that isn't told leads to; the reference's. Plain Lean. -/
import Derived.Test.YtdobjmbfkdfdcaaPf
import Derived.Test.YtdobjmbfkdfdcaaGx10
set_option linter.unusedVariables false
set_option linter.unusedSimpArgs false
namespace Go.Proofs.Ytdobjmbfkdfdcaa.G
open Go.RowKit Go.Proofs.Ytdobjmbfkdfdcaa.B Go.Proofs.YtdobjmbfkdfdcaaW.PrintWords Go.Proofs.YtdobjmbfkdfdcaaW.PrintLast Go.Proofs.YtdobjmbfkdfdcaaW.PrintMore

/-- An edge e is no hindrance to v's being told. -/
def clear1 (N : Nat) (r : List Nat) (D : List Bool) (v : Nat) (e : S33) : Prop := okE N e → r.getD e.f2.toNat 0 = v → r.getD e.f0.toNat 0 ≠ v → D.getD (r.getD e.f0.toNat 0) false = true
instance (N : Nat) (r : List Nat) (D : List Bool) (v : Nat) (e : S33) : Decidable (clear1 N r D v e) := by unfold clear1; infer_instance
def freeP (N : Nat) (l : List S33) (r : List Nat) (D : List Bool) (v : Nat) : Bool := l.all fun e => decide (clear1 N r D v e)
def isNext (N : Nat) (l : List S33) (r : List Nat) (D : List Bool) (v : Nat) : Bool := decide (r.getD v 0 = v) && !D.getD v false && freeP N l r D v
def pickS (N : Nat) (l : List S33) (r : List Nat) (D : List Bool) : Option Nat := (List.range' 0 N).find? (isNext N l r D)
def greedy (N : Nat) (l : List S33) (r : List Nat) : Nat → List Bool → List Nat → Option (List Nat)
  | 0, _, _ => none
  | k + 1, D, out => match pickS N l r D with
    | none => some out
    | some v => greedy N l r k (D.set v true) (out ++ [v])
theorem pickS_some {N : Nat} {l : List S33} {r : List Nat} {D : List Bool} {v : Nat} (h : pickS N l r D = some v) : v < N ∧ r.getD v 0 = v ∧ D.getD v false = false ∧ freeP N l r D v = true := by
  unfold pickS at h
  have h1 := List.mem_of_find?_eq_some h
  have h2 := List.find?_some h
  unfold isNext at h2
  simp only [Bool.and_eq_true, decide_eq_true_eq, Bool.not_eq_true'] at h2
  rw [List.mem_range'_1] at h1
  exact ⟨by omega, h2.1.1, h2.1.2, h2.2⟩

/-! ### The reference -/
theorem rd_ints' {N : Nat} {r : List Nat} (hr : r.length = N) (v : Nat) (h : v < N) : rd (ints r) (v : Int) = ((r.getD v 0 : Nat) : Int) := by
  rw [rd_ints r v (by omega), List.getD_eq_getElem?_getD, List.getElem?_eq_getElem (by omega)]
  rfl
theorem order_found (N : Nat) (l : List S33) (r : List Nat) (D : List Bool) (hD : D.length = N) (out : List Nat) (v : Nat) (hv : v < N) (ho : out.length ≤ 1000000) (R : List Int) (hk : ∃ k, crosstreeref15_Order.l0 k (N : Int) l (ints r) (D.set v true) (ints (out ++ [v])) = some R) (i : Nat) : ∃ k, crosstreeref15_Order.l1 k (N : Int) l (ints r) D (ints out) (v : Int) (i : Int) = some R := by
  obtain ⟨k, hk⟩ := hk
  refine ⟨k + 1 + 1, ?_⟩
  have hj : crosstreeref15_Order.j2 (k + 1) (N : Int) l (ints r) D (ints out) (v : Int) (i : Int) false = some R := by
    unfold crosstreeref15_Order.j2
    rw [if_neg (by simp), if_neg (by omega), if_pos (by omega), if_pos (by omega), if_pos (by rw [ints_len]; omega), Int.toNat_natCast, ints_snoc _ _ (by omega), Int.toNat_natCast]
    exact hk
  unfold crosstreeref15_Order.l1
  split
  · rw [decide_eq_false (by omega)]
    exact hj
  · exact hj
section
variable (N : Nat) (hN : N ≤ 20000) (l : List S33) (hl : l.length ≤ 1000000) (r : List Nat) (hr : r.length = N) (hrN : ∀ v, v < N → r.getD v 0 < N) (D : List Bool) (hD : D.length = N) (out : List Nat)
include hN hl hr hrN hD
theorem order_l2 (x8 : Int) (v : Nat) (hv : v < N) (R : List Int) : ∀ (d i : Nat) (b : Bool), l.length - i = d → i ≤ l.length →
    (∃ k, crosstreeref15_Order.l1 k (N : Int) l (ints r) D (ints out) (if (b && (l.drop i).all fun e => decide (clear1 N r D v e)) = true then (v : Int) else x8) ((v + 1 : Nat) : Int) = some R) →
    ∃ k, crosstreeref15_Order.l2 k (N : Int) l (ints r) D (ints out) x8 (v : Int) b (i : Int) = some R := by
  intro d
  induction d with
  | zero =>
    rintro i b h1 h2 ⟨k, hk⟩
    refine ⟨k + 1, ?_⟩
    unfold crosstreeref15_Order.l2
    rw [if_neg (by omega), w64 (by omega) (by omega), show (v : Int) + 1 = ((v + 1 : Nat) : Int) by omega]
    rw [List.drop_eq_nil_of_le (by omega)] at hk
    cases b with
    | true => rw [if_pos rfl]; exact hk
    | false => rw [if_neg (by simp)]; exact hk
  | succ d ih =>
    intro i b h1 h2 hk
    have hlt : i < l.length := by omega
    rw [List.drop_eq_getElem_cons hlt, List.all_cons] at hk
    have hskip : clear1 N r D v l[i] → ∃ k, crosstreeref15_Order.l2 k (N : Int) l (ints r) D (ints out) x8 (v : Int) b ((i + 1 : Nat) : Int) = some R := fun hc => by
      rw [decide_eq_true hc, Bool.true_and] at hk
      exact ih (i + 1) b (by omega) (by omega) hk
    have hwi : wrap64 ((i : Int) + 1) = ((i + 1 : Nat) : Int) := by rw [w64 (by omega) (by omega)]; omega
    by_cases c1 : l[i].f0 ≥ 0
    · by_cases c2 : l[i].f0 < (N : Int)
      · by_cases c3 : l[i].f2 ≥ 0
        · by_cases c4 : l[i].f2 < (N : Int)
          · have hok : okE N l[i] := ⟨c1, c2, c3, c4⟩
            have e0 : l[i].f0 = ((l[i].f0.toNat : Nat) : Int) := by omega
            have e2 : l[i].f2 = ((l[i].f2.toNat : Nat) : Int) := by omega
            have hr2 : rd (ints r) l[i].f2 = ((r.getD l[i].f2.toNat 0 : Nat) : Int) := by
              rw [e2]
              exact rd_ints' hr _ (by omega)
            have hr0 : rd (ints r) l[i].f0 = ((r.getD l[i].f0.toNat 0 : Nat) : Int) := by
              rw [e0]
              exact rd_ints' hr _ (by omega)
            have hx0 := hrN l[i].f0.toNat (by omega)
            by_cases c5 : r.getD l[i].f2.toNat 0 = v
            · by_cases c6 : r.getD l[i].f0.toNat 0 = v
              · obtain ⟨k, hk⟩ := hskip (fun _ _ h => absurd c6 h)
                refine ⟨k + 1, ?_⟩
                unfold crosstreeref15_Order.l2
                rw [if_pos (by omega), if_pos (by omega), rd33_at _ _ hlt, if_pos c1, if_pos c2, if_pos c3, if_pos c4, if_pos c3, if_pos (by rw [ints_len]; omega), hr2, if_pos (by omega), if_pos c1, if_pos (by rw [ints_len]; omega), hr0, if_pos (by omega), hwi]
                exact hk
              · by_cases c7 : D.getD (r.getD l[i].f0.toNat 0) false = true
                · obtain ⟨k, hk⟩ := hskip (fun _ _ _ => c7)
                  refine ⟨k + 1, ?_⟩
                  unfold crosstreeref15_Order.l2
                  rw [if_pos (by omega), if_pos (by omega), rd33_at _ _ hlt, if_pos c1, if_pos c2, if_pos c3, if_pos c4, if_pos c3, if_pos (by rw [ints_len]; omega), hr2, if_pos (by omega), if_pos c1, if_pos (by rw [ints_len]; omega), hr0, if_neg (by omega), if_pos (by omega), if_pos (by omega), rdOf_at, Int.toNat_natCast, if_pos c7, hwi]
                  exact hk
                · have hno : decide (clear1 N r D v l[i]) = false := decide_eq_false (fun h => c7 (h hok c5 c6))
                  rw [hno, Bool.false_and, Bool.and_false] at hk
                  obtain ⟨k, hk⟩ := ih (i + 1) false (by omega) (by omega) (by rw [Bool.false_and]; exact hk)
                  refine ⟨k + 1, ?_⟩
                  unfold crosstreeref15_Order.l2
                  rw [if_pos (by omega), if_pos (by omega), rd33_at _ _ hlt, if_pos c1, if_pos c2, if_pos c3, if_pos c4, if_pos c3, if_pos (by rw [ints_len]; omega), hr2, if_pos (by omega), if_pos c1, if_pos (by rw [ints_len]; omega), hr0, if_neg (by omega), if_pos (by omega), if_pos (by omega), rdOf_at, Int.toNat_natCast, if_neg c7, hwi]
                  exact hk
            · obtain ⟨k, hk⟩ := hskip (fun _ h => absurd h c5)
              refine ⟨k + 1, ?_⟩
              unfold crosstreeref15_Order.l2
              rw [if_pos (by omega), if_pos (by omega), rd33_at _ _ hlt, if_pos c1, if_pos c2, if_pos c3, if_pos c4, if_pos c3, if_pos (by rw [ints_len]; omega), hr2, if_neg (by omega), hwi]
              exact hk
          · obtain ⟨k, hk⟩ := hskip (fun h => absurd h.2.2.2 c4)
            refine ⟨k + 1, ?_⟩
            unfold crosstreeref15_Order.l2
            rw [if_pos (by omega), if_pos (by omega), rd33_at _ _ hlt, if_pos c1, if_pos c2, if_pos c3, if_neg c4, hwi]
            exact hk
        · obtain ⟨k, hk⟩ := hskip (fun h => absurd h.2.2.1 c3)
          refine ⟨k + 1, ?_⟩
          unfold crosstreeref15_Order.l2
          rw [if_pos (by omega), if_pos (by omega), rd33_at _ _ hlt, if_pos c1, if_pos c2, if_neg c3, hwi]
          exact hk
      · obtain ⟨k, hk⟩ := hskip (fun h => absurd h.2.1 c2)
        refine ⟨k + 1, ?_⟩
        unfold crosstreeref15_Order.l2
        rw [if_pos (by omega), if_pos (by omega), rd33_at _ _ hlt, if_pos c1, if_neg c2, hwi]
        exact hk
    · obtain ⟨k, hk⟩ := hskip (fun h => absurd h.1 c1)
      refine ⟨k + 1, ?_⟩
      unfold crosstreeref15_Order.l2
      rw [if_pos (by omega), if_pos (by omega), rd33_at _ _ hlt, if_neg c1, hwi]
      exact hk
theorem order_l1 (ho : out.length ≤ 1000000) (R : List Int) : ∀ (d i : Nat), N - i = d → i ≤ N →
    (match (List.range' i d).find? (isNext N l r D) with
      | none => ints out = R
      | some v => ∃ k, crosstreeref15_Order.l0 k (N : Int) l (ints r) (D.set v true) (ints (out ++ [v])) = some R) →
    ∃ k, crosstreeref15_Order.l1 k (N : Int) l (ints r) D (ints out) (-1) (i : Int) = some R := by
  intro d
  induction d with
  | zero =>
    intro i h1 h2 h
    have h : ints out = R := h
    refine ⟨2, ?_⟩
    unfold crosstreeref15_Order.l1
    rw [if_neg (by omega)]
    unfold crosstreeref15_Order.j2
    rw [if_neg (by simp), if_pos (by omega), h]
  | succ d ih =>
    intro i h1 h2 h
    have hi : i < N := by omega
    have hwi : wrap64 ((i : Int) + 1) = ((i + 1 : Nat) : Int) := by rw [w64 (by omega) (by omega)]; omega
    rw [List.range'_succ, List.find?_cons] at h
    have hbody : ∀ k b, (if (rd (ints r) (i : Int)) = (i : Int) then b = D.getD i false else b = true) → crosstreeref15_Order.j3 k (N : Int) l (ints r) D (ints out) (-1) (i : Int) b = some R → ∃ k, crosstreeref15_Order.l1 k (N : Int) l (ints r) D (ints out) (-1) (i : Int) = some R := by
      intro k b hb hk
      refine ⟨k + 1 + 1, ?_⟩
      unfold crosstreeref15_Order.l1
      rw [if_pos (by omega), decide_eq_true (by omega)]
      unfold crosstreeref15_Order.j2
      rw [if_pos rfl, if_pos (by omega), if_pos (by rw [ints_len]; omega)]
      split
      · rename_i hc
        rw [if_pos hc] at hb
        rw [if_pos (by omega), rdOf_at, Int.toNat_natCast, ← hb]
        exact hk
      · rename_i hc
        rw [if_neg hc] at hb
        rw [← hb]
        exact hk
    rw [rd_ints' hr i hi] at hbody
    by_cases c1 : r.getD i 0 = i
    · cases c2 : D.getD i false with
      | true =>
        have hn : isNext N l r D i = false := by unfold isNext; rw [c2]; simp
        rw [hn] at h
        obtain ⟨k, hk⟩ := ih (i + 1) (by omega) (by omega) h
        refine hbody (k + 1) true (by rw [if_pos (by omega)]; exact c2.symm) ?_
        unfold crosstreeref15_Order.j3
        rw [if_pos rfl, hwi]
        exact hk
      | false =>
        have hn : isNext N l r D i = freeP N l r D i := by unfold isNext; rw [c2, decide_eq_true c1]; simp
        rw [hn] at h
        obtain ⟨k, hk⟩ : ∃ k, crosstreeref15_Order.l2 k (N : Int) l (ints r) D (ints out) (-1) (i : Int) true ((0 : Nat) : Int) = some R := by
          refine order_l2 N hN l hl r hr hrN D hD out (-1) i hi R l.length 0 true (by omega) (Nat.zero_le _) ?_
          rw [List.drop_zero, Bool.true_and]
          cases hf : freeP N l r D i with
          | true =>
            rw [hf] at h
            unfold freeP at hf
            rw [hf, if_pos rfl]
            exact order_found N l r D hD out i hi ho R h (i + 1)
          | false =>
            rw [hf] at h
            unfold freeP at hf
            rw [hf, if_neg (by simp)]
            exact ih (i + 1) (by omega) (by omega) h
        refine hbody (k + 1) false (by rw [if_pos (by omega)]; exact c2.symm) ?_
        unfold crosstreeref15_Order.j3
        rw [if_neg (by simp)]
        exact hk
    · have hn : isNext N l r D i = false := by unfold isNext; rw [decide_eq_false c1]; simp
      rw [hn] at h
      obtain ⟨k, hk⟩ := ih (i + 1) (by omega) (by omega) h
      refine hbody (k + 1) true (by rw [if_neg (by omega)]) ?_
      unfold crosstreeref15_Order.j3
      rw [if_pos rfl, hwi]
      exact hk
end
theorem order_l0 (N : Nat) (hN : N ≤ 20000) (l : List S33) (hl : l.length ≤ 1000000) (r : List Nat) (hr : r.length = N) (hrN : ∀ v, v < N → r.getD v 0 < N) (R : List Nat) : ∀ (k : Nat) (D : List Bool) (out : List Nat), D.length = N → out.length + k ≤ 1000000 → greedy N l r k D out = some R →
    ∃ k, crosstreeref15_Order.l0 k (N : Int) l (ints r) D (ints out) = some (ints R) := by
  intro k
  induction k with
  | zero => intro D out _ _ h; cases h
  | succ k ih =>
    intro D out hD ho h
    unfold greedy at h
    obtain ⟨k', hk'⟩ := order_l1 N hN l hl r hr hrN D hD out (by omega) (ints R) N 0 (by omega) (Nat.zero_le _) (by
      show match pickS N l r D with
        | none => ints out = ints R
        | some v => ∃ k, crosstreeref15_Order.l0 k (N : Int) l (ints r) (D.set v true) (ints (out ++ [v])) = some (ints R)
      cases hp : pickS N l r D with
      | none =>
        rw [hp] at h
        injection h with h
        rw [h]
      | some v =>
        rw [hp] at h
        exact ih (D.set v true) (out ++ [v]) (by rw [List.length_set]; exact hD) (by rw [List.length_append, List.length_singleton]; omega) h)
    refine ⟨k' + 1, ?_⟩
    unfold crosstreeref15_Order.l0
    exact hk'
theorem refOrder_f (n : Int) (l : List S33) (hl : l.length ≤ 1000000) (r : List Nat) (hr : GrpOk (sizeN n) l r) (hrN : ∀ v, v < sizeN n → r.getD v 0 < sizeN n) (R : List Nat) (h : greedy (sizeN n) l r (sizeN n + 1) (List.replicate (sizeN n) false) [] = some R) :
    ∃ k, crosstreeref15_Order.f k n l = some (ints R) := by
  obtain ⟨k1, h1⟩ := refGroups_f n l hl r hr
  have hN := sizeN_le n
  obtain ⟨k2, h2⟩ := order_l0 (sizeN n) hN l hl r hr.1 hrN R _ _ [] (by rw [List.length_replicate]) (by simp; omega) h
  refine ⟨max k1 k2, ?_⟩
  unfold crosstreeref15_Order.f
  rw [le_mono (g := fun k => crosstreeref15_Groups.f k n l) (crosstreeref15_Groups.mono _ _) h1 (max k1 k2) (by omega), Option.bind_some, ints_len, hr.1, if_pos (by omega), Int.toNat_natCast, if_pos (by omega)]
  exact le_mono (g := fun k => crosstreeref15_Order.l0 k (sizeN n : Int) l (ints r) (List.replicate (sizeN n) false) []) (fun k => (crosstreeref15_Order.mono_l k).1 _ _ _ _ _) h2 (max k1 k2) (by omega)
end Go.Proofs.Ytdobjmbfkdfdcaa.G
