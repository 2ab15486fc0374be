/- What points lead to: a queue tells it; so do the reference's marks. Plain Lean. -/
import Derived.Test.YtjbgealnnlmchaaPe
import Derived.Test.YtjbgealnnlmchaaGx10
set_option linter.unusedVariables false
set_option linter.unusedSimpArgs false
namespace Go.Proofs.Ytjbgealnnlmchaa.G
open Go.RowKit Go.Proofs.Ytjbgealnnlmchaa.B Go.Proofs.YtjbgealnnlmchaaW.PrintWords Go.Proofs.YtjbgealnnlmchaaW.PrintLast Go.Proofs.YtjbgealnnlmchaaW.PrintMore

/-- v is led to from one of the points. -/
def RchF (N : Nat) (l : List S41) (fr : List Int) (v : Nat) : Prop := ∃ u : Nat, (u : Int) ∈ fr ∧ u < N ∧ Rch (EE N l) u v
/-- r is all that is led to, rising. -/
def ROk (N : Nat) (l : List S41) (fr : List Int) (r : List Nat) : Prop := r.Pairwise (· < ·) ∧ ∀ v, v ∈ r ↔ RchF N l fr v
theorem rise_unique : ∀ (r s : List Nat), r.Pairwise (· < ·) → s.Pairwise (· < ·) → (∀ v, v ∈ r ↔ v ∈ s) → r = s
  | [], [], _, _, _ => rfl
  | [], y :: s, _, _, h => absurd ((h y).2 List.mem_cons_self) (by simp)
  | x :: r, [], _, _, h => absurd ((h x).1 List.mem_cons_self) (by simp)
  | x :: r, y :: s, hr, hs, h => by
    obtain ⟨r1, r2⟩ := List.pairwise_cons.1 hr
    obtain ⟨s1, s2⟩ := List.pairwise_cons.1 hs
    have hxy : x = y := by
      rcases List.mem_cons.1 ((h x).1 List.mem_cons_self) with h1 | h1
      · exact h1
      · rcases List.mem_cons.1 ((h y).2 List.mem_cons_self) with h2 | h2
        · exact h2.symm
        · have := s1 x h1; have := r1 y h2; omega
    subst hxy
    rw [rise_unique r s r2 s2 (fun v => ⟨fun hv => ?_, fun hv => ?_⟩)]
    · rcases List.mem_cons.1 ((h v).1 (List.mem_cons_of_mem _ hv)) with h1 | h1
      · have := r1 v hv; omega
      · exact h1
    · rcases List.mem_cons.1 ((h v).2 (List.mem_cons_of_mem _ hv)) with h1 | h1
      · have := s1 v hv; omega
      · exact h1
theorem ROk.unique {N : Nat} {l : List S41} {fr : List Int} {r s : List Nat} (h : ROk N l fr r) (k : ROk N l fr s) : r = s := rise_unique r s h.1 k.1 (fun v => (h.2 v).trans (k.2 v).symm)
theorem RchF.lt {N : Nat} {l : List S41} {fr : List Int} {v : Nat} (h : RchF N l fr v) : v < N := by
  obtain ⟨u, _, hu, hr⟩ := h
  exact hr.stays (T := fun x => x < N) hu (fun x y _ he => (EE_lt he).2)
theorem ROk.lt {N : Nat} {l : List S41} {fr : List Int} {r : List Nat} (h : ROk N l fr r) {v : Nat} (hv : v ∈ r) : v < N := ((h.2 v).1 hv).lt
theorem rise_len : ∀ (r : List Nat) (N : Nat), r.Pairwise (· < ·) → (∀ v ∈ r, v < N) → r.length ≤ N := by
  intro r N h1 h2
  have hn : r.Nodup := h1.imp (fun h => Nat.ne_of_lt h)
  have := List.Nodup.length_le_of_subset hn (l₂ := List.range N) (fun v hv => List.mem_range.2 (h2 v hv))
  rwa [List.length_range] at this
theorem ROk.len {N : Nat} {l : List S41} {fr : List Int} {r : List Nat} (h : ROk N l fr r) : r.length ≤ N := rise_len r N h.1 (fun v hv => h.lt hv)

/-! ### The queue -/
def bfs (G : List (List Nat)) : Nat → List Int → List Bool → List Nat → Option (List Nat)
  | 0, _, _, _ => none
  | _ + 1, [], _, out => some out
  | k + 1, x :: q, seen, out => if 0 ≤ x ∧ x < (G.length : Int) ∧ seen.getD x.toNat false = false then bfs G k (q ++ ints (G.getD x.toNat [])) (seen.set x.toNat true) (out ++ [x.toNat]) else bfs G k q seen out
def pot : List (List Nat) → List Bool → Nat
  | [], _ => 0
  | r :: G, [] => r.length + pot G []
  | r :: G, b :: s => (if b then 0 else r.length) + pot G s
theorem pot_set : ∀ (G : List (List Nat)) (s : List Bool) (v : Nat), v < G.length → v < s.length → s.getD v false = false → pot G (s.set v true) + (G.getD v []).length = pot G s
  | [], _, _, h, _, _ => by simp at h
  | r :: G, [], _, _, h, _ => by simp at h
  | r :: G, b :: s, 0, _, _, h0 => by
    have hb : b = false := by simpa using h0
    subst hb
    simp [pot]
    omega
  | r :: G, b :: s, v + 1, h1, h2, h0 => by
    have := pot_set G s v (by simpa using h1) (by simpa using h2) (by simpa using h0)
    simp only [List.set_cons_succ, pot, List.getD_cons_succ]
    omega
theorem pot_le (m : Nat) : ∀ (G : List (List Nat)) (s : List Bool), (∀ r ∈ G, r.length ≤ m) → pot G s ≤ G.length * m
  | [], _, _ => by simp [pot]
  | r :: G, [], h => by
    have h1 := h r List.mem_cons_self
    have h2 := pot_le m G [] (fun x hx => h x (List.mem_cons_of_mem _ hx))
    simp only [pot, List.length_cons, Nat.succ_mul]
    omega
  | r :: G, b :: s, h => by
    have h1 := h r List.mem_cons_self
    have h2 := pot_le m G s (fun x hx => h x (List.mem_cons_of_mem _ hx))
    simp only [pot, List.length_cons, Nat.succ_mul]
    split <;> omega
/-- What holds while the queue is worked off. -/
structure BI (N : Nat) (l : List S41) (fr : List Int) (q : List Int) (seen : List Bool) (out : List Nat) : Prop where
  len : seen.length = N
  lt : ∀ v ∈ out, v < N
  nodup : out.Nodup
  seen : ∀ v, seen.getD v false = true ↔ v ∈ out
  sound : ∀ v ∈ out, RchF N l fr v
  qsound : ∀ v : Nat, v < N → (v : Int) ∈ q → RchF N l fr v
  closed : ∀ v ∈ out, ∀ w, EE N l v w → w ∈ out ∨ (w : Int) ∈ q
  start : ∀ v : Nat, v < N → (v : Int) ∈ fr → v ∈ out ∨ (v : Int) ∈ q
theorem mem_ints {x : Int} {l : List Nat} : x ∈ ints l ↔ ∃ v : Nat, v ∈ l ∧ (v : Int) = x := by
  unfold ints
  rw [List.mem_map]
theorem BI.skip {N : Nat} {l : List S41} {fr : List Int} {x : Int} {q : List Int} {seen : List Bool} {out : List Nat} (h : BI N l fr (x :: q) seen out) (hx : ¬ (0 ≤ x ∧ x < (N : Int) ∧ seen.getD x.toNat false = false)) : BI N l fr q seen out := by
  have key : ∀ v : Nat, v < N → (v : Int) = x → v ∈ out := fun v hv hvx => by
    subst hvx
    refine (h.seen v).1 ?_
    rw [Int.toNat_natCast] at hx
    cases hh : seen.getD v false with
    | true => rfl
    | false => exact absurd ⟨Int.natCast_nonneg v, by omega, hh⟩ hx
  refine ⟨h.len, h.lt, h.nodup, h.seen, h.sound, fun v hv hq => h.qsound v hv (List.mem_cons_of_mem _ hq), fun v hv w he => ?_, fun v hv hq => ?_⟩
  · rcases h.closed v hv w he with h1 | h1
    · exact .inl h1
    · rcases List.mem_cons.1 h1 with h2 | h2
      · exact .inl (key w (EE_lt he).2 h2)
      · exact .inr h2
  · rcases h.start v hv hq with h1 | h1
    · exact .inl h1
    · rcases List.mem_cons.1 h1 with h2 | h2
      · exact .inl (key v hv h2)
      · exact .inr h2
theorem BI.visit {N : Nat} {l : List S41} {fr : List Int} {x : Nat} {q : List Int} {seen : List Bool} {out : List Nat} (h : BI N l fr ((x : Int) :: q) seen out) (hx : x < N) (hs : seen.getD x false = false) :
    BI N l fr (q ++ ints ((graphS N l).getD x [])) (seen.set x true) (out ++ [x]) := by
  have hr : RchF N l fr x := h.qsound x hx List.mem_cons_self
  have hno : x ∉ out := fun hh => by have := (h.seen x).2 hh; rw [hs] at this; exact absurd this (by simp)
  have hstep : ∀ w : Nat, w ∈ out ∨ (w : Int) ∈ (x : Int) :: q → w ∈ out ++ [x] ∨ (w : Int) ∈ q ++ ints ((graphS N l).getD x []) := fun w hw => by
    rcases hw with h1 | h1
    · exact .inl (List.mem_append_left _ h1)
    · rcases List.mem_cons.1 h1 with h2 | h2
      · obtain rfl : w = x := by omega
        exact .inl (List.mem_append_right _ List.mem_cons_self)
      · exact .inr (List.mem_append_left _ h2)
  refine ⟨by rw [List.length_set]; exact h.len, fun v hv => ?_, ?_, fun v => ?_, fun v hv => ?_, fun v hv hq => ?_, fun v hv w he => ?_, fun v hv hq => hstep v (h.start v hv hq)⟩
  · rcases List.mem_append.1 hv with h1 | h1
    · exact h.lt v h1
    · rw [List.mem_singleton.1 h1]; exact hx
  · rw [List.nodup_append]
    refine ⟨h.nodup, by simp, fun a ha b hb e => ?_⟩
    rw [List.mem_singleton.1 hb] at e
    exact hno (e ▸ ha)
  · rw [getD_set _ _ _ _ _ (by rw [h.len]; exact hx), List.mem_append, List.mem_singleton]
    split
    · rename_i e
      exact ⟨fun _ => .inr e.symm, fun _ => rfl⟩
    · rename_i e
      rw [h.seen]
      exact ⟨.inl, fun hh => hh.elim id (fun h2 => absurd h2.symm e)⟩
  · rcases List.mem_append.1 hv with h1 | h1
    · exact h.sound v h1
    · rw [List.mem_singleton.1 h1]; exact hr
  · rcases List.mem_append.1 hq with h1 | h1
    · exact h.qsound v hv (List.mem_cons_of_mem _ h1)
    · obtain ⟨w, hw, e⟩ := mem_ints.1 h1
      obtain rfl : w = v := by omega
      obtain ⟨u, hu, hun, hur⟩ := hr
      exact ⟨u, hu, hun, hur.tail ((graphS_mem N l x w).1 hw)⟩
  · rcases List.mem_append.1 hv with h1 | h1
    · exact hstep w (h.closed v h1 w he)
    · rw [List.mem_singleton.1 h1] at he
      exact .inr (List.mem_append_right _ (mem_ints.2 ⟨w, (graphS_mem N l x w).2 he, rfl⟩))
theorem BI.done {N : Nat} {l : List S41} {fr : List Int} {seen : List Bool} {out : List Nat} (h : BI N l fr [] seen out) (v : Nat) : v ∈ out ↔ RchF N l fr v := by
  refine ⟨h.sound v, ?_⟩
  rintro ⟨u, hu, hun, hr⟩
  have hu' : u ∈ out := (h.start u hun hu).resolve_right (by simp)
  exact hr.stays (T := fun x => x ∈ out) hu' (fun x y hx he => (h.closed x hx y he).resolve_right (by simp))
theorem bfs_ok {N : Nat} {l : List S41} {fr : List Int} : ∀ (k : Nat) (q : List Int) (seen : List Bool) (out : List Nat), BI N l fr q seen out → q.length + pot (graphS N l) seen < k →
    ∃ r, bfs (graphS N l) k q seen out = some r ∧ r.Nodup ∧ ∀ v, v ∈ r ↔ RchF N l fr v := by
  intro k
  induction k with
  | zero => intro q seen out _ h; omega
  | succ k ih =>
    intro q seen out h hk
    cases q with
    | nil => exact ⟨out, rfl, h.nodup, h.done⟩
    | cons x q =>
      rw [List.length_cons] at hk
      unfold bfs
      rw [graphS_len]
      by_cases hx : 0 ≤ x ∧ x < (N : Int) ∧ seen.getD x.toNat false = false
      · rw [if_pos hx]
        obtain ⟨n, rfl⟩ : ∃ n : Nat, x = n := ⟨x.toNat, by omega⟩
        rw [Int.toNat_natCast] at hx ⊢
        have hn : n < N := by omega
        refine ih _ _ _ (h.visit hn hx.2.2) ?_
        have := pot_set (graphS N l) seen n (by rw [graphS_len]; exact hn) (by rw [h.len]; exact hn) hx.2.2
        rw [List.length_append, ints_len]
        omega
      · rw [if_neg hx]
        exact ih _ _ _ (h.skip hx) (by omega)
theorem bfs_start (N : Nat) (l : List S41) (fr : List Int) : BI N l fr fr (List.replicate N false) [] :=
  ⟨List.length_replicate, by simp, List.nodup_nil, fun v => ⟨fun h => by rw [repF] at h; exact absurd h (by simp), fun h => absurd h (by simp)⟩, by simp, fun v hv h => ⟨v, h, hv, .refl v⟩, by simp, fun v _ h => .inr h⟩
/-- The points, put in order. -/
theorem sorted_ok {N : Nat} {l : List S41} {fr : List Int} {r : List Nat} (hn : r.Nodup) (hm : ∀ v, v ∈ r ↔ RchF N l fr v) : ∃ s, (ints r).mergeSort (fun x y => decide (x ≤ y)) = ints s ∧ ROk N l fr s := by
  obtain ⟨m, hmm⟩ : ∃ m, (ints r).mergeSort (fun x y => decide (x ≤ y)) = m := ⟨_, rfl⟩
  have hp : m.Perm (ints r) := hmm ▸ List.mergeSort_perm (ints r) _
  have hs : m.Pairwise (fun x y => decide (x ≤ y) = true) := hmm ▸ List.pairwise_mergeSort (fun a b c h1 h2 => by simp only [decide_eq_true_eq] at *; omega) (fun a b => by simp only [Bool.or_eq_true, decide_eq_true_eq]; omega) (ints r)
  have hpos : ∀ x ∈ m, 0 ≤ x := fun x hx => by
    obtain ⟨v, _, rfl⟩ := mem_ints.1 (hp.mem_iff.1 hx)
    omega
  have hms : ints (m.map Int.toNat) = m := by
    unfold ints
    rw [List.map_map]
    refine (List.map_congr_left (fun x hx => ?_)).trans (List.map_id m)
    show ((x.toNat : Nat) : Int) = id x
    rw [Int.toNat_of_nonneg (hpos x hx)]
    rfl
  refine ⟨m.map Int.toNat, by rw [hms, hmm], ?_, fun v => ?_⟩
  · rw [List.pairwise_map]
    have hnd : m.Nodup := (hp.nodup_iff).2 (by
      unfold ints
      exact List.Pairwise.map _ (fun a b h e => h (by omega)) hn)
    have h2 : m.Pairwise (fun x y => x ≠ y ∧ decide (x ≤ y) = true) := List.pairwise_and_iff.2 ⟨hnd, hs⟩
    exact h2.imp_of_mem (fun {a b} ha hb h => by
      have h1 := hpos a ha
      have h2 := h.1
      have h3 := of_decide_eq_true h.2
      omega)
  · rw [← hm, List.mem_map]
    constructor
    · rintro ⟨x, hx, rfl⟩
      obtain ⟨u, hu, rfl⟩ := mem_ints.1 (hp.mem_iff.1 hx)
      rw [Int.toNat_natCast]
      exact hu
    · intro hv
      exact ⟨(v : Int), hp.mem_iff.2 (mem_ints.2 ⟨v, hv, rfl⟩), by simp⟩

/-! ### The reference -/
theorem rd_at (l : List Int) (i : Nat) (h : i < l.length) : rd l (i : Int) = l[i] := by
  unfold rd
  rw [Int.toNat_natCast, List.getD_eq_getElem?_getD, List.getElem?_eq_getElem h]
  rfl
theorem reach_l1 (N : Nat) (hN : N ≤ 20000) (m : List Bool) (hm : m.length = N) : ∀ (d i : Nat) (out : List Nat), N - i = d → i ≤ N → out.length ≤ i →
    crosstreeref15_Reach.l1 (d + 1) (N : Int) m (ints out) (i : Int) = some (ints (out ++ (List.range' i d).filter (fun v => m.getD v false))) := by
  intro d
  induction d with
  | zero =>
    intro i out h1 h2 h3
    unfold crosstreeref15_Reach.l1
    rw [if_neg (by omega)]
    simp
  | succ d ih =>
    intro i out h1 h2 h3
    unfold crosstreeref15_Reach.l1
    rw [if_pos (by omega), if_pos (by omega), if_pos (by omega), rdOf_at, Int.toNat_natCast, w64 (by omega) (by omega), show (i : Int) + 1 = ((i + 1 : Nat) : Int) by omega, List.range'_succ, List.filter_cons]
    by_cases h : m.getD i false = true
    · rw [if_pos h, if_pos h, if_pos (by rw [ints_len]; omega), ints_snoc _ _ (Int.natCast_nonneg i), Int.toNat_natCast, ih (i + 1) (out ++ [i]) (by omega) (by omega) (by rw [List.length_append, List.length_singleton]; omega), List.append_assoc]
      rfl
    · rw [if_neg h, if_neg h]
      exact ih (i + 1) out (by omega) (by omega) (by omega)
theorem reach_l0 (N : Nat) (hN : N ≤ 20000) (l : List S41) (hl : l.length ≤ 1000000) (fr : List Int) (hfr : fr.length ≤ 1000000000) (s : List Nat) (hs : ROk N l fr s) : ∀ (d i : Nat) (m : List Bool), fr.length - i = d → i ≤ fr.length → m.length = N →
    (∀ v, m.getD v false = true ↔ v < N ∧ (v : Int) ∈ fr.take i) → ∃ k, crosstreeref15_Reach.l0 k (N : Int) l fr m (i : Int) = some (ints s) := by
  intro d
  induction d with
  | zero =>
    intro i m h1 h2 hm hi
    obtain ⟨k, m', g1, g2, g3⟩ := spread_f N l hl m hm
    refine ⟨max k (N + 1) + 1, ?_⟩
    unfold crosstreeref15_Reach.l0
    rw [if_neg (by omega), le_mono (g := fun k => crosstreeref15_spread.f k (N : Int) l m) (crosstreeref15_spread.mono _ _ _) g1 (max k (N + 1)) (by omega), Option.bind_some]
    refine le_mono (g := fun k => crosstreeref15_Reach.l1 k (N : Int) m' ([] : List Int) 0) (fun k => (crosstreeref15_Reach.mono_l k).2 _ _ _ _) (m := N + 1) ?_ _ (by omega)
    have h := reach_l1 N hN m' g2 N 0 [] (by omega) (Nat.zero_le _) (Nat.le_refl _)
    rw [List.nil_append] at h
    refine h.trans (congrArg (fun x => some (ints x)) ?_)
    refine ROk.unique (N := N) (l := l) (fr := fr) ⟨?_, fun v => ?_⟩ hs
    · refine List.Pairwise.filter _ ?_
      exact List.pairwise_lt_range' (s := 0) (n := N)
    · rw [List.mem_filter, g3]
      have hi' : ∀ v, m.getD v false = true ↔ v < N ∧ (v : Int) ∈ fr := fun v => by rw [hi v, List.take_of_length_le (by omega)]
      constructor
      · rintro ⟨_, y, hy, hr⟩
        exact ⟨y, ((hi' y).1 hy).2, ((hi' y).1 hy).1, hr⟩
      · intro hv
        have hlt := hv.lt
        obtain ⟨u, hu, hun, hr⟩ := hv
        exact ⟨by rw [List.mem_range'_1]; omega, u, (hi' u).2 ⟨hun, hu⟩, hr⟩
  | succ d ih =>
    intro i m h1 h2 hm hi
    have hlt : i < fr.length := by omega
    have htake : fr.take (i + 1) = fr.take i ++ [fr[i]] := List.take_succ_eq_append_getElem hlt
    have hno : ¬ (0 ≤ fr[i] ∧ fr[i] < (N : Int)) → ∃ k, crosstreeref15_Reach.l0 k (N : Int) l fr m ((i + 1 : Nat) : Int) = some (ints s) := fun hh => ih (i + 1) m (by omega) (by omega) hm (fun v => by
      rw [hi v, htake, List.mem_append, List.mem_singleton]
      constructor
      · rintro ⟨a, b⟩; exact ⟨a, .inl b⟩
      · rintro ⟨a, b | b⟩
        · exact ⟨a, b⟩
        · exact absurd ⟨by omega, by omega⟩ hh)
    by_cases h0 : fr[i] ≥ 0
    · by_cases h9 : fr[i] < (N : Int)
      · obtain ⟨k, hk⟩ := ih (i + 1) (m.set fr[i].toNat true) (by omega) (by omega) (by rw [List.length_set]; exact hm) (fun v => by
          rw [getD_set _ _ _ _ _ (by omega), htake, List.mem_append, List.mem_singleton]
          split
          · rename_i e
            exact ⟨fun _ => ⟨by omega, .inr (by omega)⟩, fun _ => rfl⟩
          · rename_i e
            rw [hi v]
            constructor
            · rintro ⟨a, b⟩; exact ⟨a, .inl b⟩
            · rintro ⟨a, b | b⟩
              · exact ⟨a, b⟩
              · omega)
        refine ⟨k + 1, ?_⟩
        unfold crosstreeref15_Reach.l0
        rw [if_pos (by omega), if_pos (by omega), rd_at _ _ hlt, if_pos h0, if_pos h9, if_pos h0, if_pos (by omega), w64 (by omega) (by omega), show (i : Int) + 1 = ((i + 1 : Nat) : Int) by omega]
        exact hk
      · obtain ⟨k, hk⟩ := hno (fun hh => h9 hh.2)
        refine ⟨k + 1, ?_⟩
        unfold crosstreeref15_Reach.l0
        rw [if_pos (by omega), if_pos (by omega), rd_at _ _ hlt, if_pos h0, if_neg h9, w64 (by omega) (by omega), show (i : Int) + 1 = ((i + 1 : Nat) : Int) by omega]
        exact hk
    · obtain ⟨k, hk⟩ := hno (fun hh => h0 hh.1)
      refine ⟨k + 1, ?_⟩
      unfold crosstreeref15_Reach.l0
      rw [if_pos (by omega), if_pos (by omega), rd_at _ _ hlt, if_neg h0, w64 (by omega) (by omega), show (i : Int) + 1 = ((i + 1 : Nat) : Int) by omega]
      exact hk
theorem refReach_f (n : Int) (l : List S41) (hl : l.length ≤ 1000000) (fr : List Int) (hfr : fr.length ≤ 1000000000) (s : List Nat) (hs : ROk (sizeN n) l fr s) : ∃ k, crosstreeref15_Reach.f k n l fr = some (ints s) := by
  obtain ⟨k, hk⟩ := reach_l0 (sizeN n) (sizeN_le n) l hl fr hfr s hs fr.length 0 (List.replicate (sizeN n) false) (by omega) (Nat.zero_le _) (by rw [List.length_replicate]) (fun v => by
    rw [repF]
    simp)
  refine ⟨k, ?_⟩
  unfold crosstreeref15_Reach.f
  have := sizeN_le n
  rw [size_f, Option.bind_some, if_pos (by omega), Int.toNat_natCast, if_pos (by omega)]
  exact hk
end Go.Proofs.Ytjbgealnnlmchaa.G
