/- What the laws of scc call: each answer is a list of numbers that is read. No condition but sizes. -/
import Derived.Test.YtdobjmbfkdfdcaaNo
import Derived.Test.YtdobjmbfkdfdcaaPi
import Derived.Test.YtdobjmbfkdfdcaaGx8
set_option linter.unusedVariables false
set_option linter.unusedSimpArgs false
namespace Go.Proofs.Ytdobjmbfkdfdcaa.G
open Go.RowKit Go.Proofs.Ytdobjmbfkdfdcaa.B Go.Proofs.YtdobjmbfkdfdcaaW.PrintWords Go.Proofs.YtdobjmbfkdfdcaaW.PrintLast Go.Proofs.YtdobjmbfkdfdcaaW.PrintMore

/-- A list of edges that lies there. -/
structure Edg (W : World) (A : Option Addr) (l : List S33) (c : Nat) : Prop where
  C : Kd.C k33 W A l.length l
  cap : l.length ≤ c
  len : l.length ≤ 1000000
theorem Edg.below {W W' : World} {A : Option Addr} {l : List S33} {c : Nat} (h : Edg W A l c) (hb : Below W.heap.size W W') : Edg W' A l c := ⟨Kd.C_below h.C hb, h.cap, h.len⟩
/-- A list of numbers that lies there. -/
structure Nts (W : World) (A : Option Addr) (r : List Nat) (c : Nat) : Prop where
  C : Kd.C (Kd.int .i64) W A r.length (ints r)
  cap : r.length ≤ c
theorem Nts.below {W W' : World} {A : Option Addr} {r : List Nat} {c : Nat} (h : Nts W A r c) (hb : Below W.heap.size W W') : Nts W' A r c := ⟨Kd.C_below h.C hb, h.cap⟩
theorem groups_d (n : Int) (l : List S33) (A : Option Addr) (c : Nat) (w : World) (h : Edg w A l c) (r : List Nat) (hr : GrpOk (sizeN n) l r) :
    Calls Try.prog 12 #[.int .i64 n, .slice A l.length c] w fun e w' => ∃ A c, e = .returned (.slice A r.length c) ∧ Nts w' A r c ∧ Below w.heap.size w w' := by
  obtain ⟨kg, hf⟩ := graph_f n l h.len
  obtain ⟨sE, hs, hgr⟩ := groups_ok (sizeN n) l (sizeN_le n)
  have hgc := groups_c n A c l w (graphS (sizeN n) l) kg h.C h.cap hf (by rw [graphS_len]; exact sizeN_le n) (fun v x hx => by rw [graphS_len]; exact (EE_lt ((graphS_mem _ _ v x).1 hx)).2) (fun v => Nat.le_trans (graphS_row _ _ v) h.len) sE hs
  rw [graphS_len, hgr.unique hr, ← hr.1] at hgc
  refine hgc.mono ?_
  rintro e w' ⟨A', c', rfl, h1, h2, h3⟩
  exact ⟨A', c', rfl, ⟨h2, h1⟩, h3⟩
theorem order_d (n : Int) (l : List S33) (A : Option Addr) (c : Nat) (w : World) (h : Edg w A l c) (r R : List Nat) (hr : GrpOk (sizeN n) l r) (hR : greedy (sizeN n) l r (sizeN n + 1) (List.replicate (sizeN n) false) [] = some R) :
    Calls Try.prog 14 #[.int .i64 n, .slice A l.length c] w fun e w' => ∃ A c, e = .returned (.slice A R.length c) ∧ Nts w' A R c ∧ Below w.heap.size w w' := by
  refine (order_c n A c l w h.C h.cap h.len).mono ?_
  rintro e w' ⟨R', A', c', r', rfl, h1, h2, h3, h4, h5⟩
  rw [h2.unique hr, hR] at h3
  injection h3 with h3
  subst h3
  exact ⟨A', c', rfl, ⟨h4, h1⟩, h5⟩
theorem ROk.exists_ (N : Nat) (hN : N ≤ 20000) (l : List S33) (hl : l.length ≤ 1000000) (fr : List Int) (hfr : fr.length ≤ 1000000000) : ∃ s, ROk N l fr s := by
  obtain ⟨r, hr, hrn, hrm⟩ := bfs_ok (fr.length + pot (graphS N l) (List.replicate N false) + 1) fr (List.replicate N false) [] (bfs_start N l fr) (by omega)
  obtain ⟨s, _, hs⟩ := sorted_ok hrn hrm
  exact ⟨s, hs⟩
theorem reach_d (n : Int) (l : List S33) (A : Option Addr) (c : Nat) (fr : List Int) (A2 : Option Addr) (c2 : Nat) (w : World) (h : Edg w A l c) (hf : Kd.C (Kd.int .i64) w A2 fr.length fr) (hfl : fr.length ≤ 1000000000) (s : List Nat) (hs : ROk (sizeN n) l fr s) :
    Calls Try.prog 16 #[.int .i64 n, .slice A l.length c, .slice A2 fr.length c2] w fun e w' => ∃ A c, e = .returned (.slice A s.length c) ∧ Nts w' A s c ∧ Below w.heap.size w w' := by
  refine (reach_c n l A c fr A2 c2 w h.C h.cap hf h.len hfl).mono ?_
  rintro e w' ⟨s', A', c', rfl, h1, h2, h3, h4⟩
  have := h1.unique hs
  subst this
  exact ⟨A', c', rfl, ⟨h3, h2⟩, h4⟩
theorem R_nts {W : World} {base : Nat} {ok : Nat → Prop} {v : Value} {r : List Nat} (h : Kd.R (Kd.int .i64) 3 W base ok v (ints r)) : ∃ A c, v = .slice A r.length c ∧ Nts W A r c := by
  obtain ⟨A, c, e, h1, h2⟩ := Kd.R_reads h
  rw [ints_len] at e h1 h2
  exact ⟨A, c, e, h2, h1⟩
theorem refGroups_d (n : Int) (l : List S33) (A : Option Addr) (c : Nat) (w : World) (h : Edg w A l c) (r : List Nat) (hr : GrpOk (sizeN n) l r) :
    Calls Try.prog 13 #[.int .i64 n, .slice A l.length c] w fun e w' => ∃ A c, e = .returned (.slice A r.length c) ∧ Nts w' A r c ∧ Below w.heap.size w w' := by
  obtain ⟨k, hk⟩ := refGroups_f n l h.len r hr
  refine (crosstreeref15_Groups.calls k n A c l _ w h.C h.cap hk).mono ?_
  rintro e w' ⟨v, rfl, h1, h2⟩
  obtain ⟨A', c', rfl, h3⟩ := R_nts h1
  exact ⟨A', c', rfl, h3, h2⟩
theorem refOrder_d (n : Int) (l : List S33) (A : Option Addr) (c : Nat) (w : World) (h : Edg w A l c) (r R : List Nat) (hr : GrpOk (sizeN n) l r) (hR : greedy (sizeN n) l r (sizeN n + 1) (List.replicate (sizeN n) false) [] = some R) :
    Calls Try.prog 15 #[.int .i64 n, .slice A l.length c] w fun e w' => ∃ A c, e = .returned (.slice A R.length c) ∧ Nts w' A R c ∧ Below w.heap.size w w' := by
  obtain ⟨k, hk⟩ := refOrder_f n l h.len r hr (fun v hv => (hr.lt v hv).1) R hR
  refine (crosstreeref15_Order.calls k n A c l _ w h.C h.cap hk).mono ?_
  rintro e w' ⟨v, rfl, h1, h2⟩
  obtain ⟨A', c', rfl, h3⟩ := R_nts h1
  exact ⟨A', c', rfl, h3, h2⟩
theorem refReach_d (n : Int) (l : List S33) (A : Option Addr) (c : Nat) (fr : List Int) (A2 : Option Addr) (c2 : Nat) (w : World) (h : Edg w A l c) (hf : Kd.C (Kd.int .i64) w A2 fr.length fr) (hc2 : fr.length ≤ c2) (hfl : fr.length ≤ 1000000000) (s : List Nat) (hs : ROk (sizeN n) l fr s) :
    Calls Try.prog 17 #[.int .i64 n, .slice A l.length c, .slice A2 fr.length c2] w fun e w' => ∃ A c, e = .returned (.slice A s.length c) ∧ Nts w' A s c ∧ Below w.heap.size w w' := by
  obtain ⟨k, hk⟩ := refReach_f n l h.len fr hfl s hs
  refine (crosstreeref15_Reach.calls k n A c l A2 c2 fr _ w h.C h.cap hf hc2 hk).mono ?_
  rintro e w' ⟨v, rfl, h1, h2⟩
  obtain ⟨A', c', rfl, h3⟩ := R_nts h1
  exact ⟨A', c', rfl, h3, h2⟩
theorem ints_d (r : List Nat) (A : Option Addr) (c : Nat) (B : Option Addr) (d : Nat) (w : World) (hA : Nts w A r c) (hB : Nts w B r d) (hr : r.length ≤ 1000000) :
    Calls Try.prog 11 #[.slice A r.length c, .slice B r.length d] w fun e w' => e = .returned (.bool true) ∧ Below w.heap.size w w' := by
  obtain ⟨k, hk⟩ := ints_f (ints r) (by rw [ints_len]; exact hr)
  have h := crosstreeref06_Ints.calls k A c (ints r) B d (ints r) true w (by rw [ints_len]; exact hA.C) (by rw [ints_len]; exact hA.cap) (by rw [ints_len]; exact hB.C) (by rw [ints_len]; exact hB.cap) hk
  rw [ints_len] at h
  exact h.mono (fun e w' ⟨he, hd⟩ => ⟨he, hd.below⟩)
def fewN (n : Int) : Int := if n > 60 then 60 else n
set_option maxRecDepth 100000 in
set_option maxHeartbeats 8000000 in
theorem few_d (n : Int) (l : List S33) (A : Option Addr) (c : Nat) (w : World) (hC : Kd.C k33 w A l.length l) (hc : l.length ≤ c) :
    Calls Try.prog 10 #[.int .i64 n, .slice A l.length c] w fun e w' => e = .returned (.tuple #[.int .i64 (fewN n), .slice A (l.take 200).length c]) ∧ Edg w' A (l.take 200) c ∧ w' = w := by
  have hE : Edg w A (l.take 200) c := by
    have hlt : (l.take 200).length ≤ 200 ∧ (l.take 200).length ≤ l.length := by rw [List.length_take]; omega
    refine ⟨?_, by omega, by omega⟩
    by_cases h : l.length ≤ 200
    · rw [List.take_of_length_le h]; exact hC
    · exact Kd.C_take hC (by omega)
  have HE := Aside0.mk hE
  have HC := Aside0.mk hc
  clear hE hC hc
  obtain ⟨i0, hi0, _, hsz0, _⟩ := info_parts info33
  unfold fewN
  by_cases h1 : n > 60
  · rw [if_pos h1]
    have e1 : decide (60 < n) = true := decide_eq_true h1
    clear h1
    by_cases h2 : l.length > 200
    · have e2 : decide (200 < l.length) = true := decide_eq_true h2
      have e3 : decide ((200 : Int) < (l.length : Int)) = true := decide_eq_true (by omega)
      have hcut := cut_to (P := Try.prog) 22 33 .i64 Try.underlying22 hi0 A l.length c 200 (by omega) (by omega) HC.out
      have hlen : (l.take 200).length = 200 := by rw [List.length_take]; omega
      rw [hlen]
      clear h2
      go_enter Try.func10, Try.ntmps10
      go_wp2_with fail
      go_ret2
      exact ⟨rfl, HE.out, rfl⟩
    · have e2 : decide (200 < l.length) = false := decide_eq_false h2
      have e3 : decide ((200 : Int) < (l.length : Int)) = false := decide_eq_false (by omega)
      rw [List.take_of_length_le (by omega)] at HE ⊢
      clear h2
      go_enter Try.func10, Try.ntmps10
      go_wp2_with fail
      go_ret2
      exact ⟨rfl, HE.out, rfl⟩
  · rw [if_neg h1]
    have e1 : decide (60 < n) = false := decide_eq_false h1
    clear h1
    by_cases h2 : l.length > 200
    · have e2 : decide (200 < l.length) = true := decide_eq_true h2
      have e3 : decide ((200 : Int) < (l.length : Int)) = true := decide_eq_true (by omega)
      have hcut := cut_to (P := Try.prog) 22 33 .i64 Try.underlying22 hi0 A l.length c 200 (by omega) (by omega) HC.out
      have hlen : (l.take 200).length = 200 := by rw [List.length_take]; omega
      rw [hlen]
      clear h2
      go_enter Try.func10, Try.ntmps10
      go_wp2_with fail
      go_ret2
      exact ⟨rfl, HE.out, rfl⟩
    · have e2 : decide (200 < l.length) = false := decide_eq_false h2
      have e3 : decide ((200 : Int) < (l.length : Int)) = false := decide_eq_false (by omega)
      rw [List.take_of_length_le (by omega)] at HE ⊢
      clear h2
      go_enter Try.func10, Try.ntmps10
      go_wp2_with fail
      go_ret2
      exact ⟨rfl, HE.out, rfl⟩
/-- The same, what it gives under names. -/
theorem few_e (n : Int) (l : List S33) (A : Option Addr) (c : Nat) (w0 : World) (hC : Kd.C k33 w0 A l.length l) (hc : l.length ≤ c) : ∃ m l2, m = fewN n ∧ l2 = l.take 200 ∧ ∀ w, Below w0.heap.size w0 w →
    Calls Try.prog 10 #[.int .i64 n, .slice A l.length c] w fun e w' => e = .returned (.tuple #[.int .i64 m, .slice A l2.length c]) ∧ Edg w' A l2 c ∧ Below w0.heap.size w0 w' := by
  refine ⟨_, _, rfl, rfl, fun w hB => (few_d n l A c w (Kd.C_below hC hB) hc).mono ?_⟩
  rintro e w' ⟨h1, h2, rfl⟩
  exact ⟨h1, h2, hB⟩
end Go.Proofs.Ytdobjmbfkdfdcaa.G
