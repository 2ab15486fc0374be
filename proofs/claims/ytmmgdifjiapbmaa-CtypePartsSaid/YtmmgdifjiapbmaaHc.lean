/- ctype.Same tells whether two types are the same (sameT). The arguments read as types. -/
import Derived.Test.YtmmgdifjiapbmaaHb
set_option linter.unusedVariables false
set_option linter.unusedSimpArgs false
namespace Go.Proofs.Ytmmgdifjiapbmaa.G
open Go.RowKit Go.Proofs.Ytmmgdifjiapbmaa.B Go.Proofs.YtmmgdifjiapbmaaW.PrintWords Go.Proofs.YtmmgdifjiapbmaaW.PrintLast Go.Proofs.YtmmgdifjiapbmaaW.PrintMore

theorem same_step (n : Nat) (ih : ∀ (t u : S24) (A : Option Addr) (c : Nat) (B : Option Addr) (d : Nat) (w : World), SizeOf.sizeOf t < n → Kd.C k24 w A t.f3.length t.f3 → t.f3.length ≤ c → Kd.C k24 w B u.f3.length u.f3 → u.f3.length ≤ d →
      Calls Try.prog 11 #[.agg #[.int .i64 t.f0, .int .i64 t.f1, .string t.f2, .slice A t.f3.length c], .agg #[.int .i64 u.f0, .int .i64 u.f1, .string u.f2, .slice B u.f3.length d]] w fun e w' => e = .returned (.bool (sameT t u)) ∧ Below w.heap.size w w')
    (t u : S24) (A : Option Addr) (c : Nat) (B : Option Addr) (d : Nat) (w : World) (hn : SizeOf.sizeOf t ≤ n) (hC : Kd.C k24 w A t.f3.length t.f3) (hc : t.f3.length ≤ c) (hD : Kd.C k24 w B u.f3.length u.f3) (hd : u.f3.length ≤ d) :
      Calls Try.prog 11 #[.agg #[.int .i64 t.f0, .int .i64 t.f1, .string t.f2, .slice A t.f3.length c], .agg #[.int .i64 u.f0, .int .i64 u.f1, .string u.f2, .slice B u.f3.length d]] w fun e w' => e = .returned (.bool (sameT t u)) ∧ Below w.heap.size w w' := by
  by_cases h0 : t.f0 = u.f0
  case neg =>
    have hr : sameT t u = false := by cases t; cases u; simp [sameT]; intro h; exact absurd h h0
    rw [hr]
    have h0b : (t.f0 != u.f0) = true := bne_iff_ne.mpr h0
    clear h0 hr
    go_enter Try.func11, Try.ntmps11
    go_wp2_with fail
    go_ret
    exact ⟨rfl, ((Below.refl _ _).alloc (Nat.le_refl _) _).alloc (by simp) _⟩
  by_cases h1 : t.f1 = u.f1
  case neg =>
    have hr : sameT t u = false := by cases t; cases u; simp [sameT]; intro _ h; exact absurd h h1
    rw [hr]
    have h0b : (t.f0 != u.f0) = false := bne_eq_false_iff_eq.mpr h0
    have h1b : (t.f1 != u.f1) = true := bne_iff_ne.mpr h1
    clear h0 h1 hr
    go_enter Try.func11, Try.ntmps11
    go_wp2_with fail
    go_ret
    exact ⟨rfl, ((Below.refl _ _).alloc (Nat.le_refl _) _).alloc (by simp) _⟩
  by_cases h2 : t.f2.toList = u.f2.toList
  case neg =>
    have hr : sameT t u = false := by cases t; cases u; simp [sameT]; intro _ _ h; exact absurd h h2
    rw [hr]
    have h0b : (t.f0 != u.f0) = false := bne_eq_false_iff_eq.mpr h0
    have h1b : (t.f1 != u.f1) = false := bne_eq_false_iff_eq.mpr h1
    have h2b : (t.f2.toList == u.f2.toList) = false := beq_eq_false_iff_ne.mpr h2
    clear h0 h1 h2 hr
    go_enter Try.func11, Try.ntmps11
    go_wp2_with fail
    go_ret
    exact ⟨rfl, ((Below.refl _ _).alloc (Nat.le_refl _) _).alloc (by simp) _⟩
  by_cases h3 : t.f3.length = u.f3.length
  case neg =>
    have hr : sameT t u = false := by
      cases t; cases u; simp [sameT]; intro _ _ _
      rw [sameL_iff]; simp; intro h; exact absurd h h3
    rw [hr]
    have h0b : (t.f0 != u.f0) = false := bne_eq_false_iff_eq.mpr h0
    have h1b : (t.f1 != u.f1) = false := bne_eq_false_iff_eq.mpr h1
    have h2b : (t.f2.toList == u.f2.toList) = true := beq_iff_eq.mpr h2
    have h3b : (t.f3.length == u.f3.length) = false := beq_eq_false_iff_ne.mpr h3
    have h3c : (t.f3.length != u.f3.length) = true := bne_iff_ne.mpr h3
    have h3d : ((t.f3.length : Int) != (u.f3.length : Int)) = true := bne_iff_ne.mpr (by omega)
    clear h0 h1 h2 h3 hr
    go_enter Try.func11, Try.ntmps11
    go_wp2_with fail
    go_ret
    exact ⟨rfl, ((Below.refl _ _).alloc (Nat.le_refl _) _).alloc (by simp) _⟩
  have hr : sameT t u = decide (∀ k, k < t.f3.length → sameT (rd_T24 t.f3 k) (rd_T24 u.f3 k) = true) := by
    obtain ⟨a, b, cc, l⟩ := t
    obtain ⟨a', b', c', l'⟩ := u
    simp only at h0 h1 h2 h3
    simp only [sameT, h0, h1, h2, beq_self_eq_true, Bool.true_and]
    rw [sameL_iff, h3]
    simp
  rw [hr]
  have h0b : (t.f0 != u.f0) = false := bne_eq_false_iff_eq.mpr h0
  have h1b : (t.f1 != u.f1) = false := bne_eq_false_iff_eq.mpr h1
  have h2b : (t.f2.toList == u.f2.toList) = true := beq_iff_eq.mpr h2
  have h3b : (t.f3.length == u.f3.length) = true := beq_iff_eq.mpr h3
  have h3c : (t.f3.length != u.f3.length) = false := bne_eq_false_iff_eq.mpr h3
  have h3d : ((t.f3.length : Int) != (u.f3.length : Int)) = false := bne_eq_false_iff_eq.mpr (by omega)
  have H3 := Aside0.mk h3
  clear h0 h1 h2 h3 hr
  have HC := Aside0.mk hC
  have HD := Aside0.mk hD
  have IH := Aside0.mk ih
  clear hC hD ih
  go_enter Try.func11, Try.ntmps11
  go_wp2_with fail
  have HW3 := Aside0.mk (show Below w.heap.size w _ from (((Below.refl w.heap.size w).alloc (Nat.le_refl _) (Obj.cells #[Value.int IntKind.i64 t.f0, Value.int IntKind.i64 t.f1, Value.string t.f2, Value.slice A t.f3.length c] 24)).alloc (by simp) (Obj.cells #[Value.int IntKind.i64 u.f0, Value.int IntKind.i64 u.f1, Value.string u.f2, Value.slice B u.f3.length d] 24)).alloc (by simp; omega) (Obj.cells #[Value.int IntKind.i64 (-1)] 3))
  have HBI := Aside0.mk (blk_new ((w.alloc (Obj.cells #[Value.int IntKind.i64 t.f0, Value.int IntKind.i64 t.f1, Value.string t.f2, Value.slice A t.f3.length c] 24)).alloc (Obj.cells #[Value.int IntKind.i64 u.f0, Value.int IntKind.i64 u.f1, Value.string u.f2, Value.slice B u.f3.length d] 24)) (Obj.cells #[Value.int IntKind.i64 (-1)] 3))
  have HBU := Aside0.mk (blk_alloc (blk_new (w.alloc (Obj.cells #[Value.int IntKind.i64 t.f0, Value.int IntKind.i64 t.f1, Value.string t.f2, Value.slice A t.f3.length c] 24)) (Obj.cells #[Value.int IntKind.i64 u.f0, Value.int IntKind.i64 u.f1, Value.string u.f2, Value.slice B u.f3.length d] 24)) (Obj.cells #[Value.int IntKind.i64 (-1)] 3))
  generalize ((w.alloc (Obj.cells #[Value.int IntKind.i64 t.f0, Value.int IntKind.i64 t.f1, Value.string t.f2, Value.slice A t.f3.length c] 24)).alloc (Obj.cells #[Value.int IntKind.i64 u.f0, Value.int IntKind.i64 u.f1, Value.string u.f2, Value.slice B u.f3.length d] 24)).alloc (Obj.cells #[Value.int IntKind.i64 (-1)] 3) = W at HW3 HBI HBU ⊢
  simp only [World.size_alloc] at HBI HBU
  have hm := HD.out.2.1
  refine (all_calls 27 _ t.f3 A c w W (fun k w1 => w1.heap[w.heap.size + 1 + 1]? = some (.cells #[.int .i64 ((k : Int) - 1)] 3 (0, 0)) ∧ Kp W w1 (· = w.heap.size + 1 + 1)) (fun k => sameT (rd_T24 t.f3 k) (rd_T24 u.f3 k))
    (fun _ _ => rfl) ⟨HBI.out, Kp.refl _ _⟩ HC.out ?_ ?_ ?_).mono ?_
  · rintro k w1 ⟨_, hk⟩ b hb
    exact (hk.block b (Nat.lt_of_lt_of_le hb HW3.out.size) (by omega)).trans (HW3.out.block b hb)
  · rintro k w1 w2 ⟨hb, hk⟩ hB
    exact ⟨blk_below hb hB, hk.below hB⟩
  · rintro k w1 A3 c3 hk ⟨hb, hK⟩ hr hl
    have hkk : ∀ w2, Kp w1 w2 (· = w.heap.size + 1 + 1) → ∀ b, b < w.heap.size → w2.heap[b]? = w.heap[b]? := fun w2 h2 b hb =>
      ((h2.block b (Nat.lt_of_lt_of_le hb (Nat.le_trans HW3.out.size hK.size)) (by omega)).trans (hK.block b (Nat.lt_of_lt_of_le hb HW3.out.size) (by omega))).trans (HW3.out.block b hb)
    refine (same1_calls n IH.out (rd_T24 t.f3 k) u A3 c3 B d k _ _ w1 (Nat.lt_of_lt_of_le (rd_size t k hk) hn) (fun w2 h2 => Kd.Heap.C k24_heap (hkk w2 h2) hr) hl hb (blk_kp HBU.out hK (by omega)) (by omega) (by have := H3.out; omega)
      (fun w2 h2 => Kd.Heap.C k24_heap (hkk w2 h2) HD.out) hm).mono ?_
    rintro e w2 ⟨rfl, hb2, hk2⟩
    exact ⟨rfl, by rw [hb2]; simp, hK.then_ hk2 (fun _ h => .inl h)⟩
  rintro e w4 ⟨rfl, k, _, hK4⟩
  have HK4 := Aside0.mk hK4
  clear hK4
  go_wp2_with fail
  go_ret
  exact ⟨rfl, Kp.below_of HW3.out HK4.out (fun k h => by omega)⟩
theorem same_calls (t u : S24) (A : Option Addr) (c : Nat) (B : Option Addr) (d : Nat) (w : World) (hC : Kd.C k24 w A t.f3.length t.f3) (hc : t.f3.length ≤ c) (hD : Kd.C k24 w B u.f3.length u.f3) (hd : u.f3.length ≤ d) :
      Calls Try.prog 11 #[.agg #[.int .i64 t.f0, .int .i64 t.f1, .string t.f2, .slice A t.f3.length c], .agg #[.int .i64 u.f0, .int .i64 u.f1, .string u.f2, .slice B u.f3.length d]] w fun e w' => e = .returned (.bool (sameT t u)) ∧ Below w.heap.size w w' := by
  have H : ∀ (n : Nat) (t u : S24) (A : Option Addr) (c : Nat) (B : Option Addr) (d : Nat) (w : World), SizeOf.sizeOf t < n → Kd.C k24 w A t.f3.length t.f3 → t.f3.length ≤ c → Kd.C k24 w B u.f3.length u.f3 → u.f3.length ≤ d →
      Calls Try.prog 11 #[.agg #[.int .i64 t.f0, .int .i64 t.f1, .string t.f2, .slice A t.f3.length c], .agg #[.int .i64 u.f0, .int .i64 u.f1, .string u.f2, .slice B u.f3.length d]] w fun e w' => e = .returned (.bool (sameT t u)) ∧ Below w.heap.size w w' := by
    intro n
    induction n with
    | zero => intro t u A c B d w h; omega
    | succ n ih => intro t u A c B d w h hC hc hD hd; exact same_step n ih t u A c B d w (by omega) hC hc hD hd
  exact H (SizeOf.sizeOf t + 1) t u A c B d w (by omega) hC hc hD hd
end Go.Proofs.Ytmmgdifjiapbmaa.G
