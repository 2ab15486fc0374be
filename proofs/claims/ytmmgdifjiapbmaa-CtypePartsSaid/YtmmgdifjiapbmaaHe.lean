/- ctype.Decay, Width and the reference's Decay, as plain functions. The arguments read as types. -/
import Derived.Test.YtmmgdifjiapbmaaHd
set_option linter.unusedVariables false
set_option linter.unusedSimpArgs false
namespace Go.Proofs.Ytmmgdifjiapbmaa.G
open Go.RowKit Go.Proofs.Ytmmgdifjiapbmaa.B Go.Proofs.YtmmgdifjiapbmaaW.PrintWords Go.Proofs.YtmmgdifjiapbmaaW.PrintLast Go.Proofs.YtmmgdifjiapbmaaW.PrintMore


theorem take_one (l : List S24) (h : 0 < l.length) : l.take 1 = [rd_T24 l 0] := by
  cases l with
  | nil => simp at h
  | cons a l => rfl
theorem decay_calls (x : S24) (A : Option Addr) (c : Nat) (ok : Nat → Prop) (w : World) (hC : Kd.F k24 w ok A x.f3.length x.f3) (hl : x.f3.length ≤ c) :
    Calls Try.prog 19 #[.agg #[.int .i64 x.f0, .int .i64 x.f1, .string x.f2, .slice A x.f3.length c]] w fun e w' => ∃ A c, e = .returned (.agg #[.int .i64 (decayT x).f0, .int .i64 (decayT x).f1, .string (decayT x).f2, .slice A (decayT x).f3.length c]) ∧ (decayT x).f3.length ≤ c ∧ Kd.F k24 w' (fun k => ok k ∨ w.heap.size ≤ k) A (decayT x).f3.length (decayT x).f3 ∧ Below w.heap.size w w' := by
  have HC := Aside0.mk hC
  have HL := Aside0.mk hl
  clear hC hl
  by_cases h : x.f0 = 6 ∧ 0 < x.f3.length
  · have hr : decayT x = mkP (rd_T24 x.f3 0) := by simp only [decayT, if_pos h]
    rw [hr]
    have e1 : (x.f0 == 6) = true := beq_iff_eq.mpr h.1
    have h0 := h.2
    have hcap : 1 ≤ c := by have := HL.out; omega
    clear h hr
    go_enter Try.func19, Try.ntmps19
    go_wp2
    have hB : Below w.heap.size w ((w.alloc (.cells #[.int .i64 x.f0, .int .i64 x.f1, .string x.f2, .slice A x.f3.length c] 24)).alloc (.cells #[.int .i64 5, .int .i64 0, .string ⟨#[]⟩, .slice A 1 1] 24)) := ((Below.refl _ _).alloc (Nat.le_refl _) _).alloc (by simp) _
    refine bodyPost_ret (v := .agg #[.int .i64 5, .int .i64 0, .string ⟨#[]⟩, .slice A 1 1]) (by simp [results, Try.results19, go_sem]) rfl ⟨_, _, rfl, Nat.le_refl _, ?_, hB⟩
    have h1 := Kd.F_take (m := 1) (Kd.F_below HC.out hB) (by omega)
    rw [take_one _ h0] at h1
    exact Kd.F_mono h1 (fun k hk => .inl hk)
  · by_cases h9 : x.f0 = 9
    · have hr : decayT x = mkP x := by simp only [decayT, if_neg h, if_pos h9]
      rw [hr]
      have e1 : (x.f0 == 6) = false := beq_eq_false_iff_ne.mpr (by omega)
      have e2 : (x.f0 == 9) = true := beq_iff_eq.mpr h9
      clear h h9 hr
      go_enter Try.func19, Try.ntmps19
      go_wp2
      have hB : Below w.heap.size w (((w.alloc (.cells #[.int .i64 x.f0, .int .i64 x.f1, .string x.f2, .slice A x.f3.length c] 24)).alloc (.cells #[.int .i64 5, .int .i64 0, .string ⟨#[]⟩, .slice (some ⟨w.heap.size + 1 + 1, 0, none⟩) 1 1] 24)).alloc (.cells #[.int .i64 x.f0, .int .i64 x.f1, .string x.f2, .slice A x.f3.length c] 24)) := (((Below.refl _ _).alloc (Nat.le_refl _) _).alloc (by simp) _).alloc (by simp; omega) _
      refine bodyPost_ret (v := .agg #[.int .i64 5, .int .i64 0, .string ⟨#[]⟩, .slice (some ⟨w.heap.size + 1 + 1, 0, none⟩) 1 1]) (by simp [results, Try.results19, go_sem]) rfl ⟨_, _, rfl, Nat.le_refl _, ?_, hB⟩
      exact Kd.F_mono (F_one (blk_at_ _ (by simp)) HL.out (Kd.F_below HC.out hB)) (fun k hk => hk.imp id (fun e => by omega))
    · have hr : decayT x = x := by simp only [decayT, if_neg h, if_neg h9]
      rw [hr]
      have e2 : (x.f0 == 9) = false := beq_eq_false_iff_ne.mpr h9
      have hB : Below w.heap.size w ((w.alloc (.cells #[.int .i64 x.f0, .int .i64 x.f1, .string x.f2, .slice A x.f3.length c] 24)).alloc (.cells #[.int .i64 x.f0, .int .i64 x.f1, .string x.f2, .slice A x.f3.length c] 24)) := ((Below.refl _ _).alloc (Nat.le_refl _) _).alloc (by simp) _
      have HBB := Aside0.mk hB
      clear hB hr h9
      by_cases h6 : x.f0 = 6
      · have e1 : (x.f0 == 6) = true := beq_iff_eq.mpr h6
        have h0 : x.f3.length = 0 := by have : ¬ 0 < x.f3.length := fun hh => h ⟨h6, hh⟩; omega
        have h0' : ¬ 0 < x.f3.length := by omega
        have h0b : x.f3 = [] := List.eq_nil_of_length_eq_zero h0
        have h0c : decide ((0 : Int) < (x.f3.length : Int)) = false := decide_eq_false (by omega)
        have h0d : decide (0 < x.f3.length) = false := decide_eq_false (by omega)
        clear h h6 h0 h0b
        go_enter Try.func19, Try.ntmps19
        go_wp2
        refine bodyPost_ret (v := .agg #[.int .i64 x.f0, .int .i64 x.f1, .string x.f2, .slice A x.f3.length c]) (by simp [results, Try.results19, go_sem]) rfl ⟨_, _, rfl, HL.out, Kd.F_mono (Kd.F_below HC.out HBB.out) (fun k hk => .inl hk), HBB.out⟩
      · have e1 : (x.f0 == 6) = false := beq_eq_false_iff_ne.mpr h6
        clear h h6
        go_enter Try.func19, Try.ntmps19
        go_wp2
        refine bodyPost_ret (v := .agg #[.int .i64 x.f0, .int .i64 x.f1, .string x.f2, .slice A x.f3.length c]) (by simp [results, Try.results19, go_sem]) rfl ⟨_, _, rfl, HL.out, Kd.F_mono (Kd.F_below HC.out HBB.out) (fun k hk => .inl hk), HBB.out⟩
theorem decay_ref (x : S24) (A : Option Addr) (c : Nat) (ok : Nat → Prop) (w : World) (hC : Kd.F k24 w ok A x.f3.length x.f3) (hl : x.f3.length ≤ c) :
    Calls Try.prog 21 #[.agg #[.int .i64 x.f0, .int .i64 x.f1, .string x.f2, .slice A x.f3.length c]] w fun e w' => ∃ A c, e = .returned (.agg #[.int .i64 (decayT x).f0, .int .i64 (decayT x).f1, .string (decayT x).f2, .slice A (decayT x).f3.length c]) ∧ (decayT x).f3.length ≤ c ∧ Kd.F k24 w' (fun k => ok k ∨ w.heap.size ≤ k) A (decayT x).f3.length (decayT x).f3 ∧ Below w.heap.size w w' := by
  have HC := Aside0.mk hC
  have HL := Aside0.mk hl
  clear hC hl
  by_cases h : x.f0 = 6 ∧ 0 < x.f3.length
  · have hr : decayT x = mkP (rd_T24 x.f3 0) := by simp only [decayT, if_pos h]
    rw [hr]
    have e1 : (x.f0 == 6) = true := beq_iff_eq.mpr h.1
    have h0 := h.2
    obtain ⟨ad, A3, c3, e, hlt, hx0, hx1, hx2, hx3, hl3, hi⟩ := atF24 (Kd.F_bound HC.out) 0 h0
    cases e
    simp only [Nat.zero_mul, Addr.add_zero'] at hx0 hx1 hx2 hx3
    have HI := Aside0.mk hi
    have HL3 := Aside0.mk hl3
    clear h hr hi hl3
    go_enter Try.func21, Try.ntmps21
    go_wp2_with fail
    have hB2 : Below w.heap.size w ((w.alloc (.cells #[.int .i64 x.f0, .int .i64 x.f1, .string x.f2, .slice (some ad) x.f3.length c] 24)).alloc (.cells #[.int .i64 0, .int .i64 0, .string ⟨#[]⟩, .slice none 0 0] 24)) := ((Below.refl _ _).alloc (Nat.le_refl _) _).alloc (by simp) _
    refine (pointer_ref (rd_T24 x.f3 0) _ _ _ _ (Kd.F_below HI.out hB2) HL3.out).mono ?_
    rintro e w1 ⟨A1, c1, rfl, hc1, hC1, hb1⟩
    have hz := blk_below (blk_at_ (W := w.alloc (.cells #[.int .i64 x.f0, .int .i64 x.f1, .string x.f2, .slice (some ad) x.f3.length c] 24)) (n := w.heap.size + 1) (.cells #[.int .i64 0, .int .i64 0, .string ⟨#[]⟩, .slice none 0 0] 24) (by simp)) hb1
    have hc4 := cell4 hz
    have hf0 := blk_frozen hz 0
    have hf1 := blk_frozen hz 1
    have hf2 := blk_frozen hz 2
    have hf3 := blk_frozen hz 3
    have HZ := Aside0.mk hz
    have HB1 := Aside0.mk (hB2.trans (hb1.mono (by simp; omega)))
    have HC1 := Aside0.mk (Kd.F_mono hC1 (fun k hk => (by simp at hk; omega : (ok k ∧ k < w.heap.size) ∨ w.heap.size + 2 ≤ k)))
    clear hz hb1 hC1 hB2
    go_wp2_with fail
    refine bodyPost_ret (results_cell_row rfl _ _ (w.heap.size + 1) 24 _ (0, 0) _ rfl (blk_put4 HZ.out _ _ _ _) Try.underlying24 rfl (by kernel_rfl)) rfl ⟨_, _, rfl, hc1, ?_, ?_⟩
    · refine Kd.F_mono (Kd.F_far (p := ⟨w.heap.size + 1, 3, none⟩) (Kd.F_far (p := ⟨w.heap.size + 1, 2, none⟩) (Kd.F_far (p := ⟨w.heap.size + 1, 1, none⟩) (Kd.F_far (p := ⟨w.heap.size + 1, 0, none⟩) HC1.out ?_ _) ?_ _) ?_ _) ?_ _) (fun k hk => hk.imp (fun h => h.1) (fun h => by omega))
      all_goals
        intro k hk
        simp only
        omega
    · exact (((HB1.out.setCell (by simp) _).setCell (by simp) _).setCell (by simp) _).setCell (by simp) _
  · by_cases h9 : x.f0 = 9
    · have hr : decayT x = mkP x := by simp only [decayT, if_neg h, if_pos h9]
      rw [hr]
      have e1 : (x.f0 == 6) = false := beq_eq_false_iff_ne.mpr (by omega)
      have e2 : (x.f0 == 9) = true := beq_iff_eq.mpr h9
      clear h h9 hr
      go_enter Try.func21, Try.ntmps21
      go_wp2_with fail
      have hB2 : Below w.heap.size w ((w.alloc (.cells #[.int .i64 x.f0, .int .i64 x.f1, .string x.f2, .slice A x.f3.length c] 24)).alloc (.cells #[.int .i64 0, .int .i64 0, .string ⟨#[]⟩, .slice none 0 0] 24)) := ((Below.refl _ _).alloc (Nat.le_refl _) _).alloc (by simp) _
      refine (pointer_ref x _ _ _ _ (Kd.F_below (Kd.F_bound HC.out) hB2) HL.out).mono ?_
      rintro e w1 ⟨A1, c1, rfl, hc1, hC1, hb1⟩
      have hz := blk_below (blk_at_ (W := w.alloc (.cells #[.int .i64 x.f0, .int .i64 x.f1, .string x.f2, .slice A x.f3.length c] 24)) (n := w.heap.size + 1) (.cells #[.int .i64 0, .int .i64 0, .string ⟨#[]⟩, .slice none 0 0] 24) (by simp)) hb1
      have hc4 := cell4 hz
      have hf0 := blk_frozen hz 0
      have hf1 := blk_frozen hz 1
      have hf2 := blk_frozen hz 2
      have hf3 := blk_frozen hz 3
      have HZ := Aside0.mk hz
      have HB1 := Aside0.mk (hB2.trans (hb1.mono (by simp; omega)))
      have HC1 := Aside0.mk (Kd.F_mono hC1 (fun k hk => (by simp at hk; omega : (ok k ∧ k < w.heap.size) ∨ w.heap.size + 2 ≤ k)))
      clear hz hb1 hC1 hB2
      go_wp2_with fail
      refine bodyPost_ret (results_cell_row rfl _ _ (w.heap.size + 1) 24 _ (0, 0) _ rfl (blk_put4 HZ.out _ _ _ _) Try.underlying24 rfl (by kernel_rfl)) rfl ⟨_, _, rfl, hc1, ?_, ?_⟩
      · refine Kd.F_mono (Kd.F_far (p := ⟨w.heap.size + 1, 3, none⟩) (Kd.F_far (p := ⟨w.heap.size + 1, 2, none⟩) (Kd.F_far (p := ⟨w.heap.size + 1, 1, none⟩) (Kd.F_far (p := ⟨w.heap.size + 1, 0, none⟩) HC1.out ?_ _) ?_ _) ?_ _) ?_ _) (fun k hk => hk.imp (fun h => h.1) (fun h => by omega))
        all_goals
          intro k hk
          simp only
          omega
      · exact (((HB1.out.setCell (by simp) _).setCell (by simp) _).setCell (by simp) _).setCell (by simp) _
    · have hr : decayT x = x := by simp only [decayT, if_neg h, if_neg h9]
      rw [hr]
      have e2 : (x.f0 == 9) = false := beq_eq_false_iff_ne.mpr h9
      have hB : Below w.heap.size w ((w.alloc (.cells #[.int .i64 x.f0, .int .i64 x.f1, .string x.f2, .slice A x.f3.length c] 24)).alloc (.cells #[.int .i64 x.f0, .int .i64 x.f1, .string x.f2, .slice A x.f3.length c] 24)) := ((Below.refl _ _).alloc (Nat.le_refl _) _).alloc (by simp) _
      have HBB := Aside0.mk hB
      clear hB hr h9
      by_cases h6 : x.f0 = 6
      · have e1 : (x.f0 == 6) = true := beq_iff_eq.mpr h6
        have h0 : x.f3.length = 0 := by have : ¬ 0 < x.f3.length := fun hh => h ⟨h6, hh⟩; omega
        have h0' : ¬ 0 < x.f3.length := by omega
        have h0c : decide ((0 : Int) < (x.f3.length : Int)) = false := decide_eq_false (by omega)
        have h0d : decide (0 < x.f3.length) = false := decide_eq_false (by omega)
        clear h h6 h0
        go_enter Try.func21, Try.ntmps21
        go_wp2
        refine bodyPost_ret (v := .agg #[.int .i64 x.f0, .int .i64 x.f1, .string x.f2, .slice A x.f3.length c]) (by simp [results, Try.results21, go_sem]) rfl ⟨_, _, rfl, HL.out, Kd.F_mono (Kd.F_below HC.out HBB.out) (fun k hk => .inl hk), HBB.out⟩
      · have e1 : (x.f0 == 6) = false := beq_eq_false_iff_ne.mpr h6
        clear h h6
        go_enter Try.func21, Try.ntmps21
        go_wp2
        refine bodyPost_ret (v := .agg #[.int .i64 x.f0, .int .i64 x.f1, .string x.f2, .slice A x.f3.length c]) (by simp [results, Try.results21, go_sem]) rfl ⟨_, _, rfl, HL.out, Kd.F_mono (Kd.F_below HC.out HBB.out) (fun k hk => .inl hk), HBB.out⟩

theorem width_calls (a b : Int) (s : ByteArray) (A : Option Addr) (n c : Nat) (w : World) :
    Calls Try.prog 18 #[.agg #[.int .i64 a, .int .i64 b, .string s, .slice A n c]] w fun e w' => e = .returned (.int .i64 (widthT a)) ∧ Below w.heap.size w w' := by
  by_cases h0 : a < 0
  · have e0 : widthT a = 0 := by unfold widthT; repeat (first | rw [if_neg (by omega)])
    rw [e0]
    go_enter Try.func18, Try.ntmps18
    go_wp2
    go_ret
    exact ⟨rfl, ((Below.refl _ _).alloc (Nat.le_refl _) _).alloc (by simp) _⟩
  by_cases h6 : 6 ≤ a
  · have e0 : widthT a = 0 := by unfold widthT; repeat (first | rw [if_neg (by omega)])
    rw [e0]
    go_enter Try.func18, Try.ntmps18
    go_wp2
    go_ret
    exact ⟨rfl, ((Below.refl _ _).alloc (Nat.le_refl _) _).alloc (by simp) _⟩
  have : a = 0 ∨ a = 1 ∨ a = 2 ∨ a = 3 ∨ a = 4 ∨ a = 5 := by omega
  rcases this with rfl | rfl | rfl | rfl | rfl | rfl
  all_goals
    go_enter Try.func18, Try.ntmps18
    go_wp2
    go_ret
    exact ⟨rfl, ((Below.refl _ _).alloc (Nat.le_refl _) _).alloc (by simp) _⟩
end Go.Proofs.Ytmmgdifjiapbmaa.G
