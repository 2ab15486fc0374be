/- ctype.may is mayT, one step. The arguments read as types. -/
import Derived.Test.YtmmgdifjiapbmaaHh
set_option linter.unusedVariables false
set_option linter.unusedSimpArgs false
namespace Go.Proofs.Ytmmgdifjiapbmaa.G
open Go.RowKit Go.Proofs.Ytmmgdifjiapbmaa.B Go.Proofs.YtmmgdifjiapbmaaW.PrintWords Go.Proofs.YtmmgdifjiapbmaaW.PrintLast Go.Proofs.YtmmgdifjiapbmaaW.PrintMore



def mayHere (x : S24) : Bool :=
  if x.f0 = 1 ∨ x.f0 = 2 ∨ x.f0 = 3 ∨ x.f0 = 4 then decide (x.f1 = 0) && x.f2.toList.isEmpty && decide (x.f3.length = 0)
  else if x.f0 = 5 then decide (x.f1 = 0) && x.f2.toList.isEmpty && decide (x.f3.length = 1)
  else if x.f0 = 6 then x.f2.toList.isEmpty && decide (1 ≤ x.f1) && decide (x.f1 ≤ 4096) && decide (x.f3.length = 1) && !decide ((rd_T24 x.f3 0).f0 = 1) && !decide ((rd_T24 x.f3 0).f0 = 9)
  else if x.f0 = 7 ∨ x.f0 = 8 then decide (x.f1 = 0) && !x.f2.toList.isEmpty && decide (x.f2.size ≤ 24) && decide (x.f3.length = 0)
  else if x.f0 = 9 then decide (x.f1 = 0) && x.f2.toList.isEmpty && decide (1 ≤ x.f3.length) && decide (x.f3.length ≤ 7) && !decide ((rd_T24 x.f3 0).f0 = 6) && !decide ((rd_T24 x.f3 0).f0 = 9) && decide (∀ k, k < (x.f3.drop 1).length → isSc (rd_T24 (x.f3.drop 1) k).f0 = true)
  else false
def mayT : Nat → S24 → Bool
  | 0, _ => false
  | n + 1, x => decide (∀ k, k < x.f3.length → mayT n (rd_T24 x.f3 k) = true) && mayHere x
def MayOf (n : Nat) : Prop := ∀ (x : S24) (A : Option Addr) (c : Nat) (w : World), Kd.C k24 w A x.f3.length x.f3 → x.f3.length ≤ c →
    Calls Try.prog 29 #[.agg #[.int .i64 x.f0, .int .i64 x.f1, .string x.f2, .slice A x.f3.length c], .int .i64 n] w fun e w' => e = .returned (.bool (mayT n x)) ∧ Below w.heap.size w w'
theorem may1_calls (n : Nat) (ih : MayOf n) (x : S24) (A : Option Addr) (c : Nat) (b : Nat) (w : World) (hC : Kd.C k24 w A x.f3.length x.f3) (hl : x.f3.length ≤ c) (hb : w.heap[b]? = some (.cells #[.int .i64 ((n : Int) + 1)] 3 (0, 0))) (hn : n ≤ 1000) :
    Calls Try.prog 31 #[.agg #[.int .i64 x.f0, .int .i64 x.f1, .string x.f2, .slice A x.f3.length c], .pointer (some ⟨b, 0, none⟩)] w fun e w' => e = .returned (.bool (mayT n x)) ∧ Below w.heap.size w w' := by
  have HC := Aside0.mk hC
  have HL := Aside0.mk hl
  have IH := Aside0.mk ih
  have hb1 := cell1 hb
  have hlt := blk_lt hb
  clear hC hl ih hb
  go_enter Try.func31, Try.ntmps31
  go_wp2_with fail
  have hB : Below w.heap.size w (w.alloc (.cells #[.int .i64 x.f0, .int .i64 x.f1, .string x.f2, .slice A x.f3.length c] 24)) := (Below.refl _ _).alloc (Nat.le_refl _) _
  refine (IH.out x _ _ _ (Kd.C_below HC.out hB) HL.out).mono ?_
  rintro e w1 ⟨rfl, hb2⟩
  have HB := Aside0.mk (below_step hB hb2)
  clear hB hb2
  go_wp2_with fail
  go_ret
  exact ⟨rfl, HB.out⟩
set_option maxHeartbeats 8000000 in
theorem may_step (n : Nat) (ih : MayOf n) (hn : n ≤ 1000) : MayOf (n + 1) := by
  intro x A c w hC hl
  have HC := Aside0.mk hC
  have HL := Aside0.mk hl
  have IH := Aside0.mk ih
  have hm := hC.2.1
  clear hC hl ih
  rw [show (((n + 1 : Nat) : Int)) = (n : Int) + 1 by omega]
  have e0 : (((n : Int) + 1) == 0) = false := beq_eq_false_iff_ne.mpr (by omega)
  go_enter Try.func29, Try.ntmps29
  go_wp2_with fail
  have HBX := Aside0.mk (blk_alloc (blk_new w (Obj.cells #[.int .i64 x.f0, .int .i64 x.f1, .string x.f2, .slice A x.f3.length c] 24)) (Obj.cells #[.int .i64 ((n : Int) + 1)] 3))
  have HBL := Aside0.mk (blk_at_ (W := w.alloc (Obj.cells #[.int .i64 x.f0, .int .i64 x.f1, .string x.f2, .slice A x.f3.length c] 24)) (n := w.heap.size + 1) (Obj.cells #[.int .i64 ((n : Int) + 1)] 3) (by simp))
  have HB := Aside0.mk (show Below w.heap.size w ((w.alloc (Obj.cells #[.int .i64 x.f0, .int .i64 x.f1, .string x.f2, .slice A x.f3.length c] 24)).alloc (Obj.cells #[.int .i64 ((n : Int) + 1)] 3)) from ((Below.refl _ _).alloc (Nat.le_refl _) _).alloc (by simp) _)
  generalize (w.alloc (Obj.cells #[.int .i64 x.f0, .int .i64 x.f1, .string x.f2, .slice A x.f3.length c] 24)).alloc (Obj.cells #[.int .i64 ((n : Int) + 1)] 3) = W at HBX HBL HB ⊢
  refine (all_calls 31 _ x.f3 A c w W (fun k w1 => Below W.heap.size W w1) (fun k => mayT n (rd_T24 x.f3 k)) (fun _ _ => rfl) (Below.refl _ _) HC.out ?_ ?_ ?_).mono ?_
  · intro k w1 hb b hlt
    exact (hb.block b (Nat.lt_of_lt_of_le hlt HB.out.size)).trans (HB.out.block b hlt)
  · intro k w1 w2 hb hb2
    exact below_step hb hb2
  · intro k w1 A3 c3 hk hb hr hl3
    refine (may1_calls n IH.out (rd_T24 x.f3 k) A3 c3 _ w1 (Kd.C_below hr (below_step HB.out hb)) hl3 (blk_below HBL.out hb) hn).mono ?_
    rintro e w2 ⟨rfl, hb2⟩
    exact ⟨rfl, below_step hb hb2⟩
  rintro e w2 ⟨rfl, _, hb2⟩
  have g3 := blk_below HBX.out hb2
  have c3_ := cell4 g3
  have GB := Aside0.mk (below_step HB.out hb2)
  clear HBX HBL HB IH hb2 g3
  cases hall : decide (∀ k, k < x.f3.length → mayT n (rd_T24 x.f3 k) = true) with
  | false =>
    have HALL := Aside0.mk hall
    clear hall
    go_wp2_with fail
    go_ret
    exact ⟨ret_bool (by rw [mayT, HALL.out]; rfl), GB.out⟩
  | true =>
    have HALL := Aside0.mk (show mayT (n + 1) x = mayHere x by rw [mayT, hall]; rfl)
    clear hall
    by_cases hk : x.f0 = 1
    case pos =>
      have k1 : (x.f0 == 1) = true := beq_iff_eq.mpr hk; have k2 : (x.f0 == 2) = false := beq_eq_false_iff_ne.mpr (by omega); have k3 : (x.f0 == 3) = false := beq_eq_false_iff_ne.mpr (by omega); have k4 : (x.f0 == 4) = false := beq_eq_false_iff_ne.mpr (by omega); have k5 : (x.f0 == 5) = false := beq_eq_false_iff_ne.mpr (by omega); have k6 : (x.f0 == 6) = false := beq_eq_false_iff_ne.mpr (by omega); have k7 : (x.f0 == 7) = false := beq_eq_false_iff_ne.mpr (by omega); have k8 : (x.f0 == 8) = false := beq_eq_false_iff_ne.mpr (by omega); have k9 : (x.f0 == 9) = false := beq_eq_false_iff_ne.mpr (by omega); 
      by_cases hN : x.f1 = 0
      case neg =>
        have HH := Aside0.mk (show mayHere x = false by unfold mayHere; simp [hk, hN])
        have fN0 : (x.f1 == 0) = false := beq_eq_false_iff_ne.mpr hN
        clear hk hN
        go_wp2_with fail
        go_ret
        exact ⟨ret_bool (by rw [HALL.out, HH.out]), GB.out⟩
      by_cases hS : x.f2.toList = []
      case neg =>
        have HH := Aside0.mk (show mayHere x = false by unfold mayHere; simp [hk, hN, hS])
        have fN0 : (x.f1 == 0) = true := beq_iff_eq.mpr hN
        have fS0 : x.f2.toList.isEmpty = false := by simp [hS]
        clear hk hN hS
        go_wp2_with fail
        go_ret
        exact ⟨ret_bool (by rw [HALL.out, HH.out]), GB.out⟩
      by_cases hL0 : x.f3.length = 0
      case neg =>
        have HH := Aside0.mk (show mayHere x = false by unfold mayHere; simp [hk, hN, hS, hL0])
        have fN0 : (x.f1 == 0) = true := beq_iff_eq.mpr hN
        have fS0 : x.f2.toList.isEmpty = true := by simp [hS]
        have fL00 : (x.f3.length == 0) = false := beq_eq_false_iff_ne.mpr hL0
        have fL01 : ((x.f3.length : Int) == 0) = false := beq_eq_false_iff_ne.mpr (by omega)
        clear hk hN hS hL0
        go_wp2_with fail
        go_ret
        exact ⟨ret_bool (by rw [HALL.out, HH.out]), GB.out⟩
      have HH := Aside0.mk (show mayHere x = true by unfold mayHere; simp [hk, hN, hS, hL0])
      have fN0 : (x.f1 == 0) = true := beq_iff_eq.mpr hN
      have fS0 : x.f2.toList.isEmpty = true := by simp [hS]
      have fL00 : (x.f3.length == 0) = true := beq_iff_eq.mpr hL0
      have fL01 : ((x.f3.length : Int) == 0) = true := beq_iff_eq.mpr (by omega)
      clear hk hN hS hL0
      go_wp2_with fail
      go_ret
      exact ⟨ret_bool (by rw [HALL.out, HH.out]), GB.out⟩
    rename _ => hk1
    by_cases hk : x.f0 = 2
    case pos =>
      have k1 : (x.f0 == 1) = false := beq_eq_false_iff_ne.mpr (by omega); have k2 : (x.f0 == 2) = true := beq_iff_eq.mpr hk; have k3 : (x.f0 == 3) = false := beq_eq_false_iff_ne.mpr (by omega); have k4 : (x.f0 == 4) = false := beq_eq_false_iff_ne.mpr (by omega); have k5 : (x.f0 == 5) = false := beq_eq_false_iff_ne.mpr (by omega); have k6 : (x.f0 == 6) = false := beq_eq_false_iff_ne.mpr (by omega); have k7 : (x.f0 == 7) = false := beq_eq_false_iff_ne.mpr (by omega); have k8 : (x.f0 == 8) = false := beq_eq_false_iff_ne.mpr (by omega); have k9 : (x.f0 == 9) = false := beq_eq_false_iff_ne.mpr (by omega); 
      by_cases hN : x.f1 = 0
      case neg =>
        have HH := Aside0.mk (show mayHere x = false by unfold mayHere; simp [hk, hN])
        have fN0 : (x.f1 == 0) = false := beq_eq_false_iff_ne.mpr hN
        clear hk hN
        go_wp2_with fail
        go_ret
        exact ⟨ret_bool (by rw [HALL.out, HH.out]), GB.out⟩
      by_cases hS : x.f2.toList = []
      case neg =>
        have HH := Aside0.mk (show mayHere x = false by unfold mayHere; simp [hk, hN, hS])
        have fN0 : (x.f1 == 0) = true := beq_iff_eq.mpr hN
        have fS0 : x.f2.toList.isEmpty = false := by simp [hS]
        clear hk hN hS
        go_wp2_with fail
        go_ret
        exact ⟨ret_bool (by rw [HALL.out, HH.out]), GB.out⟩
      by_cases hL0 : x.f3.length = 0
      case neg =>
        have HH := Aside0.mk (show mayHere x = false by unfold mayHere; simp [hk, hN, hS, hL0])
        have fN0 : (x.f1 == 0) = true := beq_iff_eq.mpr hN
        have fS0 : x.f2.toList.isEmpty = true := by simp [hS]
        have fL00 : (x.f3.length == 0) = false := beq_eq_false_iff_ne.mpr hL0
        have fL01 : ((x.f3.length : Int) == 0) = false := beq_eq_false_iff_ne.mpr (by omega)
        clear hk hN hS hL0
        go_wp2_with fail
        go_ret
        exact ⟨ret_bool (by rw [HALL.out, HH.out]), GB.out⟩
      have HH := Aside0.mk (show mayHere x = true by unfold mayHere; simp [hk, hN, hS, hL0])
      have fN0 : (x.f1 == 0) = true := beq_iff_eq.mpr hN
      have fS0 : x.f2.toList.isEmpty = true := by simp [hS]
      have fL00 : (x.f3.length == 0) = true := beq_iff_eq.mpr hL0
      have fL01 : ((x.f3.length : Int) == 0) = true := beq_iff_eq.mpr (by omega)
      clear hk hN hS hL0
      go_wp2_with fail
      go_ret
      exact ⟨ret_bool (by rw [HALL.out, HH.out]), GB.out⟩
    rename _ => hk2
    by_cases hk : x.f0 = 3
    case pos =>
      have k1 : (x.f0 == 1) = false := beq_eq_false_iff_ne.mpr (by omega); have k2 : (x.f0 == 2) = false := beq_eq_false_iff_ne.mpr (by omega); have k3 : (x.f0 == 3) = true := beq_iff_eq.mpr hk; have k4 : (x.f0 == 4) = false := beq_eq_false_iff_ne.mpr (by omega); have k5 : (x.f0 == 5) = false := beq_eq_false_iff_ne.mpr (by omega); have k6 : (x.f0 == 6) = false := beq_eq_false_iff_ne.mpr (by omega); have k7 : (x.f0 == 7) = false := beq_eq_false_iff_ne.mpr (by omega); have k8 : (x.f0 == 8) = false := beq_eq_false_iff_ne.mpr (by omega); have k9 : (x.f0 == 9) = false := beq_eq_false_iff_ne.mpr (by omega); 
      by_cases hN : x.f1 = 0
      case neg =>
        have HH := Aside0.mk (show mayHere x = false by unfold mayHere; simp [hk, hN])
        have fN0 : (x.f1 == 0) = false := beq_eq_false_iff_ne.mpr hN
        clear hk hN
        go_wp2_with fail
        go_ret
        exact ⟨ret_bool (by rw [HALL.out, HH.out]), GB.out⟩
      by_cases hS : x.f2.toList = []
      case neg =>
        have HH := Aside0.mk (show mayHere x = false by unfold mayHere; simp [hk, hN, hS])
        have fN0 : (x.f1 == 0) = true := beq_iff_eq.mpr hN
        have fS0 : x.f2.toList.isEmpty = false := by simp [hS]
        clear hk hN hS
        go_wp2_with fail
        go_ret
        exact ⟨ret_bool (by rw [HALL.out, HH.out]), GB.out⟩
      by_cases hL0 : x.f3.length = 0
      case neg =>
        have HH := Aside0.mk (show mayHere x = false by unfold mayHere; simp [hk, hN, hS, hL0])
        have fN0 : (x.f1 == 0) = true := beq_iff_eq.mpr hN
        have fS0 : x.f2.toList.isEmpty = true := by simp [hS]
        have fL00 : (x.f3.length == 0) = false := beq_eq_false_iff_ne.mpr hL0
        have fL01 : ((x.f3.length : Int) == 0) = false := beq_eq_false_iff_ne.mpr (by omega)
        clear hk hN hS hL0
        go_wp2_with fail
        go_ret
        exact ⟨ret_bool (by rw [HALL.out, HH.out]), GB.out⟩
      have HH := Aside0.mk (show mayHere x = true by unfold mayHere; simp [hk, hN, hS, hL0])
      have fN0 : (x.f1 == 0) = true := beq_iff_eq.mpr hN
      have fS0 : x.f2.toList.isEmpty = true := by simp [hS]
      have fL00 : (x.f3.length == 0) = true := beq_iff_eq.mpr hL0
      have fL01 : ((x.f3.length : Int) == 0) = true := beq_iff_eq.mpr (by omega)
      clear hk hN hS hL0
      go_wp2_with fail
      go_ret
      exact ⟨ret_bool (by rw [HALL.out, HH.out]), GB.out⟩
    rename _ => hk3
    by_cases hk : x.f0 = 4
    case pos =>
      have k1 : (x.f0 == 1) = false := beq_eq_false_iff_ne.mpr (by omega); have k2 : (x.f0 == 2) = false := beq_eq_false_iff_ne.mpr (by omega); have k3 : (x.f0 == 3) = false := beq_eq_false_iff_ne.mpr (by omega); have k4 : (x.f0 == 4) = true := beq_iff_eq.mpr hk; have k5 : (x.f0 == 5) = false := beq_eq_false_iff_ne.mpr (by omega); have k6 : (x.f0 == 6) = false := beq_eq_false_iff_ne.mpr (by omega); have k7 : (x.f0 == 7) = false := beq_eq_false_iff_ne.mpr (by omega); have k8 : (x.f0 == 8) = false := beq_eq_false_iff_ne.mpr (by omega); have k9 : (x.f0 == 9) = false := beq_eq_false_iff_ne.mpr (by omega); 
      by_cases hN : x.f1 = 0
      case neg =>
        have HH := Aside0.mk (show mayHere x = false by unfold mayHere; simp [hk, hN])
        have fN0 : (x.f1 == 0) = false := beq_eq_false_iff_ne.mpr hN
        clear hk hN
        go_wp2_with fail
        go_ret
        exact ⟨ret_bool (by rw [HALL.out, HH.out]), GB.out⟩
      by_cases hS : x.f2.toList = []
      case neg =>
        have HH := Aside0.mk (show mayHere x = false by unfold mayHere; simp [hk, hN, hS])
        have fN0 : (x.f1 == 0) = true := beq_iff_eq.mpr hN
        have fS0 : x.f2.toList.isEmpty = false := by simp [hS]
        clear hk hN hS
        go_wp2_with fail
        go_ret
        exact ⟨ret_bool (by rw [HALL.out, HH.out]), GB.out⟩
      by_cases hL0 : x.f3.length = 0
      case neg =>
        have HH := Aside0.mk (show mayHere x = false by unfold mayHere; simp [hk, hN, hS, hL0])
        have fN0 : (x.f1 == 0) = true := beq_iff_eq.mpr hN
        have fS0 : x.f2.toList.isEmpty = true := by simp [hS]
        have fL00 : (x.f3.length == 0) = false := beq_eq_false_iff_ne.mpr hL0
        have fL01 : ((x.f3.length : Int) == 0) = false := beq_eq_false_iff_ne.mpr (by omega)
        clear hk hN hS hL0
        go_wp2_with fail
        go_ret
        exact ⟨ret_bool (by rw [HALL.out, HH.out]), GB.out⟩
      have HH := Aside0.mk (show mayHere x = true by unfold mayHere; simp [hk, hN, hS, hL0])
      have fN0 : (x.f1 == 0) = true := beq_iff_eq.mpr hN
      have fS0 : x.f2.toList.isEmpty = true := by simp [hS]
      have fL00 : (x.f3.length == 0) = true := beq_iff_eq.mpr hL0
      have fL01 : ((x.f3.length : Int) == 0) = true := beq_iff_eq.mpr (by omega)
      clear hk hN hS hL0
      go_wp2_with fail
      go_ret
      exact ⟨ret_bool (by rw [HALL.out, HH.out]), GB.out⟩
    rename _ => hk4
    by_cases hk : x.f0 = 5
    case pos =>
      have k1 : (x.f0 == 1) = false := beq_eq_false_iff_ne.mpr (by omega); have k2 : (x.f0 == 2) = false := beq_eq_false_iff_ne.mpr (by omega); have k3 : (x.f0 == 3) = false := beq_eq_false_iff_ne.mpr (by omega); have k4 : (x.f0 == 4) = false := beq_eq_false_iff_ne.mpr (by omega); have k5 : (x.f0 == 5) = true := beq_iff_eq.mpr hk; have k6 : (x.f0 == 6) = false := beq_eq_false_iff_ne.mpr (by omega); have k7 : (x.f0 == 7) = false := beq_eq_false_iff_ne.mpr (by omega); have k8 : (x.f0 == 8) = false := beq_eq_false_iff_ne.mpr (by omega); have k9 : (x.f0 == 9) = false := beq_eq_false_iff_ne.mpr (by omega); 
      by_cases hN : x.f1 = 0
      case neg =>
        have HH := Aside0.mk (show mayHere x = false by unfold mayHere; simp [hk, hN])
        have fN0 : (x.f1 == 0) = false := beq_eq_false_iff_ne.mpr hN
        clear hk hN
        go_wp2_with fail
        go_ret
        exact ⟨ret_bool (by rw [HALL.out, HH.out]), GB.out⟩
      by_cases hS : x.f2.toList = []
      case neg =>
        have HH := Aside0.mk (show mayHere x = false by unfold mayHere; simp [hk, hN, hS])
        have fN0 : (x.f1 == 0) = true := beq_iff_eq.mpr hN
        have fS0 : x.f2.toList.isEmpty = false := by simp [hS]
        clear hk hN hS
        go_wp2_with fail
        go_ret
        exact ⟨ret_bool (by rw [HALL.out, HH.out]), GB.out⟩
      by_cases hL1 : x.f3.length = 1
      case neg =>
        have HH := Aside0.mk (show mayHere x = false by unfold mayHere; simp [hk, hN, hS, hL1])
        have fN0 : (x.f1 == 0) = true := beq_iff_eq.mpr hN
        have fS0 : x.f2.toList.isEmpty = true := by simp [hS]
        have fL10 : ((x.f3.length : Int) == 1) = false := beq_eq_false_iff_ne.mpr (by omega)
        clear hk hN hS hL1
        go_wp2_with fail
        go_ret
        exact ⟨ret_bool (by rw [HALL.out, HH.out]), GB.out⟩
      have HH := Aside0.mk (show mayHere x = true by unfold mayHere; simp [hk, hN, hS, hL1])
      have fN0 : (x.f1 == 0) = true := beq_iff_eq.mpr hN
      have fS0 : x.f2.toList.isEmpty = true := by simp [hS]
      have fL10 : ((x.f3.length : Int) == 1) = true := beq_iff_eq.mpr (by omega)
      have fL11 : (0 : Int) < (x.f3.length : Int) := by omega
      clear hk hN hS hL1
      go_wp2_with fail
      go_ret
      exact ⟨ret_bool (by rw [HALL.out, HH.out]), GB.out⟩
    rename _ => hk5
    by_cases hk : x.f0 = 6
    case pos =>
      have k1 : (x.f0 == 1) = false := beq_eq_false_iff_ne.mpr (by omega); have k2 : (x.f0 == 2) = false := beq_eq_false_iff_ne.mpr (by omega); have k3 : (x.f0 == 3) = false := beq_eq_false_iff_ne.mpr (by omega); have k4 : (x.f0 == 4) = false := beq_eq_false_iff_ne.mpr (by omega); have k5 : (x.f0 == 5) = false := beq_eq_false_iff_ne.mpr (by omega); have k6 : (x.f0 == 6) = true := beq_iff_eq.mpr hk; have k7 : (x.f0 == 7) = false := beq_eq_false_iff_ne.mpr (by omega); have k8 : (x.f0 == 8) = false := beq_eq_false_iff_ne.mpr (by omega); have k9 : (x.f0 == 9) = false := beq_eq_false_iff_ne.mpr (by omega); 
      by_cases hN : x.f1 = 0
      case neg =>
        by_cases hS : x.f2.toList = []
        case neg =>
          have HH := Aside0.mk (show mayHere x = false by unfold mayHere; simp [hk, hN, hS])
          have fN0 : (x.f1 == 0) = false := beq_eq_false_iff_ne.mpr hN
          have fS0 : x.f2.toList.isEmpty = false := by simp [hS]
          clear hk hN hS
          go_wp2_with fail
          go_ret
          exact ⟨ret_bool (by rw [HALL.out, HH.out]), GB.out⟩
        by_cases hG1 : 1 ≤ x.f1
        case neg =>
          have HH := Aside0.mk (show mayHere x = false by unfold mayHere; simp [hk, hN, hS, hG1])
          have fN0 : (x.f1 == 0) = false := beq_eq_false_iff_ne.mpr hN
          have fS0 : x.f2.toList.isEmpty = true := by simp [hS]
          have fG10 : ¬ 1 ≤ x.f1 := hG1
          clear hk hN hS hG1
          go_wp2_with fail
          go_ret
          exact ⟨ret_bool (by rw [HALL.out, HH.out]), GB.out⟩
        by_cases hG4 : x.f1 ≤ 4096
        case neg =>
          have HH := Aside0.mk (show mayHere x = false by unfold mayHere; simp [hk, hN, hS, hG1, hG4])
          have fN0 : (x.f1 == 0) = false := beq_eq_false_iff_ne.mpr hN
          have fS0 : x.f2.toList.isEmpty = true := by simp [hS]
          have fG10 : 1 ≤ x.f1 := hG1
          have fG40 : ¬ x.f1 ≤ 4096 := hG4
          clear hk hN hS hG1 hG4
          go_wp2_with fail
          go_ret
          exact ⟨ret_bool (by rw [HALL.out, HH.out]), GB.out⟩
        by_cases hL1 : x.f3.length = 1
        case neg =>
          have HH := Aside0.mk (show mayHere x = false by unfold mayHere; simp [hk, hN, hS, hG1, hG4, hL1])
          have fN0 : (x.f1 == 0) = false := beq_eq_false_iff_ne.mpr hN
          have fS0 : x.f2.toList.isEmpty = true := by simp [hS]
          have fG10 : 1 ≤ x.f1 := hG1
          have fG40 : x.f1 ≤ 4096 := hG4
          have fL10 : ((x.f3.length : Int) == 1) = false := beq_eq_false_iff_ne.mpr (by omega)
          clear hk hN hS hG1 hG4 hL1
          go_wp2_with fail
          go_ret
          exact ⟨ret_bool (by rw [HALL.out, HH.out]), GB.out⟩
        by_cases hK1 : (rd_T24 x.f3 0).f0 = 1
        case pos =>
          have HH := Aside0.mk (show mayHere x = false by unfold mayHere; simp [hk, hN, hS, hG1, hG4, hL1, hK1])
          obtain ⟨ad, A3, c3, e, q0, q1, q2, q3, ql, qi⟩ := at_T24 HC.out 0 (by omega) (by omega)
          cases e
          simp only [show (0 : Int).toNat * 4 = 0 from rfl, Addr.add_zero'] at q0 q1 q2 q3
          replace q0 := Kd.cell_heap GB.out.block q0
          clear q1 q2 q3 ql qi
          have fN0 : (x.f1 == 0) = false := beq_eq_false_iff_ne.mpr hN
          have fS0 : x.f2.toList.isEmpty = true := by simp [hS]
          have fG10 : 1 ≤ x.f1 := hG1
          have fG40 : x.f1 ≤ 4096 := hG4
          have fL10 : ((x.f3.length : Int) == 1) = true := beq_iff_eq.mpr (by omega)
          have fL11 : (0 : Int) < (x.f3.length : Int) := by omega
          have fK10 : ((rd_T24 x.f3 0).f0 != 1) = false := bne_eq_false_iff_eq.mpr hK1
          have fK11 : ((rd_T24 x.f3 0).f0 == 1) = true := beq_iff_eq.mpr hK1
          clear hk hN hS hG1 hG4 hL1 hK1
          go_wp2_with fail
          go_ret
          exact ⟨ret_bool (by rw [HALL.out, HH.out]), GB.out⟩
        by_cases hK9 : (rd_T24 x.f3 0).f0 = 9
        case pos =>
          have HH := Aside0.mk (show mayHere x = false by unfold mayHere; simp [hk, hN, hS, hG1, hG4, hL1, hK1, hK9])
          obtain ⟨ad, A3, c3, e, q0, q1, q2, q3, ql, qi⟩ := at_T24 HC.out 0 (by omega) (by omega)
          cases e
          simp only [show (0 : Int).toNat * 4 = 0 from rfl, Addr.add_zero'] at q0 q1 q2 q3
          replace q0 := Kd.cell_heap GB.out.block q0
          clear q1 q2 q3 ql qi
          have fN0 : (x.f1 == 0) = false := beq_eq_false_iff_ne.mpr hN
          have fS0 : x.f2.toList.isEmpty = true := by simp [hS]
          have fG10 : 1 ≤ x.f1 := hG1
          have fG40 : x.f1 ≤ 4096 := hG4
          have fL10 : ((x.f3.length : Int) == 1) = true := beq_iff_eq.mpr (by omega)
          have fL11 : (0 : Int) < (x.f3.length : Int) := by omega
          have fK10 : ((rd_T24 x.f3 0).f0 != 1) = true := bne_iff_ne.mpr hK1
          have fK11 : ((rd_T24 x.f3 0).f0 == 1) = false := beq_eq_false_iff_ne.mpr hK1
          have fK90 : ((rd_T24 x.f3 0).f0 != 9) = false := bne_eq_false_iff_eq.mpr hK9
          have fK91 : ((rd_T24 x.f3 0).f0 == 9) = true := beq_iff_eq.mpr hK9
          clear hk hN hS hG1 hG4 hL1 hK1 hK9
          go_wp2_with fail
          go_ret
          exact ⟨ret_bool (by rw [HALL.out, HH.out]), GB.out⟩
        have HH := Aside0.mk (show mayHere x = true by unfold mayHere; simp [hk, hN, hS, hG1, hG4, hL1, hK1, hK9])
        obtain ⟨ad, A3, c3, e, q0, q1, q2, q3, ql, qi⟩ := at_T24 HC.out 0 (by omega) (by omega)
        cases e
        simp only [show (0 : Int).toNat * 4 = 0 from rfl, Addr.add_zero'] at q0 q1 q2 q3
        replace q0 := Kd.cell_heap GB.out.block q0
        clear q1 q2 q3 ql qi
        have fN0 : (x.f1 == 0) = false := beq_eq_false_iff_ne.mpr hN
        have fS0 : x.f2.toList.isEmpty = true := by simp [hS]
        have fG10 : 1 ≤ x.f1 := hG1
        have fG40 : x.f1 ≤ 4096 := hG4
        have fL10 : ((x.f3.length : Int) == 1) = true := beq_iff_eq.mpr (by omega)
        have fL11 : (0 : Int) < (x.f3.length : Int) := by omega
        have fK10 : ((rd_T24 x.f3 0).f0 != 1) = true := bne_iff_ne.mpr hK1
        have fK11 : ((rd_T24 x.f3 0).f0 == 1) = false := beq_eq_false_iff_ne.mpr hK1
        have fK90 : ((rd_T24 x.f3 0).f0 != 9) = true := bne_iff_ne.mpr hK9
        have fK91 : ((rd_T24 x.f3 0).f0 == 9) = false := beq_eq_false_iff_ne.mpr hK9
        clear hk hN hS hG1 hG4 hL1 hK1 hK9
        go_wp2_with fail
        go_ret
        exact ⟨ret_bool (by rw [HALL.out, HH.out]), GB.out⟩
      by_cases hS : x.f2.toList = []
      case neg =>
        have HH := Aside0.mk (show mayHere x = false by unfold mayHere; simp [hk, hN, hS])
        have fN0 : (x.f1 == 0) = true := beq_iff_eq.mpr hN
        have fS0 : x.f2.toList.isEmpty = false := by simp [hS]
        clear hk hN hS
        go_wp2_with fail
        go_ret
        exact ⟨ret_bool (by rw [HALL.out, HH.out]), GB.out⟩
      have hG1 : ¬ 1 ≤ x.f1 := by omega
      have HH := Aside0.mk (show mayHere x = false by unfold mayHere; simp [hk, hN, hS, hG1])
      have fN0 : (x.f1 == 0) = true := beq_iff_eq.mpr hN
      have fS0 : x.f2.toList.isEmpty = true := by simp [hS]
      have fG10 : ¬ 1 ≤ x.f1 := hG1
      clear hk hN hS hG1
      go_wp2_with fail
      go_ret
      exact ⟨ret_bool (by rw [HALL.out, HH.out]), GB.out⟩
    rename _ => hk6
    by_cases hk : x.f0 = 7
    case pos =>
      have k1 : (x.f0 == 1) = false := beq_eq_false_iff_ne.mpr (by omega); have k2 : (x.f0 == 2) = false := beq_eq_false_iff_ne.mpr (by omega); have k3 : (x.f0 == 3) = false := beq_eq_false_iff_ne.mpr (by omega); have k4 : (x.f0 == 4) = false := beq_eq_false_iff_ne.mpr (by omega); have k5 : (x.f0 == 5) = false := beq_eq_false_iff_ne.mpr (by omega); have k6 : (x.f0 == 6) = false := beq_eq_false_iff_ne.mpr (by omega); have k7 : (x.f0 == 7) = true := beq_iff_eq.mpr hk; have k8 : (x.f0 == 8) = false := beq_eq_false_iff_ne.mpr (by omega); have k9 : (x.f0 == 9) = false := beq_eq_false_iff_ne.mpr (by omega); 
      by_cases hN : x.f1 = 0
      case neg =>
        have HH := Aside0.mk (show mayHere x = false by unfold mayHere; simp [hk, hN])
        have fN0 : (x.f1 == 0) = false := beq_eq_false_iff_ne.mpr hN
        clear hk hN
        go_wp2_with fail
        go_ret
        exact ⟨ret_bool (by rw [HALL.out, HH.out]), GB.out⟩
      by_cases hS : x.f2.toList = []
      case neg =>
        by_cases hZ : x.f2.size ≤ 24
        case neg =>
          have HH := Aside0.mk (show mayHere x = false by unfold mayHere; simp [hk, hN, hS, hZ])
          have fN0 : (x.f1 == 0) = true := beq_iff_eq.mpr hN
          have fS0 : x.f2.toList.isEmpty = false := by simp [hS]
          have fZ0 : ¬ x.f2.size ≤ 24 := hZ
          have fZ1 : ¬ (x.f2.size : Int) ≤ 24 := by omega
          clear hk hN hS hZ
          go_wp2_with fail
          go_ret
          exact ⟨ret_bool (by rw [HALL.out, HH.out]), GB.out⟩
        by_cases hL0 : x.f3.length = 0
        case neg =>
          have HH := Aside0.mk (show mayHere x = false by unfold mayHere; simp [hk, hN, hS, hZ, hL0])
          have fN0 : (x.f1 == 0) = true := beq_iff_eq.mpr hN
          have fS0 : x.f2.toList.isEmpty = false := by simp [hS]
          have fZ0 : x.f2.size ≤ 24 := hZ
          have fZ1 : (x.f2.size : Int) ≤ 24 := by omega
          have fL00 : (x.f3.length == 0) = false := beq_eq_false_iff_ne.mpr hL0
          have fL01 : ((x.f3.length : Int) == 0) = false := beq_eq_false_iff_ne.mpr (by omega)
          clear hk hN hS hZ hL0
          go_wp2_with fail
          go_ret
          exact ⟨ret_bool (by rw [HALL.out, HH.out]), GB.out⟩
        have HH := Aside0.mk (show mayHere x = true by unfold mayHere; simp [hk, hN, hS, hZ, hL0])
        have fN0 : (x.f1 == 0) = true := beq_iff_eq.mpr hN
        have fS0 : x.f2.toList.isEmpty = false := by simp [hS]
        have fZ0 : x.f2.size ≤ 24 := hZ
        have fZ1 : (x.f2.size : Int) ≤ 24 := by omega
        have fL00 : (x.f3.length == 0) = true := beq_iff_eq.mpr hL0
        have fL01 : ((x.f3.length : Int) == 0) = true := beq_iff_eq.mpr (by omega)
        clear hk hN hS hZ hL0
        go_wp2_with fail
        go_ret
        exact ⟨ret_bool (by rw [HALL.out, HH.out]), GB.out⟩
      have HH := Aside0.mk (show mayHere x = false by unfold mayHere; simp [hk, hN, hS])
      have fN0 : (x.f1 == 0) = true := beq_iff_eq.mpr hN
      have fS0 : x.f2.toList.isEmpty = true := by simp [hS]
      clear hk hN hS
      go_wp2_with fail
      go_ret
      exact ⟨ret_bool (by rw [HALL.out, HH.out]), GB.out⟩
    rename _ => hk7
    by_cases hk : x.f0 = 8
    case pos =>
      have k1 : (x.f0 == 1) = false := beq_eq_false_iff_ne.mpr (by omega); have k2 : (x.f0 == 2) = false := beq_eq_false_iff_ne.mpr (by omega); have k3 : (x.f0 == 3) = false := beq_eq_false_iff_ne.mpr (by omega); have k4 : (x.f0 == 4) = false := beq_eq_false_iff_ne.mpr (by omega); have k5 : (x.f0 == 5) = false := beq_eq_false_iff_ne.mpr (by omega); have k6 : (x.f0 == 6) = false := beq_eq_false_iff_ne.mpr (by omega); have k7 : (x.f0 == 7) = false := beq_eq_false_iff_ne.mpr (by omega); have k8 : (x.f0 == 8) = true := beq_iff_eq.mpr hk; have k9 : (x.f0 == 9) = false := beq_eq_false_iff_ne.mpr (by omega); 
      by_cases hN : x.f1 = 0
      case neg =>
        have HH := Aside0.mk (show mayHere x = false by unfold mayHere; simp [hk, hN])
        have fN0 : (x.f1 == 0) = false := beq_eq_false_iff_ne.mpr hN
        clear hk hN
        go_wp2_with fail
        go_ret
        exact ⟨ret_bool (by rw [HALL.out, HH.out]), GB.out⟩
      by_cases hS : x.f2.toList = []
      case neg =>
        by_cases hZ : x.f2.size ≤ 24
        case neg =>
          have HH := Aside0.mk (show mayHere x = false by unfold mayHere; simp [hk, hN, hS, hZ])
          have fN0 : (x.f1 == 0) = true := beq_iff_eq.mpr hN
          have fS0 : x.f2.toList.isEmpty = false := by simp [hS]
          have fZ0 : ¬ x.f2.size ≤ 24 := hZ
          have fZ1 : ¬ (x.f2.size : Int) ≤ 24 := by omega
          clear hk hN hS hZ
          go_wp2_with fail
          go_ret
          exact ⟨ret_bool (by rw [HALL.out, HH.out]), GB.out⟩
        by_cases hL0 : x.f3.length = 0
        case neg =>
          have HH := Aside0.mk (show mayHere x = false by unfold mayHere; simp [hk, hN, hS, hZ, hL0])
          have fN0 : (x.f1 == 0) = true := beq_iff_eq.mpr hN
          have fS0 : x.f2.toList.isEmpty = false := by simp [hS]
          have fZ0 : x.f2.size ≤ 24 := hZ
          have fZ1 : (x.f2.size : Int) ≤ 24 := by omega
          have fL00 : (x.f3.length == 0) = false := beq_eq_false_iff_ne.mpr hL0
          have fL01 : ((x.f3.length : Int) == 0) = false := beq_eq_false_iff_ne.mpr (by omega)
          clear hk hN hS hZ hL0
          go_wp2_with fail
          go_ret
          exact ⟨ret_bool (by rw [HALL.out, HH.out]), GB.out⟩
        have HH := Aside0.mk (show mayHere x = true by unfold mayHere; simp [hk, hN, hS, hZ, hL0])
        have fN0 : (x.f1 == 0) = true := beq_iff_eq.mpr hN
        have fS0 : x.f2.toList.isEmpty = false := by simp [hS]
        have fZ0 : x.f2.size ≤ 24 := hZ
        have fZ1 : (x.f2.size : Int) ≤ 24 := by omega
        have fL00 : (x.f3.length == 0) = true := beq_iff_eq.mpr hL0
        have fL01 : ((x.f3.length : Int) == 0) = true := beq_iff_eq.mpr (by omega)
        clear hk hN hS hZ hL0
        go_wp2_with fail
        go_ret
        exact ⟨ret_bool (by rw [HALL.out, HH.out]), GB.out⟩
      have HH := Aside0.mk (show mayHere x = false by unfold mayHere; simp [hk, hN, hS])
      have fN0 : (x.f1 == 0) = true := beq_iff_eq.mpr hN
      have fS0 : x.f2.toList.isEmpty = true := by simp [hS]
      clear hk hN hS
      go_wp2_with fail
      go_ret
      exact ⟨ret_bool (by rw [HALL.out, HH.out]), GB.out⟩
    rename _ => hk8
    by_cases hk : x.f0 = 9
    case pos =>
      have k1 : (x.f0 == 1) = false := beq_eq_false_iff_ne.mpr (by omega); have k2 : (x.f0 == 2) = false := beq_eq_false_iff_ne.mpr (by omega); have k3 : (x.f0 == 3) = false := beq_eq_false_iff_ne.mpr (by omega); have k4 : (x.f0 == 4) = false := beq_eq_false_iff_ne.mpr (by omega); have k5 : (x.f0 == 5) = false := beq_eq_false_iff_ne.mpr (by omega); have k6 : (x.f0 == 6) = false := beq_eq_false_iff_ne.mpr (by omega); have k7 : (x.f0 == 7) = false := beq_eq_false_iff_ne.mpr (by omega); have k8 : (x.f0 == 8) = false := beq_eq_false_iff_ne.mpr (by omega); have k9 : (x.f0 == 9) = true := beq_iff_eq.mpr hk; 
      by_cases hN : x.f1 = 0
      case neg =>
        have HH := Aside0.mk (show mayHere x = false by unfold mayHere; simp [hk, hN])
        have fN0 : (x.f1 == 0) = false := beq_eq_false_iff_ne.mpr hN
        clear hk hN
        go_wp2_with fail
        go_ret
        exact ⟨ret_bool (by rw [HALL.out, HH.out]), GB.out⟩
      by_cases hS : x.f2.toList = []
      case neg =>
        have HH := Aside0.mk (show mayHere x = false by unfold mayHere; simp [hk, hN, hS])
        have fN0 : (x.f1 == 0) = true := beq_iff_eq.mpr hN
        have fS0 : x.f2.toList.isEmpty = false := by simp [hS]
        clear hk hN hS
        go_wp2_with fail
        go_ret
        exact ⟨ret_bool (by rw [HALL.out, HH.out]), GB.out⟩
      by_cases hM1 : 1 ≤ x.f3.length
      case neg =>
        have HH := Aside0.mk (show mayHere x = false by unfold mayHere; simp [hk, hN, hS, hM1])
        have fN0 : (x.f1 == 0) = true := beq_iff_eq.mpr hN
        have fS0 : x.f2.toList.isEmpty = true := by simp [hS]
        have fM10 : ¬ 1 ≤ x.f3.length := hM1
        have fM11 : ¬ (1 : Int) ≤ (x.f3.length : Int) := by omega
        clear hk hN hS hM1
        go_wp2_with fail
        go_ret
        exact ⟨ret_bool (by rw [HALL.out, HH.out]), GB.out⟩
      by_cases hM7 : x.f3.length ≤ 7
      case neg =>
        have HH := Aside0.mk (show mayHere x = false by unfold mayHere; simp [hk, hN, hS, hM1, hM7])
        have fN0 : (x.f1 == 0) = true := beq_iff_eq.mpr hN
        have fS0 : x.f2.toList.isEmpty = true := by simp [hS]
        have fM10 : 1 ≤ x.f3.length := hM1
        have fM11 : (1 : Int) ≤ (x.f3.length : Int) := by omega
        have fM70 : ¬ x.f3.length ≤ 7 := hM7
        have fM71 : ¬ (x.f3.length : Int) ≤ 7 := by omega
        clear hk hN hS hM1 hM7
        go_wp2_with fail
        go_ret
        exact ⟨ret_bool (by rw [HALL.out, HH.out]), GB.out⟩
      by_cases hK6 : (rd_T24 x.f3 0).f0 = 6
      case pos =>
        have HH := Aside0.mk (show mayHere x = false by unfold mayHere; simp [hk, hN, hS, hM1, hM7, hK6])
        obtain ⟨ad, A3, c3, e, q0, q1, q2, q3, ql, qi⟩ := at_T24 HC.out 0 (by omega) (by omega)
        cases e
        simp only [show (0 : Int).toNat * 4 = 0 from rfl, Addr.add_zero'] at q0 q1 q2 q3
        replace q0 := Kd.cell_heap GB.out.block q0
        clear q1 q2 q3 ql qi
        have fN0 : (x.f1 == 0) = true := beq_iff_eq.mpr hN
        have fS0 : x.f2.toList.isEmpty = true := by simp [hS]
        have fM10 : 1 ≤ x.f3.length := hM1
        have fM11 : (1 : Int) ≤ (x.f3.length : Int) := by omega
        have fM70 : x.f3.length ≤ 7 := hM7
        have fM71 : (x.f3.length : Int) ≤ 7 := by omega
        have fK60 : ((rd_T24 x.f3 0).f0 != 6) = false := bne_eq_false_iff_eq.mpr hK6
        have fK61 : ((rd_T24 x.f3 0).f0 == 6) = true := beq_iff_eq.mpr hK6
        clear hk hN hS hM1 hM7 hK6
        go_wp2_with fail
        go_ret
        exact ⟨ret_bool (by rw [HALL.out, HH.out]), GB.out⟩
      by_cases hK9 : (rd_T24 x.f3 0).f0 = 9
      case pos =>
        have HH := Aside0.mk (show mayHere x = false by unfold mayHere; simp [hk, hN, hS, hM1, hM7, hK6, hK9])
        obtain ⟨ad, A3, c3, e, q0, q1, q2, q3, ql, qi⟩ := at_T24 HC.out 0 (by omega) (by omega)
        cases e
        simp only [show (0 : Int).toNat * 4 = 0 from rfl, Addr.add_zero'] at q0 q1 q2 q3
        replace q0 := Kd.cell_heap GB.out.block q0
        clear q1 q2 q3 ql qi
        have fN0 : (x.f1 == 0) = true := beq_iff_eq.mpr hN
        have fS0 : x.f2.toList.isEmpty = true := by simp [hS]
        have fM10 : 1 ≤ x.f3.length := hM1
        have fM11 : (1 : Int) ≤ (x.f3.length : Int) := by omega
        have fM70 : x.f3.length ≤ 7 := hM7
        have fM71 : (x.f3.length : Int) ≤ 7 := by omega
        have fK60 : ((rd_T24 x.f3 0).f0 != 6) = true := bne_iff_ne.mpr hK6
        have fK61 : ((rd_T24 x.f3 0).f0 == 6) = false := beq_eq_false_iff_ne.mpr hK6
        have fK90 : ((rd_T24 x.f3 0).f0 != 9) = false := bne_eq_false_iff_eq.mpr hK9
        have fK91 : ((rd_T24 x.f3 0).f0 == 9) = true := beq_iff_eq.mpr hK9
        clear hk hN hS hM1 hM7 hK6 hK9
        go_wp2_with fail
        go_ret
        exact ⟨ret_bool (by rw [HALL.out, HH.out]), GB.out⟩
      have HH := Aside0.mk (show mayHere x = decide (∀ k, k < (x.f3.drop 1).length → isSc (rd_T24 (x.f3.drop 1) k).f0 = true) by unfold mayHere; simp [hk, hN, hS, hM1, hM7, hK6, hK9])
      obtain ⟨ad, A3, c3, e, q0, q1, q2, q3, ql, qi⟩ := at_T24 HC.out 0 (by omega) (by omega)
      cases e
      simp only [show (0 : Int).toNat * 4 = 0 from rfl, Addr.add_zero'] at q0 q1 q2 q3
      replace q0 := Kd.cell_heap GB.out.block q0
      clear q1 q2 q3 ql qi
      have hCd := Kd.C_drop (m := 1) (c := c) (Kd.C_below HC.out GB.out) (by omega) HL.out
      have fN0 : (x.f1 == 0) = true := beq_iff_eq.mpr hN
      have fS0 : x.f2.toList.isEmpty = true := by simp [hS]
      have fM10 : 1 ≤ x.f3.length := hM1
      have fM11 : (1 : Int) ≤ (x.f3.length : Int) := by omega
      have fM70 : x.f3.length ≤ 7 := hM7
      have fM71 : (x.f3.length : Int) ≤ 7 := by omega
      have fK60 : ((rd_T24 x.f3 0).f0 != 6) = true := bne_iff_ne.mpr hK6
      have fK61 : ((rd_T24 x.f3 0).f0 == 6) = false := beq_eq_false_iff_ne.mpr hK6
      have fK90 : ((rd_T24 x.f3 0).f0 != 9) = true := bne_iff_ne.mpr hK9
      have fK91 : ((rd_T24 x.f3 0).f0 == 9) = false := beq_eq_false_iff_ne.mpr hK9
      clear hk hN hS hM1 hM7 hK6 hK9
      by_cases hc1 : c = 1
      case pos =>
        subst hc1
        rw [if_pos rfl] at hCd
        have HCD := Aside0.mk hCd
        clear hCd
        go_wp2_with fail
        rw [show x.f3.length - 1 = (x.f3.drop 1).length by simp]
        refine (all_calls 17 #[] (x.f3.drop 1) _ _ w2 w2 (fun k w1 => Below w2.heap.size w2 w1) (fun k => isSc (rd_T24 (x.f3.drop 1) k).f0) (fun _ _ => rfl) (Below.refl _ _) HCD.out (fun k w1 h => h.block) (fun k w1 w3 h h2 => below_step h h2) ?_).mono ?_
        · intro k w1 A3 c3 hk hb hr hl3
          refine (scalar_calls _ _ _ _ _ _ _).mono ?_
          rintro e w3 ⟨rfl, hb3⟩
          exact ⟨rfl, below_step hb hb3⟩
        rintro e w4 ⟨rfl, _, hb4⟩
        have GB4 := Aside0.mk (below_step GB.out hb4)
        clear hb4
        go_wp2_with fail
        go_ret
        exact ⟨ret_bool (by rw [HALL.out, HH.out]; simp), GB4.out⟩
      case neg =>
        rw [if_neg hc1] at hCd
        have HCD := Aside0.mk hCd
        clear hCd
        go_wp2_with fail
        rw [show x.f3.length - 1 = (x.f3.drop 1).length by simp]
        refine (all_calls 17 #[] (x.f3.drop 1) _ _ w2 w2 (fun k w1 => Below w2.heap.size w2 w1) (fun k => isSc (rd_T24 (x.f3.drop 1) k).f0) (fun _ _ => rfl) (Below.refl _ _) HCD.out (fun k w1 h => h.block) (fun k w1 w3 h h2 => below_step h h2) ?_).mono ?_
        · intro k w1 A3 c3 hk hb hr hl3
          refine (scalar_calls _ _ _ _ _ _ _).mono ?_
          rintro e w3 ⟨rfl, hb3⟩
          exact ⟨rfl, below_step hb hb3⟩
        rintro e w4 ⟨rfl, _, hb4⟩
        have GB4 := Aside0.mk (below_step GB.out hb4)
        clear hb4
        go_wp2_with fail
        go_ret
        exact ⟨ret_bool (by rw [HALL.out, HH.out]; simp), GB4.out⟩
    rename _ => hk9
    have hk : x.f0 ≠ 1 ∧ x.f0 ≠ 2 ∧ x.f0 ≠ 3 ∧ x.f0 ≠ 4 ∧ x.f0 ≠ 5 ∧ x.f0 ≠ 6 ∧ x.f0 ≠ 7 ∧ x.f0 ≠ 8 ∧ x.f0 ≠ 9 := by omega
    clear hk1 hk2 hk3 hk4 hk5 hk6 hk7 hk8 hk9
    have k1 : (x.f0 == 1) = false := beq_eq_false_iff_ne.mpr (by omega); have k2 : (x.f0 == 2) = false := beq_eq_false_iff_ne.mpr (by omega); have k3 : (x.f0 == 3) = false := beq_eq_false_iff_ne.mpr (by omega); have k4 : (x.f0 == 4) = false := beq_eq_false_iff_ne.mpr (by omega); have k5 : (x.f0 == 5) = false := beq_eq_false_iff_ne.mpr (by omega); have k6 : (x.f0 == 6) = false := beq_eq_false_iff_ne.mpr (by omega); have k7 : (x.f0 == 7) = false := beq_eq_false_iff_ne.mpr (by omega); have k8 : (x.f0 == 8) = false := beq_eq_false_iff_ne.mpr (by omega); have k9 : (x.f0 == 9) = false := beq_eq_false_iff_ne.mpr (by omega); 
    by_cases hN : x.f1 = 0
    case neg =>
      have HH := Aside0.mk (show mayHere x = false by unfold mayHere; simp [hk, hN])
      have fN0 : (x.f1 == 0) = false := beq_eq_false_iff_ne.mpr hN
      clear hk hN
      go_wp2_with fail
      go_ret
      exact ⟨ret_bool (by rw [HALL.out, HH.out]), GB.out⟩
    by_cases hS : x.f2.toList = []
    case neg =>
      have HH := Aside0.mk (show mayHere x = false by unfold mayHere; simp [hk, hN, hS])
      have fN0 : (x.f1 == 0) = true := beq_iff_eq.mpr hN
      have fS0 : x.f2.toList.isEmpty = false := by simp [hS]
      clear hk hN hS
      go_wp2_with fail
      go_ret
      exact ⟨ret_bool (by rw [HALL.out, HH.out]), GB.out⟩
    have HH := Aside0.mk (show mayHere x = false by unfold mayHere; simp [hk, hN, hS])
    have fN0 : (x.f1 == 0) = true := beq_iff_eq.mpr hN
    have fS0 : x.f2.toList.isEmpty = true := by simp [hS]
    clear hk hN hS
    go_wp2_with fail
    go_ret
    exact ⟨ret_bool (by rw [HALL.out, HH.out]), GB.out⟩
end Go.Proofs.Ytmmgdifjiapbmaa.G
