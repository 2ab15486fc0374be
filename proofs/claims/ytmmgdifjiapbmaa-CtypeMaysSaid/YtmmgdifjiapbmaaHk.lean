/- The reference's May is mayT, one step. The arguments read as types. -/
import Derived.Test.YtmmgdifjiapbmaaHj
set_option linter.unusedVariables false
set_option linter.unusedSimpArgs false
namespace Go.Proofs.Ytmmgdifjiapbmaa.G
open Go.RowKit Go.Proofs.Ytmmgdifjiapbmaa.B Go.Proofs.YtmmgdifjiapbmaaW.PrintWords Go.Proofs.YtmmgdifjiapbmaaW.PrintLast Go.Proofs.YtmmgdifjiapbmaaW.PrintMore



def MayRef (n : Nat) : Prop := ∀ (x : S24) (A : Option Addr) (c : Nat) (w : World), Kd.C k24 w A x.f3.length x.f3 → x.f3.length ≤ c →
    Calls Try.prog 22 #[.agg #[.int .i64 x.f0, .int .i64 x.f1, .string x.f2, .slice A x.f3.length c], .int .i64 n] w fun e w' => e = .returned (.bool (mayT n x)) ∧ Below w.heap.size w w'
theorem drop_all (l : List S24) (p : S24 → Bool) : decide (∀ k, k < (l.drop 1).length → p (rd_T24 (l.drop 1) k) = true) = decide (∀ k, k < l.length → 1 ≤ k → p (rd_T24 l k) = true) := by
  have e : ∀ k : Nat, rd_T24 (l.drop 1) k = rd_T24 l ((k + 1 : Nat)) := fun k => by
    unfold rd_T24
    cases l with
    | nil => rfl
    | cons a l => rfl
  apply decide_eq_decide.2
  constructor
  · intro h k h2 h1
    have := h (k - 1) (by rw [List.length_drop]; omega)
    rw [e, show k - 1 + 1 = k by omega] at this
    exact this
  · intro h k hk
    rw [List.length_drop] at hk
    rw [e]
    exact h (k + 1) (by omega) (by omega)
theorem size_pos (s : ByteArray) (h : ¬ s.toList = []) : 1 ≤ s.size := by
  rw [← bytes_size]
  exact List.length_pos_iff.2 h
theorem size_nil (s : ByteArray) (h : s.toList = []) : s.size = 0 := by rw [← bytes_size, h]; rfl
set_option maxRecDepth 100000 in
set_option maxHeartbeats 8000000 in
theorem mayr_step (n : Nat) (ih : MayRef n) (hn : n ≤ 1000) : MayRef (n + 1) := by
  intro x A c w hC hl
  have HC := Aside0.mk hC
  have HL := Aside0.mk hl
  have IH := Aside0.mk ih
  have hm := hC.2.1
  clear hC hl ih
  rw [show (((n + 1 : Nat) : Int)) = (n : Int) + 1 by omega]
  have e0 : (((n : Int) + 1) == 0) = false := beq_eq_false_iff_ne.mpr (by omega)
  go_enter Try.func22, Try.ntmps22
  go_upto_block 0 with (fail)
  have HBX := Aside0.mk (blk_new w (Obj.cells #[.int .i64 x.f0, .int .i64 x.f1, .string x.f2, .slice A x.f3.length c] 24))
  have HB := Aside0.mk (show Below w.heap.size w (w.alloc (Obj.cells #[.int .i64 x.f0, .int .i64 x.f1, .string x.f2, .slice A x.f3.length c] 24)) from (Below.refl _ _).alloc (Nat.le_refl _) _)
  generalize w.alloc (Obj.cells #[.int .i64 x.f0, .int .i64 x.f1, .string x.f2, .slice A x.f3.length c] 24) = W at HBX HB ⊢
  go_cut [] (fun wc => Hid (mayT (n + 1) x = mayHere x) ∧ Hid (wc.heap[w.heap.size]? = some (.cells #[.int .i64 x.f0, .int .i64 x.f1, .string x.f2, .slice A x.f3.length c] 24 (0, 0))) ∧ Hid (Below w.heap.size w wc))
  case first =>
    go_wp2_with fail
    go_loopw [5] (fun i wr => ∃ k : Nat, k ≤ x.f3.length ∧ i = .int .i64 k ∧ Hid (∀ j, j < k → mayT n (rd_T24 x.f3 j) = true) ∧ Hid (wr.heap[w.heap.size]? = some (.cells #[.int .i64 x.f0, .int .i64 x.f1, .string x.f2, .slice A x.f3.length c] 24 (0, 0))) ∧ Hid (Below w.heap.size w wr)) (fun i _ => x.f3.length - (intOf i).toNat)
    case atStart => exact ⟨0, Nat.zero_le _, rfl, by intro j hj; omega, HBX.out, HB.out⟩
    case round =>
      clear HBX HB
      obtain ⟨k, hk, rfl, hq, g3, gb⟩ := hrel
      have c3_ := cell4 g3.out
      by_cases hlt : k < x.f3.length
      · obtain ⟨ad, A3, c3, e, hx0, hx1, hx2, hx3, hl, hi⟩ := at_T24 HC.out k (by omega) (by omega)
        rw [Int.toNat_natCast] at hx0 hx1 hx2 hx3
        replace hx0 := Kd.cell_heap gb.out.block hx0
        replace hx1 := Kd.cell_heap gb.out.block hx1
        replace hx2 := Kd.cell_heap gb.out.block hx2
        replace hx3 := Kd.cell_heap gb.out.block hx3
        cases e
        have HI := Aside0.mk hi
        have HL2 := Aside0.mk hl
        clear hi hl
        go_wp2_with fail
        refine (IH.out (rd_T24 x.f3 k) _ _ wr (Kd.C_below HI.out gb.out) HL2.out).mono ?_
        rintro e w2 ⟨rfl, hb2⟩
        have HB2 := Aside0.mk hb2
        clear hb2
        cases hqk : mayT n (rd_T24 x.f3 k) with
        | true =>
          have HQ := Aside0.mk hqk
          clear hqk
          go_wp2_with fail
          go_roundw
          case rel =>
            refine ⟨k + 1, by omega, by go_num, fun j hj => ?_, blk_below g3.out HB2.out, below_step gb.out HB2.out⟩
            rcases Nat.lt_succ_iff_lt_or_eq.1 hj with h | h
            · exact hq.out j h
            · rw [h]; exact HQ.out
          case measure => simp [intOf]; omega
        | false =>
          have HQ := Aside0.mk hqk
          clear hqk
          go_wp2_with fail
          go_ret
          exact ⟨ret_bool (by rw [mayT, decide_eq_false (fun h => by have := h k hlt; rw [HQ.out] at this; cases this)]; rfl), below_step gb.out HB2.out⟩
      · obtain rfl : k = x.f3.length := by omega
        go_wp2_with fail
        go_meet
        case rel => exact ⟨by rw [mayT, decide_eq_true hq.out]; rfl, g3, gb⟩
  case rest =>
    clear HBX HB
    obtain ⟨HALL, g3_, gb_⟩ := hcut
    have g3 := g3_.out
    have c3_ := cell4 g3
    have GB := Aside0.mk gb_.out
    clear IH gb_ g3_
    by_cases hk : x.f0 = 1
    case pos =>
      have k1 : (x.f0 == 1) = true := beq_iff_eq.mpr hk; have k2 : (x.f0 == 2) = false := beq_eq_false_iff_ne.mpr (by omega); have k3 : (x.f0 == 3) = false := beq_eq_false_iff_ne.mpr (by omega); have k4 : (x.f0 == 4) = false := beq_eq_false_iff_ne.mpr (by omega); have k5 : (x.f0 == 5) = false := beq_eq_false_iff_ne.mpr (by omega); have k6 : (x.f0 == 6) = false := beq_eq_false_iff_ne.mpr (by omega); have k7 : (x.f0 == 7) = false := beq_eq_false_iff_ne.mpr (by omega); have k8 : (x.f0 == 8) = false := beq_eq_false_iff_ne.mpr (by omega); have k9 : (x.f0 == 9) = false := beq_eq_false_iff_ne.mpr (by omega); 
      by_cases hL0 : x.f3.length = 0
      case neg =>
        have HH := Aside0.mk (show mayHere x = false by unfold mayHere; simp [hk, hL0])
        have fL00 : (x.f3.length == 0) = false := beq_eq_false_iff_ne.mpr hL0
        have fL01 : ((x.f3.length : Int) == 0) = false := beq_eq_false_iff_ne.mpr (by omega)
        clear hk hL0
        go_wp2_with fail
        go_ret
        exact ⟨ret_bool (by rw [HALL.out, HH.out]), GB.out⟩
      by_cases hN : x.f1 = 0
      case neg =>
        have HH := Aside0.mk (show mayHere x = false by unfold mayHere; simp [hk, hL0, hN])
        have fL00 : (x.f3.length == 0) = true := beq_iff_eq.mpr hL0
        have fL01 : ((x.f3.length : Int) == 0) = true := beq_iff_eq.mpr (by omega)
        have fN0 : (x.f1 == 0) = false := beq_eq_false_iff_ne.mpr hN
        have fN1 : (x.f1 != 0) = true := bne_iff_ne.mpr hN
        clear hk hL0 hN
        go_wp2_with fail
        go_ret
        exact ⟨ret_bool (by rw [HALL.out, HH.out]), GB.out⟩
      by_cases hS : x.f2.toList = []
      case neg =>
        have HH := Aside0.mk (show mayHere x = false by unfold mayHere; simp [hk, hL0, hN, hS])
        have fL00 : (x.f3.length == 0) = true := beq_iff_eq.mpr hL0
        have fL01 : ((x.f3.length : Int) == 0) = true := beq_iff_eq.mpr (by omega)
        have fN0 : (x.f1 == 0) = true := beq_iff_eq.mpr hN
        have fN1 : (x.f1 != 0) = false := bne_eq_false_iff_eq.mpr hN
        have fS0 : x.f2.toList.isEmpty = false := by simp [hS]
        have fS1 : (1 : Int) ≤ (x.f2.size : Int) := by have := size_pos x.f2 hS; omega
        have fS2 : 1 ≤ x.f2.size := size_pos x.f2 hS
        clear hk hL0 hN hS
        go_wp2_with fail
        go_ret
        exact ⟨ret_bool (by rw [HALL.out, HH.out]), GB.out⟩
      have HH := Aside0.mk (show mayHere x = true by unfold mayHere; simp [hk, hL0, hN, hS])
      have fL00 : (x.f3.length == 0) = true := beq_iff_eq.mpr hL0
      have fL01 : ((x.f3.length : Int) == 0) = true := beq_iff_eq.mpr (by omega)
      have fN0 : (x.f1 == 0) = true := beq_iff_eq.mpr hN
      have fN1 : (x.f1 != 0) = false := bne_eq_false_iff_eq.mpr hN
      have fS0 : x.f2.toList.isEmpty = true := by simp [hS]
      have fS1 : ¬ (1 : Int) ≤ (x.f2.size : Int) := by have := size_nil x.f2 hS; omega
      have fS2 : decide ((1 : Int) ≤ (x.f2.size : Int)) = false := decide_eq_false (by have := size_nil x.f2 hS; omega)
      clear hk hL0 hN hS
      go_wp2_with fail
      go_ret
      exact ⟨ret_bool (by rw [HALL.out, HH.out]), GB.out⟩
    rename _ => hk1
    by_cases hk : x.f0 = 2
    case pos =>
      have k1 : (x.f0 == 1) = false := beq_eq_false_iff_ne.mpr (by omega); have k2 : (x.f0 == 2) = true := beq_iff_eq.mpr hk; have k3 : (x.f0 == 3) = false := beq_eq_false_iff_ne.mpr (by omega); have k4 : (x.f0 == 4) = false := beq_eq_false_iff_ne.mpr (by omega); have k5 : (x.f0 == 5) = false := beq_eq_false_iff_ne.mpr (by omega); have k6 : (x.f0 == 6) = false := beq_eq_false_iff_ne.mpr (by omega); have k7 : (x.f0 == 7) = false := beq_eq_false_iff_ne.mpr (by omega); have k8 : (x.f0 == 8) = false := beq_eq_false_iff_ne.mpr (by omega); have k9 : (x.f0 == 9) = false := beq_eq_false_iff_ne.mpr (by omega); 
      by_cases hL0 : x.f3.length = 0
      case neg =>
        have HH := Aside0.mk (show mayHere x = false by unfold mayHere; simp [hk, hL0])
        have fL00 : (x.f3.length == 0) = false := beq_eq_false_iff_ne.mpr hL0
        have fL01 : ((x.f3.length : Int) == 0) = false := beq_eq_false_iff_ne.mpr (by omega)
        clear hk hL0
        go_wp2_with fail
        go_ret
        exact ⟨ret_bool (by rw [HALL.out, HH.out]), GB.out⟩
      by_cases hN : x.f1 = 0
      case neg =>
        have HH := Aside0.mk (show mayHere x = false by unfold mayHere; simp [hk, hL0, hN])
        have fL00 : (x.f3.length == 0) = true := beq_iff_eq.mpr hL0
        have fL01 : ((x.f3.length : Int) == 0) = true := beq_iff_eq.mpr (by omega)
        have fN0 : (x.f1 == 0) = false := beq_eq_false_iff_ne.mpr hN
        have fN1 : (x.f1 != 0) = true := bne_iff_ne.mpr hN
        clear hk hL0 hN
        go_wp2_with fail
        go_ret
        exact ⟨ret_bool (by rw [HALL.out, HH.out]), GB.out⟩
      by_cases hS : x.f2.toList = []
      case neg =>
        have HH := Aside0.mk (show mayHere x = false by unfold mayHere; simp [hk, hL0, hN, hS])
        have fL00 : (x.f3.length == 0) = true := beq_iff_eq.mpr hL0
        have fL01 : ((x.f3.length : Int) == 0) = true := beq_iff_eq.mpr (by omega)
        have fN0 : (x.f1 == 0) = true := beq_iff_eq.mpr hN
        have fN1 : (x.f1 != 0) = false := bne_eq_false_iff_eq.mpr hN
        have fS0 : x.f2.toList.isEmpty = false := by simp [hS]
        have fS1 : (1 : Int) ≤ (x.f2.size : Int) := by have := size_pos x.f2 hS; omega
        have fS2 : 1 ≤ x.f2.size := size_pos x.f2 hS
        clear hk hL0 hN hS
        go_wp2_with fail
        go_ret
        exact ⟨ret_bool (by rw [HALL.out, HH.out]), GB.out⟩
      have HH := Aside0.mk (show mayHere x = true by unfold mayHere; simp [hk, hL0, hN, hS])
      have fL00 : (x.f3.length == 0) = true := beq_iff_eq.mpr hL0
      have fL01 : ((x.f3.length : Int) == 0) = true := beq_iff_eq.mpr (by omega)
      have fN0 : (x.f1 == 0) = true := beq_iff_eq.mpr hN
      have fN1 : (x.f1 != 0) = false := bne_eq_false_iff_eq.mpr hN
      have fS0 : x.f2.toList.isEmpty = true := by simp [hS]
      have fS1 : ¬ (1 : Int) ≤ (x.f2.size : Int) := by have := size_nil x.f2 hS; omega
      have fS2 : decide ((1 : Int) ≤ (x.f2.size : Int)) = false := decide_eq_false (by have := size_nil x.f2 hS; omega)
      clear hk hL0 hN hS
      go_wp2_with fail
      go_ret
      exact ⟨ret_bool (by rw [HALL.out, HH.out]), GB.out⟩
    rename _ => hk2
    by_cases hk : x.f0 = 3
    case pos =>
      have k1 : (x.f0 == 1) = false := beq_eq_false_iff_ne.mpr (by omega); have k2 : (x.f0 == 2) = false := beq_eq_false_iff_ne.mpr (by omega); have k3 : (x.f0 == 3) = true := beq_iff_eq.mpr hk; have k4 : (x.f0 == 4) = false := beq_eq_false_iff_ne.mpr (by omega); have k5 : (x.f0 == 5) = false := beq_eq_false_iff_ne.mpr (by omega); have k6 : (x.f0 == 6) = false := beq_eq_false_iff_ne.mpr (by omega); have k7 : (x.f0 == 7) = false := beq_eq_false_iff_ne.mpr (by omega); have k8 : (x.f0 == 8) = false := beq_eq_false_iff_ne.mpr (by omega); have k9 : (x.f0 == 9) = false := beq_eq_false_iff_ne.mpr (by omega); 
      by_cases hL0 : x.f3.length = 0
      case neg =>
        have HH := Aside0.mk (show mayHere x = false by unfold mayHere; simp [hk, hL0])
        have fL00 : (x.f3.length == 0) = false := beq_eq_false_iff_ne.mpr hL0
        have fL01 : ((x.f3.length : Int) == 0) = false := beq_eq_false_iff_ne.mpr (by omega)
        clear hk hL0
        go_wp2_with fail
        go_ret
        exact ⟨ret_bool (by rw [HALL.out, HH.out]), GB.out⟩
      by_cases hN : x.f1 = 0
      case neg =>
        have HH := Aside0.mk (show mayHere x = false by unfold mayHere; simp [hk, hL0, hN])
        have fL00 : (x.f3.length == 0) = true := beq_iff_eq.mpr hL0
        have fL01 : ((x.f3.length : Int) == 0) = true := beq_iff_eq.mpr (by omega)
        have fN0 : (x.f1 == 0) = false := beq_eq_false_iff_ne.mpr hN
        have fN1 : (x.f1 != 0) = true := bne_iff_ne.mpr hN
        clear hk hL0 hN
        go_wp2_with fail
        go_ret
        exact ⟨ret_bool (by rw [HALL.out, HH.out]), GB.out⟩
      by_cases hS : x.f2.toList = []
      case neg =>
        have HH := Aside0.mk (show mayHere x = false by unfold mayHere; simp [hk, hL0, hN, hS])
        have fL00 : (x.f3.length == 0) = true := beq_iff_eq.mpr hL0
        have fL01 : ((x.f3.length : Int) == 0) = true := beq_iff_eq.mpr (by omega)
        have fN0 : (x.f1 == 0) = true := beq_iff_eq.mpr hN
        have fN1 : (x.f1 != 0) = false := bne_eq_false_iff_eq.mpr hN
        have fS0 : x.f2.toList.isEmpty = false := by simp [hS]
        have fS1 : (1 : Int) ≤ (x.f2.size : Int) := by have := size_pos x.f2 hS; omega
        have fS2 : 1 ≤ x.f2.size := size_pos x.f2 hS
        clear hk hL0 hN hS
        go_wp2_with fail
        go_ret
        exact ⟨ret_bool (by rw [HALL.out, HH.out]), GB.out⟩
      have HH := Aside0.mk (show mayHere x = true by unfold mayHere; simp [hk, hL0, hN, hS])
      have fL00 : (x.f3.length == 0) = true := beq_iff_eq.mpr hL0
      have fL01 : ((x.f3.length : Int) == 0) = true := beq_iff_eq.mpr (by omega)
      have fN0 : (x.f1 == 0) = true := beq_iff_eq.mpr hN
      have fN1 : (x.f1 != 0) = false := bne_eq_false_iff_eq.mpr hN
      have fS0 : x.f2.toList.isEmpty = true := by simp [hS]
      have fS1 : ¬ (1 : Int) ≤ (x.f2.size : Int) := by have := size_nil x.f2 hS; omega
      have fS2 : decide ((1 : Int) ≤ (x.f2.size : Int)) = false := decide_eq_false (by have := size_nil x.f2 hS; omega)
      clear hk hL0 hN hS
      go_wp2_with fail
      go_ret
      exact ⟨ret_bool (by rw [HALL.out, HH.out]), GB.out⟩
    rename _ => hk3
    by_cases hk : x.f0 = 4
    case pos =>
      have k1 : (x.f0 == 1) = false := beq_eq_false_iff_ne.mpr (by omega); have k2 : (x.f0 == 2) = false := beq_eq_false_iff_ne.mpr (by omega); have k3 : (x.f0 == 3) = false := beq_eq_false_iff_ne.mpr (by omega); have k4 : (x.f0 == 4) = true := beq_iff_eq.mpr hk; have k5 : (x.f0 == 5) = false := beq_eq_false_iff_ne.mpr (by omega); have k6 : (x.f0 == 6) = false := beq_eq_false_iff_ne.mpr (by omega); have k7 : (x.f0 == 7) = false := beq_eq_false_iff_ne.mpr (by omega); have k8 : (x.f0 == 8) = false := beq_eq_false_iff_ne.mpr (by omega); have k9 : (x.f0 == 9) = false := beq_eq_false_iff_ne.mpr (by omega); 
      by_cases hL0 : x.f3.length = 0
      case neg =>
        have HH := Aside0.mk (show mayHere x = false by unfold mayHere; simp [hk, hL0])
        have fL00 : (x.f3.length == 0) = false := beq_eq_false_iff_ne.mpr hL0
        have fL01 : ((x.f3.length : Int) == 0) = false := beq_eq_false_iff_ne.mpr (by omega)
        clear hk hL0
        go_wp2_with fail
        go_ret
        exact ⟨ret_bool (by rw [HALL.out, HH.out]), GB.out⟩
      by_cases hN : x.f1 = 0
      case neg =>
        have HH := Aside0.mk (show mayHere x = false by unfold mayHere; simp [hk, hL0, hN])
        have fL00 : (x.f3.length == 0) = true := beq_iff_eq.mpr hL0
        have fL01 : ((x.f3.length : Int) == 0) = true := beq_iff_eq.mpr (by omega)
        have fN0 : (x.f1 == 0) = false := beq_eq_false_iff_ne.mpr hN
        have fN1 : (x.f1 != 0) = true := bne_iff_ne.mpr hN
        clear hk hL0 hN
        go_wp2_with fail
        go_ret
        exact ⟨ret_bool (by rw [HALL.out, HH.out]), GB.out⟩
      by_cases hS : x.f2.toList = []
      case neg =>
        have HH := Aside0.mk (show mayHere x = false by unfold mayHere; simp [hk, hL0, hN, hS])
        have fL00 : (x.f3.length == 0) = true := beq_iff_eq.mpr hL0
        have fL01 : ((x.f3.length : Int) == 0) = true := beq_iff_eq.mpr (by omega)
        have fN0 : (x.f1 == 0) = true := beq_iff_eq.mpr hN
        have fN1 : (x.f1 != 0) = false := bne_eq_false_iff_eq.mpr hN
        have fS0 : x.f2.toList.isEmpty = false := by simp [hS]
        have fS1 : (1 : Int) ≤ (x.f2.size : Int) := by have := size_pos x.f2 hS; omega
        have fS2 : 1 ≤ x.f2.size := size_pos x.f2 hS
        clear hk hL0 hN hS
        go_wp2_with fail
        go_ret
        exact ⟨ret_bool (by rw [HALL.out, HH.out]), GB.out⟩
      have HH := Aside0.mk (show mayHere x = true by unfold mayHere; simp [hk, hL0, hN, hS])
      have fL00 : (x.f3.length == 0) = true := beq_iff_eq.mpr hL0
      have fL01 : ((x.f3.length : Int) == 0) = true := beq_iff_eq.mpr (by omega)
      have fN0 : (x.f1 == 0) = true := beq_iff_eq.mpr hN
      have fN1 : (x.f1 != 0) = false := bne_eq_false_iff_eq.mpr hN
      have fS0 : x.f2.toList.isEmpty = true := by simp [hS]
      have fS1 : ¬ (1 : Int) ≤ (x.f2.size : Int) := by have := size_nil x.f2 hS; omega
      have fS2 : decide ((1 : Int) ≤ (x.f2.size : Int)) = false := decide_eq_false (by have := size_nil x.f2 hS; omega)
      clear hk hL0 hN hS
      go_wp2_with fail
      go_ret
      exact ⟨ret_bool (by rw [HALL.out, HH.out]), GB.out⟩
    rename _ => hk4
    by_cases hk : x.f0 = 5
    case pos =>
      have k1 : (x.f0 == 1) = false := beq_eq_false_iff_ne.mpr (by omega); have k2 : (x.f0 == 2) = false := beq_eq_false_iff_ne.mpr (by omega); have k3 : (x.f0 == 3) = false := beq_eq_false_iff_ne.mpr (by omega); have k4 : (x.f0 == 4) = false := beq_eq_false_iff_ne.mpr (by omega); have k5 : (x.f0 == 5) = true := beq_iff_eq.mpr hk; have k6 : (x.f0 == 6) = false := beq_eq_false_iff_ne.mpr (by omega); have k7 : (x.f0 == 7) = false := beq_eq_false_iff_ne.mpr (by omega); have k8 : (x.f0 == 8) = false := beq_eq_false_iff_ne.mpr (by omega); have k9 : (x.f0 == 9) = false := beq_eq_false_iff_ne.mpr (by omega); 
      by_cases hL1 : x.f3.length = 1
      case neg =>
        have HH := Aside0.mk (show mayHere x = false by unfold mayHere; simp [hk, hL1])
        have fL10 : ((x.f3.length : Int) == 1) = false := beq_eq_false_iff_ne.mpr (by omega)
        clear hk hL1
        go_wp2_with fail
        go_ret
        exact ⟨ret_bool (by rw [HALL.out, HH.out]), GB.out⟩
      by_cases hN : x.f1 = 0
      case neg =>
        have HH := Aside0.mk (show mayHere x = false by unfold mayHere; simp [hk, hL1, hN])
        have fL10 : ((x.f3.length : Int) == 1) = true := beq_iff_eq.mpr (by omega)
        have fL11 : (0 : Int) < (x.f3.length : Int) := by omega
        have fN0 : (x.f1 == 0) = false := beq_eq_false_iff_ne.mpr hN
        have fN1 : (x.f1 != 0) = true := bne_iff_ne.mpr hN
        clear hk hL1 hN
        go_wp2_with fail
        go_ret
        exact ⟨ret_bool (by rw [HALL.out, HH.out]), GB.out⟩
      by_cases hS : x.f2.toList = []
      case neg =>
        have HH := Aside0.mk (show mayHere x = false by unfold mayHere; simp [hk, hL1, hN, hS])
        have fL10 : ((x.f3.length : Int) == 1) = true := beq_iff_eq.mpr (by omega)
        have fL11 : (0 : Int) < (x.f3.length : Int) := by omega
        have fN0 : (x.f1 == 0) = true := beq_iff_eq.mpr hN
        have fN1 : (x.f1 != 0) = false := bne_eq_false_iff_eq.mpr hN
        have fS0 : x.f2.toList.isEmpty = false := by simp [hS]
        have fS1 : (1 : Int) ≤ (x.f2.size : Int) := by have := size_pos x.f2 hS; omega
        have fS2 : 1 ≤ x.f2.size := size_pos x.f2 hS
        clear hk hL1 hN hS
        go_wp2_with fail
        go_ret
        exact ⟨ret_bool (by rw [HALL.out, HH.out]), GB.out⟩
      have HH := Aside0.mk (show mayHere x = true by unfold mayHere; simp [hk, hL1, hN, hS])
      have fL10 : ((x.f3.length : Int) == 1) = true := beq_iff_eq.mpr (by omega)
      have fL11 : (0 : Int) < (x.f3.length : Int) := by omega
      have fN0 : (x.f1 == 0) = true := beq_iff_eq.mpr hN
      have fN1 : (x.f1 != 0) = false := bne_eq_false_iff_eq.mpr hN
      have fS0 : x.f2.toList.isEmpty = true := by simp [hS]
      have fS1 : ¬ (1 : Int) ≤ (x.f2.size : Int) := by have := size_nil x.f2 hS; omega
      have fS2 : decide ((1 : Int) ≤ (x.f2.size : Int)) = false := decide_eq_false (by have := size_nil x.f2 hS; omega)
      clear hk hL1 hN hS
      go_wp2_with fail
      go_ret
      exact ⟨ret_bool (by rw [HALL.out, HH.out]), GB.out⟩
    rename _ => hk5
    by_cases hk : x.f0 = 6
    case pos =>
      have k1 : (x.f0 == 1) = false := beq_eq_false_iff_ne.mpr (by omega); have k2 : (x.f0 == 2) = false := beq_eq_false_iff_ne.mpr (by omega); have k3 : (x.f0 == 3) = false := beq_eq_false_iff_ne.mpr (by omega); have k4 : (x.f0 == 4) = false := beq_eq_false_iff_ne.mpr (by omega); have k5 : (x.f0 == 5) = false := beq_eq_false_iff_ne.mpr (by omega); have k6 : (x.f0 == 6) = true := beq_iff_eq.mpr hk; have k7 : (x.f0 == 7) = false := beq_eq_false_iff_ne.mpr (by omega); have k8 : (x.f0 == 8) = false := beq_eq_false_iff_ne.mpr (by omega); have k9 : (x.f0 == 9) = false := beq_eq_false_iff_ne.mpr (by omega); 
      by_cases hL1 : x.f3.length = 1
      case neg =>
        have HH := Aside0.mk (show mayHere x = false by unfold mayHere; simp [hk, hL1])
        have fL10 : ((x.f3.length : Int) == 1) = false := beq_eq_false_iff_ne.mpr (by omega)
        clear hk hL1
        go_wp2_with fail
        go_ret
        exact ⟨ret_bool (by rw [HALL.out, HH.out]), GB.out⟩
      by_cases hG1 : 1 ≤ x.f1
      case neg =>
        have HH := Aside0.mk (show mayHere x = false by unfold mayHere; simp [hk, hL1, hG1])
        have fL10 : ((x.f3.length : Int) == 1) = true := beq_iff_eq.mpr (by omega)
        have fL11 : (0 : Int) < (x.f3.length : Int) := by omega
        have fG10 : ¬ 1 ≤ x.f1 := hG1
        clear hk hL1 hG1
        go_wp2_with fail
        go_ret
        exact ⟨ret_bool (by rw [HALL.out, HH.out]), GB.out⟩
      by_cases hG4 : x.f1 ≤ 4096
      case neg =>
        have HH := Aside0.mk (show mayHere x = false by unfold mayHere; simp [hk, hL1, hG1, hG4])
        have fL10 : ((x.f3.length : Int) == 1) = true := beq_iff_eq.mpr (by omega)
        have fL11 : (0 : Int) < (x.f3.length : Int) := by omega
        have fG10 : 1 ≤ x.f1 := hG1
        have fG40 : ¬ x.f1 ≤ 4096 := hG4
        clear hk hL1 hG1 hG4
        go_wp2_with fail
        go_ret
        exact ⟨ret_bool (by rw [HALL.out, HH.out]), GB.out⟩
      by_cases hS : x.f2.toList = []
      case neg =>
        have HH := Aside0.mk (show mayHere x = false by unfold mayHere; simp [hk, hL1, hG1, hG4, hS])
        have fL10 : ((x.f3.length : Int) == 1) = true := beq_iff_eq.mpr (by omega)
        have fL11 : (0 : Int) < (x.f3.length : Int) := by omega
        have fG10 : 1 ≤ x.f1 := hG1
        have fG40 : x.f1 ≤ 4096 := hG4
        have fS0 : x.f2.toList.isEmpty = false := by simp [hS]
        have fS1 : (1 : Int) ≤ (x.f2.size : Int) := by have := size_pos x.f2 hS; omega
        have fS2 : 1 ≤ x.f2.size := size_pos x.f2 hS
        clear hk hL1 hG1 hG4 hS
        go_wp2_with fail
        go_ret
        exact ⟨ret_bool (by rw [HALL.out, HH.out]), GB.out⟩
      by_cases hK1 : (rd_T24 x.f3 0).f0 = 1
      case pos =>
        have HH := Aside0.mk (show mayHere x = false by unfold mayHere; simp [hk, hL1, hG1, hG4, hS, hK1])
        obtain ⟨ad, A3, c3, e, q0, q1, q2, q3, ql, qi⟩ := at_T24 HC.out 0 (by omega) (by omega)
        cases e
        simp only [show (0 : Int).toNat * 4 = 0 from rfl, Addr.add_zero'] at q0 q1 q2 q3
        replace q0 := Kd.cell_heap GB.out.block q0
        clear q1 q2 q3 ql qi
        have fL10 : ((x.f3.length : Int) == 1) = true := beq_iff_eq.mpr (by omega)
        have fL11 : (0 : Int) < (x.f3.length : Int) := by omega
        have fG10 : 1 ≤ x.f1 := hG1
        have fG40 : x.f1 ≤ 4096 := hG4
        have fS0 : x.f2.toList.isEmpty = true := by simp [hS]
        have fS1 : ¬ (1 : Int) ≤ (x.f2.size : Int) := by have := size_nil x.f2 hS; omega
        have fS2 : decide ((1 : Int) ≤ (x.f2.size : Int)) = false := decide_eq_false (by have := size_nil x.f2 hS; omega)
        have fK10 : ((rd_T24 x.f3 0).f0 != 1) = false := bne_eq_false_iff_eq.mpr hK1
        have fK11 : ((rd_T24 x.f3 0).f0 == 1) = true := beq_iff_eq.mpr hK1
        clear hk hL1 hG1 hG4 hS hK1
        go_wp2_with fail
        go_ret
        exact ⟨ret_bool (by rw [HALL.out, HH.out]), GB.out⟩
      by_cases hK9 : (rd_T24 x.f3 0).f0 = 9
      case pos =>
        have HH := Aside0.mk (show mayHere x = false by unfold mayHere; simp [hk, hL1, hG1, hG4, hS, hK1, hK9])
        obtain ⟨ad, A3, c3, e, q0, q1, q2, q3, ql, qi⟩ := at_T24 HC.out 0 (by omega) (by omega)
        cases e
        simp only [show (0 : Int).toNat * 4 = 0 from rfl, Addr.add_zero'] at q0 q1 q2 q3
        replace q0 := Kd.cell_heap GB.out.block q0
        clear q1 q2 q3 ql qi
        have fL10 : ((x.f3.length : Int) == 1) = true := beq_iff_eq.mpr (by omega)
        have fL11 : (0 : Int) < (x.f3.length : Int) := by omega
        have fG10 : 1 ≤ x.f1 := hG1
        have fG40 : x.f1 ≤ 4096 := hG4
        have fS0 : x.f2.toList.isEmpty = true := by simp [hS]
        have fS1 : ¬ (1 : Int) ≤ (x.f2.size : Int) := by have := size_nil x.f2 hS; omega
        have fS2 : decide ((1 : Int) ≤ (x.f2.size : Int)) = false := decide_eq_false (by have := size_nil x.f2 hS; omega)
        have fK10 : ((rd_T24 x.f3 0).f0 != 1) = true := bne_iff_ne.mpr hK1
        have fK11 : ((rd_T24 x.f3 0).f0 == 1) = false := beq_eq_false_iff_ne.mpr hK1
        have fK90 : ((rd_T24 x.f3 0).f0 != 9) = false := bne_eq_false_iff_eq.mpr hK9
        have fK91 : ((rd_T24 x.f3 0).f0 == 9) = true := beq_iff_eq.mpr hK9
        clear hk hL1 hG1 hG4 hS hK1 hK9
        go_wp2_with fail
        go_ret
        exact ⟨ret_bool (by rw [HALL.out, HH.out]), GB.out⟩
      have HH := Aside0.mk (show mayHere x = true by unfold mayHere; simp [hk, hL1, hG1, hG4, hS, hK1, hK9])
      obtain ⟨ad, A3, c3, e, q0, q1, q2, q3, ql, qi⟩ := at_T24 HC.out 0 (by omega) (by omega)
      cases e
      simp only [show (0 : Int).toNat * 4 = 0 from rfl, Addr.add_zero'] at q0 q1 q2 q3
      replace q0 := Kd.cell_heap GB.out.block q0
      clear q1 q2 q3 ql qi
      have fL10 : ((x.f3.length : Int) == 1) = true := beq_iff_eq.mpr (by omega)
      have fL11 : (0 : Int) < (x.f3.length : Int) := by omega
      have fG10 : 1 ≤ x.f1 := hG1
      have fG40 : x.f1 ≤ 4096 := hG4
      have fS0 : x.f2.toList.isEmpty = true := by simp [hS]
      have fS1 : ¬ (1 : Int) ≤ (x.f2.size : Int) := by have := size_nil x.f2 hS; omega
      have fS2 : decide ((1 : Int) ≤ (x.f2.size : Int)) = false := decide_eq_false (by have := size_nil x.f2 hS; omega)
      have fK10 : ((rd_T24 x.f3 0).f0 != 1) = true := bne_iff_ne.mpr hK1
      have fK11 : ((rd_T24 x.f3 0).f0 == 1) = false := beq_eq_false_iff_ne.mpr hK1
      have fK90 : ((rd_T24 x.f3 0).f0 != 9) = true := bne_iff_ne.mpr hK9
      have fK91 : ((rd_T24 x.f3 0).f0 == 9) = false := beq_eq_false_iff_ne.mpr hK9
      clear hk hL1 hG1 hG4 hS hK1 hK9
      go_wp2_with fail
      go_ret
      exact ⟨ret_bool (by rw [HALL.out, HH.out]), GB.out⟩
    rename _ => hk6
    by_cases hk : x.f0 = 7
    case pos =>
      have k1 : (x.f0 == 1) = false := beq_eq_false_iff_ne.mpr (by omega); have k2 : (x.f0 == 2) = false := beq_eq_false_iff_ne.mpr (by omega); have k3 : (x.f0 == 3) = false := beq_eq_false_iff_ne.mpr (by omega); have k4 : (x.f0 == 4) = false := beq_eq_false_iff_ne.mpr (by omega); have k5 : (x.f0 == 5) = false := beq_eq_false_iff_ne.mpr (by omega); have k6 : (x.f0 == 6) = false := beq_eq_false_iff_ne.mpr (by omega); have k7 : (x.f0 == 7) = true := beq_iff_eq.mpr hk; have k8 : (x.f0 == 8) = false := beq_eq_false_iff_ne.mpr (by omega); have k9 : (x.f0 == 9) = false := beq_eq_false_iff_ne.mpr (by omega); 
      by_cases hL0 : x.f3.length = 0
      case neg =>
        have HH := Aside0.mk (show mayHere x = false by unfold mayHere; simp [hk, hL0])
        have fL00 : (x.f3.length == 0) = false := beq_eq_false_iff_ne.mpr hL0
        have fL01 : ((x.f3.length : Int) == 0) = false := beq_eq_false_iff_ne.mpr (by omega)
        clear hk hL0
        go_wp2_with fail
        go_ret
        exact ⟨ret_bool (by rw [HALL.out, HH.out]), GB.out⟩
      by_cases hN : x.f1 = 0
      case neg =>
        have HH := Aside0.mk (show mayHere x = false by unfold mayHere; simp [hk, hL0, hN])
        have fL00 : (x.f3.length == 0) = true := beq_iff_eq.mpr hL0
        have fL01 : ((x.f3.length : Int) == 0) = true := beq_iff_eq.mpr (by omega)
        have fN0 : (x.f1 == 0) = false := beq_eq_false_iff_ne.mpr hN
        have fN1 : (x.f1 != 0) = true := bne_iff_ne.mpr hN
        clear hk hL0 hN
        go_wp2_with fail
        go_ret
        exact ⟨ret_bool (by rw [HALL.out, HH.out]), GB.out⟩
      by_cases hS : x.f2.toList = []
      case pos =>
        have HH := Aside0.mk (show mayHere x = false by unfold mayHere; simp [hk, hL0, hN, hS])
        have fL00 : (x.f3.length == 0) = true := beq_iff_eq.mpr hL0
        have fL01 : ((x.f3.length : Int) == 0) = true := beq_iff_eq.mpr (by omega)
        have fN0 : (x.f1 == 0) = true := beq_iff_eq.mpr hN
        have fN1 : (x.f1 != 0) = false := bne_eq_false_iff_eq.mpr hN
        have fS0 : x.f2.toList.isEmpty = true := by simp [hS]
        have fS1 : ¬ (1 : Int) ≤ (x.f2.size : Int) := by have := size_nil x.f2 hS; omega
        have fS2 : decide ((1 : Int) ≤ (x.f2.size : Int)) = false := decide_eq_false (by have := size_nil x.f2 hS; omega)
        clear hk hL0 hN hS
        go_wp2_with fail
        go_ret
        exact ⟨ret_bool (by rw [HALL.out, HH.out]), GB.out⟩
      by_cases hZ : x.f2.size ≤ 24
      case neg =>
        have HH := Aside0.mk (show mayHere x = false by unfold mayHere; simp [hk, hL0, hN, hS, hZ])
        have fL00 : (x.f3.length == 0) = true := beq_iff_eq.mpr hL0
        have fL01 : ((x.f3.length : Int) == 0) = true := beq_iff_eq.mpr (by omega)
        have fN0 : (x.f1 == 0) = true := beq_iff_eq.mpr hN
        have fN1 : (x.f1 != 0) = false := bne_eq_false_iff_eq.mpr hN
        have fS0 : x.f2.toList.isEmpty = false := by simp [hS]
        have fS1 : (1 : Int) ≤ (x.f2.size : Int) := by have := size_pos x.f2 hS; omega
        have fS2 : 1 ≤ x.f2.size := size_pos x.f2 hS
        have fZ0 : ¬ x.f2.size ≤ 24 := hZ
        have fZ1 : ¬ (x.f2.size : Int) ≤ 24 := by omega
        have fZ2 : decide ((x.f2.size : Int) ≤ 24) = false := decide_eq_false (by omega)
        clear hk hL0 hN hS hZ
        go_wp2_with fail
        go_ret
        exact ⟨ret_bool (by rw [HALL.out, HH.out]), GB.out⟩
      have HH := Aside0.mk (show mayHere x = true by unfold mayHere; simp [hk, hL0, hN, hS, hZ])
      have fL00 : (x.f3.length == 0) = true := beq_iff_eq.mpr hL0
      have fL01 : ((x.f3.length : Int) == 0) = true := beq_iff_eq.mpr (by omega)
      have fN0 : (x.f1 == 0) = true := beq_iff_eq.mpr hN
      have fN1 : (x.f1 != 0) = false := bne_eq_false_iff_eq.mpr hN
      have fS0 : x.f2.toList.isEmpty = false := by simp [hS]
      have fS1 : (1 : Int) ≤ (x.f2.size : Int) := by have := size_pos x.f2 hS; omega
      have fS2 : 1 ≤ x.f2.size := size_pos x.f2 hS
      have fZ0 : x.f2.size ≤ 24 := hZ
      have fZ1 : (x.f2.size : Int) ≤ 24 := by omega
      clear hk hL0 hN hS hZ
      go_wp2_with fail
      go_ret
      exact ⟨ret_bool (by rw [HALL.out, HH.out]), GB.out⟩
    rename _ => hk7
    by_cases hk : x.f0 = 8
    case pos =>
      have k1 : (x.f0 == 1) = false := beq_eq_false_iff_ne.mpr (by omega); have k2 : (x.f0 == 2) = false := beq_eq_false_iff_ne.mpr (by omega); have k3 : (x.f0 == 3) = false := beq_eq_false_iff_ne.mpr (by omega); have k4 : (x.f0 == 4) = false := beq_eq_false_iff_ne.mpr (by omega); have k5 : (x.f0 == 5) = false := beq_eq_false_iff_ne.mpr (by omega); have k6 : (x.f0 == 6) = false := beq_eq_false_iff_ne.mpr (by omega); have k7 : (x.f0 == 7) = false := beq_eq_false_iff_ne.mpr (by omega); have k8 : (x.f0 == 8) = true := beq_iff_eq.mpr hk; have k9 : (x.f0 == 9) = false := beq_eq_false_iff_ne.mpr (by omega); 
      by_cases hL0 : x.f3.length = 0
      case neg =>
        have HH := Aside0.mk (show mayHere x = false by unfold mayHere; simp [hk, hL0])
        have fL00 : (x.f3.length == 0) = false := beq_eq_false_iff_ne.mpr hL0
        have fL01 : ((x.f3.length : Int) == 0) = false := beq_eq_false_iff_ne.mpr (by omega)
        clear hk hL0
        go_wp2_with fail
        go_ret
        exact ⟨ret_bool (by rw [HALL.out, HH.out]), GB.out⟩
      by_cases hN : x.f1 = 0
      case neg =>
        have HH := Aside0.mk (show mayHere x = false by unfold mayHere; simp [hk, hL0, hN])
        have fL00 : (x.f3.length == 0) = true := beq_iff_eq.mpr hL0
        have fL01 : ((x.f3.length : Int) == 0) = true := beq_iff_eq.mpr (by omega)
        have fN0 : (x.f1 == 0) = false := beq_eq_false_iff_ne.mpr hN
        have fN1 : (x.f1 != 0) = true := bne_iff_ne.mpr hN
        clear hk hL0 hN
        go_wp2_with fail
        go_ret
        exact ⟨ret_bool (by rw [HALL.out, HH.out]), GB.out⟩
      by_cases hS : x.f2.toList = []
      case pos =>
        have HH := Aside0.mk (show mayHere x = false by unfold mayHere; simp [hk, hL0, hN, hS])
        have fL00 : (x.f3.length == 0) = true := beq_iff_eq.mpr hL0
        have fL01 : ((x.f3.length : Int) == 0) = true := beq_iff_eq.mpr (by omega)
        have fN0 : (x.f1 == 0) = true := beq_iff_eq.mpr hN
        have fN1 : (x.f1 != 0) = false := bne_eq_false_iff_eq.mpr hN
        have fS0 : x.f2.toList.isEmpty = true := by simp [hS]
        have fS1 : ¬ (1 : Int) ≤ (x.f2.size : Int) := by have := size_nil x.f2 hS; omega
        have fS2 : decide ((1 : Int) ≤ (x.f2.size : Int)) = false := decide_eq_false (by have := size_nil x.f2 hS; omega)
        clear hk hL0 hN hS
        go_wp2_with fail
        go_ret
        exact ⟨ret_bool (by rw [HALL.out, HH.out]), GB.out⟩
      by_cases hZ : x.f2.size ≤ 24
      case neg =>
        have HH := Aside0.mk (show mayHere x = false by unfold mayHere; simp [hk, hL0, hN, hS, hZ])
        have fL00 : (x.f3.length == 0) = true := beq_iff_eq.mpr hL0
        have fL01 : ((x.f3.length : Int) == 0) = true := beq_iff_eq.mpr (by omega)
        have fN0 : (x.f1 == 0) = true := beq_iff_eq.mpr hN
        have fN1 : (x.f1 != 0) = false := bne_eq_false_iff_eq.mpr hN
        have fS0 : x.f2.toList.isEmpty = false := by simp [hS]
        have fS1 : (1 : Int) ≤ (x.f2.size : Int) := by have := size_pos x.f2 hS; omega
        have fS2 : 1 ≤ x.f2.size := size_pos x.f2 hS
        have fZ0 : ¬ x.f2.size ≤ 24 := hZ
        have fZ1 : ¬ (x.f2.size : Int) ≤ 24 := by omega
        have fZ2 : decide ((x.f2.size : Int) ≤ 24) = false := decide_eq_false (by omega)
        clear hk hL0 hN hS hZ
        go_wp2_with fail
        go_ret
        exact ⟨ret_bool (by rw [HALL.out, HH.out]), GB.out⟩
      have HH := Aside0.mk (show mayHere x = true by unfold mayHere; simp [hk, hL0, hN, hS, hZ])
      have fL00 : (x.f3.length == 0) = true := beq_iff_eq.mpr hL0
      have fL01 : ((x.f3.length : Int) == 0) = true := beq_iff_eq.mpr (by omega)
      have fN0 : (x.f1 == 0) = true := beq_iff_eq.mpr hN
      have fN1 : (x.f1 != 0) = false := bne_eq_false_iff_eq.mpr hN
      have fS0 : x.f2.toList.isEmpty = false := by simp [hS]
      have fS1 : (1 : Int) ≤ (x.f2.size : Int) := by have := size_pos x.f2 hS; omega
      have fS2 : 1 ≤ x.f2.size := size_pos x.f2 hS
      have fZ0 : x.f2.size ≤ 24 := hZ
      have fZ1 : (x.f2.size : Int) ≤ 24 := by omega
      clear hk hL0 hN hS hZ
      go_wp2_with fail
      go_ret
      exact ⟨ret_bool (by rw [HALL.out, HH.out]), GB.out⟩
    rename _ => hk8
    by_cases hk : x.f0 = 9
    case pos =>
      have k1 : (x.f0 == 1) = false := beq_eq_false_iff_ne.mpr (by omega); have k2 : (x.f0 == 2) = false := beq_eq_false_iff_ne.mpr (by omega); have k3 : (x.f0 == 3) = false := beq_eq_false_iff_ne.mpr (by omega); have k4 : (x.f0 == 4) = false := beq_eq_false_iff_ne.mpr (by omega); have k5 : (x.f0 == 5) = false := beq_eq_false_iff_ne.mpr (by omega); have k6 : (x.f0 == 6) = false := beq_eq_false_iff_ne.mpr (by omega); have k7 : (x.f0 == 7) = false := beq_eq_false_iff_ne.mpr (by omega); have k8 : (x.f0 == 8) = false := beq_eq_false_iff_ne.mpr (by omega); have k9 : (x.f0 == 9) = true := beq_iff_eq.mpr hk; 
      by_cases hM1 : 1 ≤ x.f3.length
      case neg =>
        have HH := Aside0.mk (show mayHere x = false by unfold mayHere; simp [hk, hM1])
        have fM10 : ¬ 1 ≤ x.f3.length := hM1
        have fM11 : ¬ (1 : Int) ≤ (x.f3.length : Int) := by omega
        clear hk hM1
        go_wp2_with fail
        go_ret
        exact ⟨ret_bool (by rw [HALL.out, HH.out]), GB.out⟩
      by_cases hM7 : x.f3.length ≤ 7
      case neg =>
        have HH := Aside0.mk (show mayHere x = false by unfold mayHere; simp [hk, hM1, hM7])
        have fM10 : 1 ≤ x.f3.length := hM1
        have fM11 : (1 : Int) ≤ (x.f3.length : Int) := by omega
        have fM70 : ¬ x.f3.length ≤ 7 := hM7
        have fM71 : ¬ (x.f3.length : Int) ≤ 7 := by omega
        clear hk hM1 hM7
        go_wp2_with fail
        go_ret
        exact ⟨ret_bool (by rw [HALL.out, HH.out]), GB.out⟩
      by_cases hN : x.f1 = 0
      case neg =>
        have HH := Aside0.mk (show mayHere x = false by unfold mayHere; simp [hk, hM1, hM7, hN])
        have fM10 : 1 ≤ x.f3.length := hM1
        have fM11 : (1 : Int) ≤ (x.f3.length : Int) := by omega
        have fM70 : x.f3.length ≤ 7 := hM7
        have fM71 : (x.f3.length : Int) ≤ 7 := by omega
        have fN0 : (x.f1 == 0) = false := beq_eq_false_iff_ne.mpr hN
        have fN1 : (x.f1 != 0) = true := bne_iff_ne.mpr hN
        clear hk hM1 hM7 hN
        go_wp2_with fail
        go_ret
        exact ⟨ret_bool (by rw [HALL.out, HH.out]), GB.out⟩
      by_cases hS : x.f2.toList = []
      case neg =>
        have HH := Aside0.mk (show mayHere x = false by unfold mayHere; simp [hk, hM1, hM7, hN, hS])
        have fM10 : 1 ≤ x.f3.length := hM1
        have fM11 : (1 : Int) ≤ (x.f3.length : Int) := by omega
        have fM70 : x.f3.length ≤ 7 := hM7
        have fM71 : (x.f3.length : Int) ≤ 7 := by omega
        have fN0 : (x.f1 == 0) = true := beq_iff_eq.mpr hN
        have fN1 : (x.f1 != 0) = false := bne_eq_false_iff_eq.mpr hN
        have fS0 : x.f2.toList.isEmpty = false := by simp [hS]
        have fS1 : (1 : Int) ≤ (x.f2.size : Int) := by have := size_pos x.f2 hS; omega
        have fS2 : 1 ≤ x.f2.size := size_pos x.f2 hS
        clear hk hM1 hM7 hN hS
        go_wp2_with fail
        go_ret
        exact ⟨ret_bool (by rw [HALL.out, HH.out]), GB.out⟩
      by_cases hK6 : (rd_T24 x.f3 0).f0 = 6
      case pos =>
        have HH := Aside0.mk (show mayHere x = false by unfold mayHere; simp [hk, hM1, hM7, hN, hS, hK6])
        obtain ⟨ad, A3, c3, e, q0, q1, q2, q3, ql, qi⟩ := at_T24 HC.out 0 (by omega) (by omega)
        cases e
        simp only [show (0 : Int).toNat * 4 = 0 from rfl, Addr.add_zero'] at q0 q1 q2 q3
        replace q0 := Kd.cell_heap GB.out.block q0
        clear q1 q2 q3 ql qi
        have fM10 : 1 ≤ x.f3.length := hM1
        have fM11 : (1 : Int) ≤ (x.f3.length : Int) := by omega
        have fM70 : x.f3.length ≤ 7 := hM7
        have fM71 : (x.f3.length : Int) ≤ 7 := by omega
        have fN0 : (x.f1 == 0) = true := beq_iff_eq.mpr hN
        have fN1 : (x.f1 != 0) = false := bne_eq_false_iff_eq.mpr hN
        have fS0 : x.f2.toList.isEmpty = true := by simp [hS]
        have fS1 : ¬ (1 : Int) ≤ (x.f2.size : Int) := by have := size_nil x.f2 hS; omega
        have fS2 : decide ((1 : Int) ≤ (x.f2.size : Int)) = false := decide_eq_false (by have := size_nil x.f2 hS; omega)
        have fK60 : ((rd_T24 x.f3 0).f0 != 6) = false := bne_eq_false_iff_eq.mpr hK6
        have fK61 : ((rd_T24 x.f3 0).f0 == 6) = true := beq_iff_eq.mpr hK6
        clear hk hM1 hM7 hN hS hK6
        go_wp2_with fail
        go_ret
        exact ⟨ret_bool (by rw [HALL.out, HH.out]), GB.out⟩
      by_cases hK9 : (rd_T24 x.f3 0).f0 = 9
      case pos =>
        have HH := Aside0.mk (show mayHere x = false by unfold mayHere; simp [hk, hM1, hM7, hN, hS, hK6, hK9])
        obtain ⟨ad, A3, c3, e, q0, q1, q2, q3, ql, qi⟩ := at_T24 HC.out 0 (by omega) (by omega)
        cases e
        simp only [show (0 : Int).toNat * 4 = 0 from rfl, Addr.add_zero'] at q0 q1 q2 q3
        replace q0 := Kd.cell_heap GB.out.block q0
        clear q1 q2 q3 ql qi
        have fM10 : 1 ≤ x.f3.length := hM1
        have fM11 : (1 : Int) ≤ (x.f3.length : Int) := by omega
        have fM70 : x.f3.length ≤ 7 := hM7
        have fM71 : (x.f3.length : Int) ≤ 7 := by omega
        have fN0 : (x.f1 == 0) = true := beq_iff_eq.mpr hN
        have fN1 : (x.f1 != 0) = false := bne_eq_false_iff_eq.mpr hN
        have fS0 : x.f2.toList.isEmpty = true := by simp [hS]
        have fS1 : ¬ (1 : Int) ≤ (x.f2.size : Int) := by have := size_nil x.f2 hS; omega
        have fS2 : decide ((1 : Int) ≤ (x.f2.size : Int)) = false := decide_eq_false (by have := size_nil x.f2 hS; omega)
        have fK60 : ((rd_T24 x.f3 0).f0 != 6) = true := bne_iff_ne.mpr hK6
        have fK61 : ((rd_T24 x.f3 0).f0 == 6) = false := beq_eq_false_iff_ne.mpr hK6
        have fK90 : ((rd_T24 x.f3 0).f0 != 9) = false := bne_eq_false_iff_eq.mpr hK9
        have fK91 : ((rd_T24 x.f3 0).f0 == 9) = true := beq_iff_eq.mpr hK9
        clear hk hM1 hM7 hN hS hK6 hK9
        go_wp2_with fail
        go_ret
        exact ⟨ret_bool (by rw [HALL.out, HH.out]), GB.out⟩
      have HH := Aside0.mk (show mayHere x = decide (∀ k, k < x.f3.length → 1 ≤ k → isSc (rd_T24 x.f3 k).f0 = true) by unfold mayHere; rw [drop_all x.f3 (fun y => isSc y.f0)]; simp [hk, hM1, hM7, hN, hS, hK6, hK9])
      obtain ⟨ad, A3, c3, e, q0, q1, q2, q3, ql, qi⟩ := at_T24 HC.out 0 (by omega) (by omega)
      cases e
      simp only [show (0 : Int).toNat * 4 = 0 from rfl, Addr.add_zero'] at q0 q1 q2 q3
      replace q0 := Kd.cell_heap GB.out.block q0
      clear q1 q2 q3 ql qi
      have fM10 : 1 ≤ x.f3.length := hM1
      have fM11 : (1 : Int) ≤ (x.f3.length : Int) := by omega
      have fM70 : x.f3.length ≤ 7 := hM7
      have fM71 : (x.f3.length : Int) ≤ 7 := by omega
      have fN0 : (x.f1 == 0) = true := beq_iff_eq.mpr hN
      have fN1 : (x.f1 != 0) = false := bne_eq_false_iff_eq.mpr hN
      have fS0 : x.f2.toList.isEmpty = true := by simp [hS]
      have fS1 : ¬ (1 : Int) ≤ (x.f2.size : Int) := by have := size_nil x.f2 hS; omega
      have fS2 : decide ((1 : Int) ≤ (x.f2.size : Int)) = false := decide_eq_false (by have := size_nil x.f2 hS; omega)
      have fK60 : ((rd_T24 x.f3 0).f0 != 6) = true := bne_iff_ne.mpr hK6
      have fK61 : ((rd_T24 x.f3 0).f0 == 6) = false := beq_eq_false_iff_ne.mpr hK6
      have fK90 : ((rd_T24 x.f3 0).f0 != 9) = true := bne_iff_ne.mpr hK9
      have fK91 : ((rd_T24 x.f3 0).f0 == 9) = false := beq_eq_false_iff_ne.mpr hK9
      clear hk hM1 hM7 hN hS hK6 hK9
      have HG3 := Aside0.mk g3
      clear g3
      go_wp2_with fail
      go_loopw [7] (fun i wr => ∃ k : Nat, 1 ≤ k ∧ k ≤ x.f3.length ∧ i = .int .i64 k ∧ Hid (∀ j, j < k → 1 ≤ j → isSc (rd_T24 x.f3 j).f0 = true) ∧ Hid (wr.heap[w.heap.size]? = some (.cells #[.int .i64 x.f0, .int .i64 x.f1, .string x.f2, .slice (some ad) x.f3.length c] 24 (0, 0))) ∧ Hid (Below w.heap.size w wr)) (fun i _ => x.f3.length - (intOf i).toNat)
      case atStart => exact ⟨1, Nat.le_refl _, by omega, rfl, by intro j h2 h1; omega, HG3.out, GB.out⟩
      case round =>
        clear HG3 GB
        obtain ⟨k, hk1, hk, rfl, hq, g3, gb⟩ := hrel
        have c3_ := cell4 g3.out
        by_cases hlt : k < x.f3.length
        · obtain ⟨ad2, A3', c3', e', q0', q1', q2', q3', ql', qi'⟩ := at_T24 HC.out k (by omega) (by omega)
          rw [Int.toNat_natCast] at q0' q1' q2' q3'
          cases e'
          replace q0' := Kd.cell_heap gb.out.block q0'
          replace q1' := Kd.cell_heap gb.out.block q1'
          replace q2' := Kd.cell_heap gb.out.block q2'
          replace q3' := Kd.cell_heap gb.out.block q3'
          clear ql' qi'
          go_wp2_with fail
          refine (scalar_ref _ _ _ _ _ _ _).mono ?_
          rintro e w3 ⟨rfl, hb3⟩
          have GB3 := Aside0.mk (below_step gb.out hb3)
          have HG3 := Aside0.mk (blk_below g3.out hb3)
          clear hb3
          cases hqk : isSc (rd_T24 x.f3 k).f0 with
          | true =>
            have HQ := Aside0.mk hqk
            clear hqk
            go_wp2_with fail
            go_roundw
            case rel =>
              refine ⟨k + 1, by omega, by omega, by go_num, fun j hj h1 => ?_, HG3.out, GB3.out⟩
              rcases Nat.lt_succ_iff_lt_or_eq.1 hj with h | h
              · exact hq.out j h h1
              · rw [h]; exact HQ.out
            case measure => simp [intOf]; omega
          | false =>
            have HQ := Aside0.mk hqk
            clear hqk
            go_wp2_with fail
            go_ret
            exact ⟨ret_bool (by rw [HALL.out, HH.out]; exact (decide_eq_false (fun h => by have := h k hlt hk1; rw [HQ.out] at this; cases this)).symm), GB3.out⟩
        · obtain rfl : k = x.f3.length := by omega
          go_wp2_with fail
          go_ret
          exact ⟨ret_bool (by rw [HALL.out, HH.out]; exact (decide_eq_true hq.out).symm), gb⟩
    rename _ => hk9
    have hk : x.f0 ≠ 1 ∧ x.f0 ≠ 2 ∧ x.f0 ≠ 3 ∧ x.f0 ≠ 4 ∧ x.f0 ≠ 5 ∧ x.f0 ≠ 6 ∧ x.f0 ≠ 7 ∧ x.f0 ≠ 8 ∧ x.f0 ≠ 9 := by omega
    clear hk1 hk2 hk3 hk4 hk5 hk6 hk7 hk8 hk9
    have k1 : (x.f0 == 1) = false := beq_eq_false_iff_ne.mpr (by omega); have k2 : (x.f0 == 2) = false := beq_eq_false_iff_ne.mpr (by omega); have k3 : (x.f0 == 3) = false := beq_eq_false_iff_ne.mpr (by omega); have k4 : (x.f0 == 4) = false := beq_eq_false_iff_ne.mpr (by omega); have k5 : (x.f0 == 5) = false := beq_eq_false_iff_ne.mpr (by omega); have k6 : (x.f0 == 6) = false := beq_eq_false_iff_ne.mpr (by omega); have k7 : (x.f0 == 7) = false := beq_eq_false_iff_ne.mpr (by omega); have k8 : (x.f0 == 8) = false := beq_eq_false_iff_ne.mpr (by omega); have k9 : (x.f0 == 9) = false := beq_eq_false_iff_ne.mpr (by omega); 
    have HH := Aside0.mk (show mayHere x = false by unfold mayHere; simp [hk])
    clear hk 
    go_wp2_with fail
    go_ret
    exact ⟨ret_bool (by rw [HALL.out, HH.out]), GB.out⟩
end Go.Proofs.Ytmmgdifjiapbmaa.G
