/- The law IrPlain returns true. The argument reads as an instruction. -/
import Derived.Test.YtmiacdacebaagaaL1
set_option linter.unusedVariables false
set_option linter.unusedSimpArgs false
namespace Go.Proofs.Ytmiacdacebaagaa.G
open Go.RowKit Go.Proofs.Ytmiacdacebaagaa.B Go.Proofs.YtmiacdacebaagaaW.PrintWords Go.Proofs.YtmiacdacebaagaaW.PrintLast Go.Proofs.YtmiacdacebaagaaW.PrintMore
theorem wr_range (op : Int) (h : wr op = true) : 1 ≤ op ∧ op ≤ 20 := by
  simp [wr] at h
  omega
theorem rowS_out (op : Int) (h : ¬ (1 ≤ op ∧ op ≤ 20)) : rowS op = ⟨#[]⟩ := by unfold rowS; rw [if_pos (by omega)]
theorem readsNil (a0 a1 a2 a3 a4 a5 : Int) (s : ByteArray) (A : Option Addr) (c : Nat) (l : List Int) (h : ¬ (1 ≤ a0 ∧ a0 ≤ 20)) (w : World) (hC : Kd.C (Kd.int .i64) w A l.length l) (hl : l.length * 8 ≤ 140737488351232) :
    Calls Try.prog 7 #[.agg #[.int .i64 a0, .int .i64 a1, .int .i64 a2, .int .i64 a3, .int .i64 a4, .int .i64 a5, .string s, .slice A l.length c]] w fun e w' => ∃ A1 c1, e = .returned (.slice A1 0 c1) ∧ Below w.heap.size w w' :=
  (readsC a0 a1 a2 a3 a4 a5 s A c l w hC hl [] (by rw [rowS_out _ h]; rfl)).mono fun _ _ ⟨A1, c1, h1, _, _, h4⟩ => ⟨A1, c1, h1, h4⟩
set_option maxRecDepth 100000 in
set_option maxHeartbeats 8000000 in
theorem IrPlain_calls (a0 a1 a2 a3 a4 a5 : Int) (s : ByteArray) (A : Option Addr) (c : Nat) (l : List Int) (pc : Int) (hp0 : 0 ≤ pc) (hp1 : pc ≤ 65535) (w : World) (hC : Kd.C (Kd.int .i64) w A l.length l) (hl : l.length ≤ c) (hm : l.length * 8 ≤ 140737488351232) :
    Calls Try.prog 4 #[.agg #[.int .i64 a0, .int .i64 a1, .int .i64 a2, .int .i64 a3, .int .i64 a4, .int .i64 a5, .string s, .slice A l.length c], .int .u16 pc] w fun e w' => e = .returned (.bool true) ∧ Below w.heap.size w w' := by
  have HN0 := Aside0.mk hp0
  have HN1 := Aside0.mk hp1
  clear hp0 hp1
  have HC := Aside0.mk hC
  have HL := Aside0.mk hl
  have HM := Aside0.mk hm
  clear hC hl hm
  go_enter Try.func4, Try.ntmps4
  have HX := Aside0.mk (blk_new w (.cells #[.int .i64 a0, .int .i64 a1, .int .i64 a2, .int .i64 a3, .int .i64 a4, .int .i64 a5, .string s, .slice A l.length c] 24))
  have HB := Aside0.mk (below_alloc (Below.refl w.heap.size w) (.cells #[.int .i64 a0, .int .i64 a1, .int .i64 a2, .int .i64 a3, .int .i64 a4, .int .i64 a5, .string s, .slice A l.length c] 24))
  go_upto_region 1 with (fail)
  generalize w.alloc (.cells #[.int .i64 a0, .int .i64 a1, .int .i64 a2, .int .i64 a3, .int .i64 a4, .int .i64 a5, .string s, .slice A l.length c] 24) = W at HX HB ⊢
  go_upto_region 2 with (first | (go_at_call 5; refine (shown_calls _).mono ?_; rintro e w1 ⟨rfl, hb1⟩))
  have hx := cell8 (blk_below HX.out hb1)
  have hB := below_step HB.out hb1
  clear HX HB hb1
  have HK := Aside0.mk (show ∀ Wa Wb : World, Below Wa.heap.size Wa Wb → ((Wa.cell? ⟨w.heap.size, 0, none⟩ = some (.int .i64 a0) ∧ Wa.cell? ⟨w.heap.size, 1, none⟩ = some (.int .i64 a1) ∧ Wa.cell? ⟨w.heap.size, 2, none⟩ = some (.int .i64 a2) ∧ Wa.cell? ⟨w.heap.size, 3, none⟩ = some (.int .i64 a3) ∧ Wa.cell? ⟨w.heap.size, 4, none⟩ = some (.int .i64 a4) ∧ Wa.cell? ⟨w.heap.size, 5, none⟩ = some (.int .i64 a5) ∧ Wa.cell? ⟨w.heap.size, 6, none⟩ = some (.string s) ∧ Wa.cell? ⟨w.heap.size, 7, none⟩ = some (.slice A l.length c)) ∧ Below w.heap.size w Wa) → ((Wb.cell? ⟨w.heap.size, 0, none⟩ = some (.int .i64 a0) ∧ Wb.cell? ⟨w.heap.size, 1, none⟩ = some (.int .i64 a1) ∧ Wb.cell? ⟨w.heap.size, 2, none⟩ = some (.int .i64 a2) ∧ Wb.cell? ⟨w.heap.size, 3, none⟩ = some (.int .i64 a3) ∧ Wb.cell? ⟨w.heap.size, 4, none⟩ = some (.int .i64 a4) ∧ Wb.cell? ⟨w.heap.size, 5, none⟩ = some (.int .i64 a5) ∧ Wb.cell? ⟨w.heap.size, 6, none⟩ = some (.string s) ∧ Wb.cell? ⟨w.heap.size, 7, none⟩ = some (.slice A l.length c)) ∧ Below w.heap.size w Wb) from fun _ _ hb h => ⟨box8_step h.1 hb, below_step h.2 hb⟩)
  have HQ := Aside0.mk (show ∀ Wa : World, ((Wa.cell? ⟨w.heap.size, 0, none⟩ = some (.int .i64 a0) ∧ Wa.cell? ⟨w.heap.size, 1, none⟩ = some (.int .i64 a1) ∧ Wa.cell? ⟨w.heap.size, 2, none⟩ = some (.int .i64 a2) ∧ Wa.cell? ⟨w.heap.size, 3, none⟩ = some (.int .i64 a3) ∧ Wa.cell? ⟨w.heap.size, 4, none⟩ = some (.int .i64 a4) ∧ Wa.cell? ⟨w.heap.size, 5, none⟩ = some (.int .i64 a5) ∧ Wa.cell? ⟨w.heap.size, 6, none⟩ = some (.string s) ∧ Wa.cell? ⟨w.heap.size, 7, none⟩ = some (.slice A l.length c)) ∧ Below w.heap.size w Wa) → Below w.heap.size w Wa from fun _ h => h.2)
  have hn0 := HN0.out
  have hn1 := HN1.out
  have hwp : wrap64 (pc + 1) = pc + 1 := by unfold wrap64; omega
  have HWP := Aside0.mk hwp
  clear hwp
  by_cases e17 : a0 = 17
  case pos =>
    have k17 : (a0 != 17) = false := bne_eq_false_iff_eq.mpr e17
    have k18 : (a0 != 18) = true := bne_iff_ne.mpr (by omega)
    have k19 : (a0 != 19) = true := bne_iff_ne.mpr (by omega)
    have j19 : (a0 == 19) = false := beq_eq_false_iff_ne.mpr (by omega)
    have hv : wrV a0 a1 = -1 := by unfold wrV; rw [e17]; rfl
    have g1 : (1 : Int) ≤ a0 := by omega
    have g2 : a0 ≤ 20 := by omega
    obtain ⟨r, hr⟩ : ∃ r, ir_Next.f a0 a1 a2 a3 a4 a5 s l pc = some r := next_some a0 a1 a2 a3 a4 a5 s l pc
    have HNR := Aside0.mk hr
    clear hr e17
    go_upto_region 3 with (first | (go_at_call 9; refine (next_calls a0 a1 a2 a3 a4 a5 s A c l pc _ (Kd.C_below HC.out hB) HL.out r (HNR.out)).mono ?_; rintro e w2 ⟨A2, c2, rfl, hc2, hC2, hb2⟩))
    have HC2 := Aside0.mk hC2
    have HL2 := Aside0.mk hc2
    have hS := HK.out _ _ hb2 ⟨hx, hB⟩
    clear hC2 hc2 hx hB hb2
    go_upto_region 6 with (fail)
    go_upto_region 7 with (first | (go_at_call 11; refine (wrV_calls a0 a1 a2 a3 a4 a5 s A _ c _).mono ?_; rintro e w6 ⟨rfl, hb6⟩))
    replace hS := HK.out _ _ hb6 hS
    clear hb6
    go_wp2_with fail
    go_ret
    exact ⟨rfl, HQ.out _ hS⟩
  by_cases e18 : a0 = 18
  case pos =>
    have k17 : (a0 != 17) = true := bne_iff_ne.mpr (by omega)
    have k18 : (a0 != 18) = false := bne_eq_false_iff_eq.mpr e18
    have k19 : (a0 != 19) = true := bne_iff_ne.mpr (by omega)
    have j19 : (a0 == 19) = false := beq_eq_false_iff_ne.mpr (by omega)
    have hv : wrV a0 a1 = -1 := by unfold wrV; rw [e18]; rfl
    have g1 : (1 : Int) ≤ a0 := by omega
    have g2 : a0 ≤ 20 := by omega
    obtain ⟨r, hr⟩ : ∃ r, ir_Next.f a0 a1 a2 a3 a4 a5 s l pc = some r := next_some a0 a1 a2 a3 a4 a5 s l pc
    have HNR := Aside0.mk hr
    clear hr e18
    go_upto_region 3 with (first | (go_at_call 9; refine (next_calls a0 a1 a2 a3 a4 a5 s A c l pc _ (Kd.C_below HC.out hB) HL.out r (HNR.out)).mono ?_; rintro e w2 ⟨A2, c2, rfl, hc2, hC2, hb2⟩))
    have HC2 := Aside0.mk hC2
    have HL2 := Aside0.mk hc2
    have hS := HK.out _ _ hb2 ⟨hx, hB⟩
    clear hC2 hc2 hx hB hb2
    go_upto_region 6 with (fail)
    go_upto_region 7 with (first | (go_at_call 11; refine (wrV_calls a0 a1 a2 a3 a4 a5 s A _ c _).mono ?_; rintro e w6 ⟨rfl, hb6⟩))
    replace hS := HK.out _ _ hb6 hS
    clear hb6
    go_wp2_with fail
    go_ret
    exact ⟨rfl, HQ.out _ hS⟩
  by_cases e19 : a0 = 19
  case pos =>
    have k17 : (a0 != 17) = true := bne_iff_ne.mpr (by omega)
    have k18 : (a0 != 18) = true := bne_iff_ne.mpr (by omega)
    have k19 : (a0 != 19) = false := bne_eq_false_iff_eq.mpr e19
    have j19 : (a0 == 19) = true := beq_iff_eq.mpr e19
    have hv : wrV a0 a1 = -1 := by unfold wrV; rw [e19]; rfl
    have g1 : (1 : Int) ≤ a0 := by omega
    have g2 : a0 ≤ 20 := by omega
    obtain ⟨r, hr⟩ : ∃ r, ir_Next.f a0 a1 a2 a3 a4 a5 s l pc = some r ∧ r.length = 0 := ⟨[], by unfold ir_Next.f; rw [if_pos e19], rfl⟩
    have HNR := Aside0.mk hr
    clear hr e19
    go_upto_region 3 with (first | (go_at_call 9; refine (next_calls a0 a1 a2 a3 a4 a5 s A c l pc _ (Kd.C_below HC.out hB) HL.out r (HNR.out.1)).mono ?_; rintro e w2 ⟨A2, c2, rfl, hc2, hC2, hb2⟩))
    have HC2 := Aside0.mk hC2
    have HL2 := Aside0.mk hc2
    have hS := HK.out _ _ hb2 ⟨hx, hB⟩
    clear hC2 hc2 hx hB hb2
    have hr0 : r.length = 0 := HNR.out.2
    go_upto_region 6 with (fail)
    go_upto_region 7 with (first | (go_at_call 11; refine (wrV_calls a0 a1 a2 a3 a4 a5 s A _ c _).mono ?_; rintro e w6 ⟨rfl, hb6⟩))
    replace hS := HK.out _ _ hb6 hS
    clear hb6
    go_wp2_with fail
    go_ret
    exact ⟨rfl, HQ.out _ hS⟩
  have k17 : (a0 != 17) = true := bne_iff_ne.mpr e17
  have k18 : (a0 != 18) = true := bne_iff_ne.mpr e18
  have k19 : (a0 != 19) = true := bne_iff_ne.mpr e19
  have j19 : (a0 == 19) = false := beq_eq_false_iff_ne.mpr e19
  have hr : ir_Next.f a0 a1 a2 a3 a4 a5 s l pc = some [pc + 1] := by
    unfold ir_Next.f
    rw [if_neg e19, if_neg e17, if_neg e18, HWP.out]
  have HNR := Aside0.mk hr
  clear hr e17 e18 e19
  go_upto_region 3 with (first | (go_at_call 9; refine (next_calls a0 a1 a2 a3 a4 a5 s A c l pc _ (Kd.C_below HC.out hB) HL.out [pc + 1] (HNR.out)).mono ?_; rintro e w2 ⟨A2, c2, rfl, hc2, hC2, hb2⟩))
  have HC2 := Aside0.mk hC2
  have HL2 := Aside0.mk hc2
  have hS := HK.out _ _ hb2 ⟨hx, hB⟩
  clear hC2 hc2 hx hB hb2
  go_upto_region 4 with (fail)
  go_upto_region 6 with (first | (go_at_call 6; refine (ints_calls [pc + 1] A2 _ c2 1 _ (Kd.C_below HC2.out (below_alloc (Below.refl _ _) _)) HL2.out (C_lit [pc + 1] (blk_new w2 (.cells (nums .i64 [pc + 1]).toArray 3)) (by simp)) (Nat.le_refl _)).mono ?_; rintro e w5 ⟨rfl, hb5⟩; replace hS := HK.out _ _ (below_step (below_alloc (Below.refl w2.heap.size w2) (.cells #[.int .i64 (pc + 1)] 3)) hb5) hS; clear hb5))
  clear HC2 HL2
  by_cases g1 : 1 ≤ a0
  · by_cases g2 : a0 ≤ 20
    · cases hw : wr a0 with
      | true =>
        by_cases e1 : a1 = -1
        case pos =>
          have hv : wrV a0 a1 = -1 := by unfold wrV; rw [hw, e1]; rfl
          clear hw e1
          go_upto_region 7 with (first | (go_at_call 11; refine (wrV_calls a0 a1 a2 a3 a4 a5 s A _ c _).mono ?_; rintro e w6 ⟨rfl, hb6⟩))
          replace hS := HK.out _ _ hb6 hS
          clear hb6
          go_wp2_with fail
          go_ret
          exact ⟨rfl, HQ.out _ hS⟩
        have hv : wrV a0 a1 = a1 := by unfold wrV; rw [hw]; rfl
        have e1b : (a1 == -1) = false := beq_eq_false_iff_ne.mpr e1
        clear hw e1
        go_upto_region 7 with (first | (go_at_call 11; refine (wrV_calls a0 a1 a2 a3 a4 a5 s A _ c _).mono ?_; rintro e w6 ⟨rfl, hb6⟩))
        replace hS := HK.out _ _ hb6 hS
        clear hb6
        go_wp2_with fail
        go_ret
        exact ⟨rfl, HQ.out _ hS⟩
      | false =>
        have hv : wrV a0 a1 = -1 := by unfold wrV; rw [hw]; rfl
        clear hw
        go_upto_region 7 with (first | (go_at_call 11; refine (wrV_calls a0 a1 a2 a3 a4 a5 s A _ c _).mono ?_; rintro e w6 ⟨rfl, hb6⟩))
        replace hS := HK.out _ _ hb6 hS
        clear hb6
        go_wp2_with fail
        go_ret
        exact ⟨rfl, HQ.out _ hS⟩
    · have HOUT := Aside0.mk (show ¬ (1 ≤ a0 ∧ a0 ≤ 20) by omega)
      have hv : wrV a0 a1 = -1 := by
        unfold wrV
        cases hw : wr a0 with
        | true => exact absurd (wr_range a0 hw) HOUT.out
        | false => rfl
      go_upto_region 7 with (first | (go_at_call 11; refine (wrV_calls a0 a1 a2 a3 a4 a5 s A _ c _).mono ?_; rintro e w6 ⟨rfl, hb6⟩))
      replace hS := HK.out _ _ hb6 hS
      clear hb6
      go_wp2_with fail
      refine (readsNil a0 a1 a2 a3 a4 a5 s A c l HOUT.out _ (Kd.C_below HC.out (HQ.out _ hS)) HM.out).mono ?_
      rintro e w7 ⟨A7, c7, rfl, hb7⟩
      replace hS := HK.out _ _ hb7 hS
      clear hb7
      go_wp2_with fail
      go_ret
      exact ⟨rfl, HQ.out _ hS⟩
  · have HOUT := Aside0.mk (show ¬ (1 ≤ a0 ∧ a0 ≤ 20) by omega)
    have hv : wrV a0 a1 = -1 := by
      unfold wrV
      cases hw : wr a0 with
      | true => exact absurd (wr_range a0 hw) HOUT.out
      | false => rfl
    go_upto_region 7 with (first | (go_at_call 11; refine (wrV_calls a0 a1 a2 a3 a4 a5 s A _ c _).mono ?_; rintro e w6 ⟨rfl, hb6⟩))
    replace hS := HK.out _ _ hb6 hS
    clear hb6
    go_wp2_with fail
    refine (readsNil a0 a1 a2 a3 a4 a5 s A c l HOUT.out _ (Kd.C_below HC.out (HQ.out _ hS)) HM.out).mono ?_
    rintro e w7 ⟨A7, c7, rfl, hb7⟩
    replace hS := HK.out _ _ hb7 hS
    clear hb7
    go_wp2_with fail
    go_ret
    exact ⟨rfl, HQ.out _ hS⟩
end Go.Proofs.Ytmiacdacebaagaa.G
