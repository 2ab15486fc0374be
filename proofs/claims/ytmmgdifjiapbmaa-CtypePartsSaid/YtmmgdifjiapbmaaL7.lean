/- The law CtypeParts returns true. The arguments read as types. -/
import Derived.Test.YtmmgdifjiapbmaaHl
import Derived.Test.YtmmgdifjiapbmaaHm
import Derived.Test.YtmmgdifjiapbmaaHn
import Derived.Test.YtmmgdifjiapbmaaHj
import Derived.Test.YtmmgdifjiapbmaaL1
set_option linter.unusedVariables false
set_option linter.unusedSimpArgs false
namespace Go.Proofs.Ytmmgdifjiapbmaa.G
open Go.RowKit Go.Proofs.Ytmmgdifjiapbmaa.B Go.Proofs.YtmmgdifjiapbmaaW.PrintWords Go.Proofs.YtmmgdifjiapbmaaW.PrintLast Go.Proofs.YtmmgdifjiapbmaaW.PrintMore
theorem may_arr (n : Int) (x : S24) (hx : mayT 59 x = true) : mayT 60 ⟨6, n, ⟨#[]⟩, [x]⟩ = (decide (1 ≤ n) && decide (n ≤ 4096) && !decide (x.f0 = 1) && !decide (x.f0 = 9)) := by
  rw [mayT, decide_eq_true (fun k hk => by
    obtain rfl : k = 0 := by simpa using hk
    exact hx), Bool.true_and]
  simp [mayHere, rd_T24]
theorem mayP_calls (x : S24) (A : Option Addr) (c : Nat) (w : World) (hA : Kd.C k24 w A 1 [x]) (hc : 1 ≤ c) :
    Calls Try.prog 20 #[.agg #[Value.int .i64 5, Value.int .i64 0, Value.string ⟨#[]⟩, Value.slice A 1 c]] w fun e w' => e = .returned (.bool (mayT 60 (mkP x))) ∧ Below w.heap.size w w' :=
  may_calls (mkP x) A c w hA hc
theorem mayA_calls (n : Int) (x : S24) (A : Option Addr) (c : Nat) (w : World) (hA : Kd.C k24 w A 1 [x]) (hc : 1 ≤ c) :
    Calls Try.prog 20 #[.agg #[.int .i64 6, .int .i64 n, .string ⟨#[]⟩, .slice A 1 c]] w fun e w' => e = .returned (.bool (mayT 60 ⟨6, n, ⟨#[]⟩, [x]⟩)) ∧ Below w.heap.size w w' :=
  may_calls ⟨6, n, ⟨#[]⟩, [x]⟩ A c w hA hc
set_option maxRecDepth 100000 in
set_option maxHeartbeats 8000000 in
theorem CtypeParts_calls (x : S24) (A : Option Addr) (c : Nat) (n : Int) (w : World) (hCx : Kd.C k24 w A x.f3.length x.f3) (hlx : x.f3.length ≤ c) (hn0 : 0 ≤ n) (hn1 : n ≤ 65535) :
    Calls Try.prog 8 #[.agg #[.int .i64 x.f0, .int .i64 x.f1, .string x.f2, .slice A x.f3.length c], .int .u16 n] w fun e w' => e = .returned (.bool true) ∧ Below w.heap.size w w' := by
  have HCx := Aside0.mk hCx
  have HLx := Aside0.mk hlx
  clear hCx hlx
  go_enter Try.func8, Try.ntmps8
  go_wp2_with fail
  have Gx := Aside0.mk (blk_at_ (W := w) (n := w.heap.size) (Obj.cells #[.int .i64 x.f0, .int .i64 x.f1, .string x.f2, .slice A x.f3.length c] 24) (by simp))
  have GB := Aside0.mk (show Below w.heap.size w (w.alloc (Obj.cells #[.int .i64 x.f0, .int .i64 x.f1, .string x.f2, .slice A x.f3.length c] 24)) from ((Below.refl _ _).alloc (by simp) _))
  generalize (w.alloc (Obj.cells #[.int .i64 x.f0, .int .i64 x.f1, .string x.f2, .slice A x.f3.length c] 24)) = W at Gx GB ⊢
  refine (shown_calls W).mono ?_
  rintro e w1 ⟨rfl, hb1⟩
  have hSx := cell4 (blk_below Gx.out hb1)
  have hSB := below_step GB.out hb1
  have G1x := Aside0.mk (blk_below Gx.out hb1)
  clear Gx GB hb1
  have HN0 := Aside0.mk hn0
  have HN1 := Aside0.mk hn1
  clear hn0 hn1
  have HSB := Aside0.mk hSB
  cases hm : mayT 60 x with
  | false =>
    go_wp2_with fail
    refine (may_calls x A c _ (Kd.C_below HCx.out HSB.out) HLx.out).mono ?_
    rintro e w2 ⟨rfl, hb2⟩
    go_wp2_with fail
    go_ret
    exact ⟨rfl, below_step HSB.out hb2⟩
  | true =>
    go_upto_region 4 with (first | (go_at_call 20; refine (may_calls x A c _ (Kd.C_below HCx.out HSB.out) HLx.out).mono ?_; rintro e w2 ⟨rfl, hb2⟩))
    have G2x := Aside0.mk (blk_below G1x.out hb2)
    have G2B := Aside0.mk (below_step HSB.out hb2)
    clear hSx hSB HSB G1x hb2
    go_upto_block 0 with (fail)
    go_cut [] (fun wc => Hid (wc.heap[w.heap.size]? = some (.cells #[.int .i64 x.f0, .int .i64 x.f1, .string x.f2, .slice A x.f3.length c] 24 (0, 0))) ∧ Hid (Below w.heap.size w wc))
    case first =>
      have HALL := Aside0.mk (show ∀ k : Nat, k < x.f3.length → mayT 60 (rd_T24 x.f3 k) = true from fun k hk => by
        rw [mayT, Bool.and_eq_true, decide_eq_true_eq] at hm
        exact mayT_mono 59 _ (hm.1 k hk))
      clear hm
      have hmx := (HCx.out).2.1
      go_wp2_with fail
      go_loopw [6] (fun i wr => ∃ k : Nat, k ≤ x.f3.length ∧ i = .int .i64 k ∧ Hid (wr.heap[w.heap.size]? = some (.cells #[.int .i64 x.f0, .int .i64 x.f1, .string x.f2, .slice A x.f3.length c] 24 (0, 0))) ∧ Hid (Below w.heap.size w wr)) (fun i _ => x.f3.length - (intOf i).toNat)
      case atStart => exact ⟨0, Nat.zero_le _, rfl, G2x.out, G2B.out⟩
      case round =>
        clear G2x G2B
        obtain ⟨k, hk, rfl, g3, gb⟩ := hrel
        have c3_ := cell4 g3.out
        by_cases hlt : k < x.f3.length
        · obtain ⟨ad, A3, c3, e, hx0, hx1, hx2, hx3, hl, hi⟩ := at_T24 HCx.out k (by omega) (by omega)
          rw [Int.toNat_natCast] at hx0 hx1 hx2 hx3
          replace hx0 := Kd.cell_heap gb.out.block hx0
          replace hx1 := Kd.cell_heap gb.out.block hx1
          replace hx2 := Kd.cell_heap gb.out.block hx2
          replace hx3 := Kd.cell_heap gb.out.block hx3
          cases e
          have HI := Aside0.mk hi
          have HL2 := Aside0.mk hl
          clear hi hl
          have hmk := HALL.out k hlt
          go_wp2_with fail
          refine (may_calls (rd_T24 x.f3 k) _ _ wr (Kd.C_below HI.out gb.out) HL2.out).mono ?_
          rintro e w2 ⟨rfl, hb2⟩
          have HB2 := Aside0.mk hb2
          clear hb2
          go_wp2_with fail
          go_roundw
          case rel => exact ⟨k + 1, by omega, by go_num, blk_below g3.out HB2.out, below_step gb.out HB2.out⟩
          case measure => simp [intOf]; omega
        · obtain rfl : k = x.f3.length := by omega
          go_wp2_with fail
          go_meet
          case rel => exact ⟨g3, gb⟩
    case rest =>
      obtain ⟨g3_, gb_⟩ := hcut
      have G3 := Aside0.mk g3_.out
      have GB := Aside0.mk gb_.out
      have c3_ := cell4 G3.out
      clear g3_ gb_ G2x G2B
      have HM := Aside0.mk hm
      clear hm
      go_upto_region 10 with (fail)
      have hBP : Below wc.heap.size wc ((wc.alloc (Obj.cells #[.int .i64 x.f0, .int .i64 x.f1, .string x.f2, .slice A x.f3.length c] 24)).alloc (Obj.cells #[Value.int .i64 5, Value.int .i64 0, Value.string ⟨#[]⟩, Value.slice (some ⟨wc.heap.size, 0, none⟩) 1 1] 24)) := below_alloc (below_alloc (Below.refl _ _) _) _
      have G5t := Aside0.mk (blk_at_ (W := (wc.alloc (Obj.cells #[.int .i64 x.f0, .int .i64 x.f1, .string x.f2, .slice A x.f3.length c] 24))) (n := wc.heap.size + 1) (Obj.cells #[Value.int .i64 5, Value.int .i64 0, Value.string ⟨#[]⟩, Value.slice (some ⟨wc.heap.size, 0, none⟩) 1 1] 24) (by simp))
      have G5x := Aside0.mk (blk_below G3.out hBP)
      have HCp := Aside0.mk (C_one (blk_alloc (blk_new wc (Obj.cells #[.int .i64 x.f0, .int .i64 x.f1, .string x.f2, .slice A x.f3.length c] 24)) (Obj.cells #[Value.int .i64 5, Value.int .i64 0, Value.string ⟨#[]⟩, Value.slice (some ⟨wc.heap.size, 0, none⟩) 1 1] 24)) HLx.out (Kd.C_below HCx.out (below_step GB.out hBP)))
      have G5B := Aside0.mk (below_step GB.out hBP)
      clear c3_ G3 GB hBP
      generalize ((wc.alloc (Obj.cells #[.int .i64 x.f0, .int .i64 x.f1, .string x.f2, .slice A x.f3.length c] 24)).alloc (Obj.cells #[Value.int .i64 5, Value.int .i64 0, Value.string ⟨#[]⟩, Value.slice (some ⟨wc.heap.size, 0, none⟩) 1 1] 24)) = W5 at G5t G5x HCp G5B ⊢
      generalize wc.heap.size = g5 at G5t HCp ⊢
      have c5t := cell4 G5t.out
      cases hp : mayT 60 (mkP x) with
      | false =>
        have hpp : mayT 60 (mkP (mkP x)) = false := by
          rw [mayT_mkP]
          cases h : mayT 59 (mkP x) with
          | false => rfl
          | true => rw [mayT_mono 59 _ h] at hp; cases hp
        go_upto_region 11 with (first | (go_at_call 20; refine (mayP_calls x _ _ _ HCp.out (Nat.le_refl _)).mono ?_; rintro e w6 ⟨rfl, hb6⟩))
        have G6t := Aside0.mk (blk_below G5t.out hb6)
        have HCq := Aside0.mk (Kd.C_below HCp.out hb6)
        have G6B := Aside0.mk (below_step G5B.out hb6)
        clear c5t G5t G5x HCp G5B hb6 hp
        have c6t := cell4 G6t.out
        go_wp2_with fail
        refine (mayP_calls (mkP x) _ _ _ (C_one (x := mkP x) (blk_new w6 (Obj.cells #[Value.int .i64 5, Value.int .i64 0, Value.string ⟨#[]⟩, Value.slice (some ⟨g5, 0, none⟩) 1 1] 24)) (Nat.le_refl _) (Kd.C_below HCq.out (below_alloc (Below.refl _ _) _))) (Nat.le_refl _)).mono ?_
        rintro e w7 ⟨rfl, hb7⟩
        have G7B := Aside0.mk (below_step (below_alloc G6B.out (Obj.cells #[Value.int .i64 5, Value.int .i64 0, Value.string ⟨#[]⟩, Value.slice (some ⟨g5, 0, none⟩) 1 1] 24)) hb7)
        clear c6t G6t HCq G6B hb7
        go_wp2_with fail
        go_ret
        exact ⟨rfl, G7B.out⟩
      | true =>
        have h59 : mayT 59 x = true := by rw [mayT_mkP] at hp; exact hp
        have hn0 := HN0.out
        have hn1 := HN1.out
        have HV := Aside0.mk (may_arr n x h59)
        have c5x := cell4 G5x.out
        clear h59
        go_upto_region 12 with (first | (go_at_call 20; refine (mayP_calls x _ _ _ HCp.out (Nat.le_refl _)).mono ?_; rintro e w6 ⟨rfl, hb6⟩))
        have c6x := cell4 (blk_below G5x.out hb6)
        go_upto_region 13 with (fail)
        have hBP : Below w6.heap.size w6 ((w6.alloc (Obj.cells #[.int .i64 x.f0, .int .i64 x.f1, .string x.f2, .slice A x.f3.length c] 24)).alloc (Obj.cells #[Value.int .i64 6, Value.int .i64 n, Value.string ⟨#[]⟩, Value.slice (some ⟨w6.heap.size, 0, none⟩) 1 1] 24)) := below_alloc (below_alloc (Below.refl _ _) _) _
        have G7t := Aside0.mk (blk_at_ (W := (w6.alloc (Obj.cells #[.int .i64 x.f0, .int .i64 x.f1, .string x.f2, .slice A x.f3.length c] 24))) (n := w6.heap.size + 1) (Obj.cells #[Value.int .i64 6, Value.int .i64 n, Value.string ⟨#[]⟩, Value.slice (some ⟨w6.heap.size, 0, none⟩) 1 1] 24) (by simp))
        have G7x := Aside0.mk (blk_below (blk_below G5x.out hb6) hBP)
        have HCq := Aside0.mk (C_one (blk_alloc (blk_new w6 (Obj.cells #[.int .i64 x.f0, .int .i64 x.f1, .string x.f2, .slice A x.f3.length c] 24)) (Obj.cells #[Value.int .i64 6, Value.int .i64 n, Value.string ⟨#[]⟩, Value.slice (some ⟨w6.heap.size, 0, none⟩) 1 1] 24)) HLx.out (Kd.C_below HCx.out (below_step (below_step G5B.out hb6) hBP)))
        have G7B := Aside0.mk (below_step (below_step G5B.out hb6) hBP)
        clear c5t c5x c6x G5t G5x HCp G5B hb6 hp hBP
        generalize ((w6.alloc (Obj.cells #[.int .i64 x.f0, .int .i64 x.f1, .string x.f2, .slice A x.f3.length c] 24)).alloc (Obj.cells #[Value.int .i64 6, Value.int .i64 n, Value.string ⟨#[]⟩, Value.slice (some ⟨w6.heap.size, 0, none⟩) 1 1] 24)) = W7 at G7t G7x HCq G7B ⊢
        generalize w6.heap.size = g7 at G7t HCq ⊢
        have c7t := cell4 G7t.out
        by_cases h1 : 1 ≤ n
        case neg =>
          have hv : mayT 60 ⟨6, n, ⟨#[]⟩, [x]⟩ = false := by rw [HV.out]; simp [h1]
          clear HV
          go_wp2_with fail
          refine (mayA_calls n x _ _ _ HCq.out (Nat.le_refl _)).mono ?_
          rintro e w8 ⟨rfl, hb8⟩
          have c8x := cell4 (blk_below G7x.out hb8)
          have G8B := Aside0.mk (below_step G7B.out hb8)
          clear c7t G7t G7x HCq G7B hb8
          go_wp2_with fail
          go_ret
          exact ⟨rfl, G8B.out⟩
        by_cases h2 : n ≤ 4096
        case neg =>
          have hv : mayT 60 ⟨6, n, ⟨#[]⟩, [x]⟩ = false := by rw [HV.out]; simp [h2]
          clear HV
          go_wp2_with fail
          refine (mayA_calls n x _ _ _ HCq.out (Nat.le_refl _)).mono ?_
          rintro e w8 ⟨rfl, hb8⟩
          have c8x := cell4 (blk_below G7x.out hb8)
          have G8B := Aside0.mk (below_step G7B.out hb8)
          clear c7t G7t G7x HCq G7B hb8
          go_wp2_with fail
          go_ret
          exact ⟨rfl, G8B.out⟩
        by_cases e1 : x.f0 = 1
        case pos =>
          have hv : mayT 60 ⟨6, n, ⟨#[]⟩, [x]⟩ = false := by rw [HV.out]; simp [e1]
          have k1 : (x.f0 != 1) = false := bne_eq_false_iff_eq.mpr e1
          clear e1
          clear HV
          go_wp2_with fail
          refine (mayA_calls n x _ _ _ HCq.out (Nat.le_refl _)).mono ?_
          rintro e w8 ⟨rfl, hb8⟩
          have c8x := cell4 (blk_below G7x.out hb8)
          have G8B := Aside0.mk (below_step G7B.out hb8)
          clear c7t G7t G7x HCq G7B hb8
          go_wp2_with fail
          go_ret
          exact ⟨rfl, G8B.out⟩
        have k1 : (x.f0 != 1) = true := bne_iff_ne.mpr e1
        by_cases e9 : x.f0 = 9
        case pos =>
          have hv : mayT 60 ⟨6, n, ⟨#[]⟩, [x]⟩ = false := by rw [HV.out]; simp [e9]
          have k9 : (x.f0 != 9) = false := bne_eq_false_iff_eq.mpr e9
          clear e1 e9
          clear HV
          go_wp2_with fail
          refine (mayA_calls n x _ _ _ HCq.out (Nat.le_refl _)).mono ?_
          rintro e w8 ⟨rfl, hb8⟩
          have c8x := cell4 (blk_below G7x.out hb8)
          have G8B := Aside0.mk (below_step G7B.out hb8)
          clear c7t G7t G7x HCq G7B hb8
          go_wp2_with fail
          go_ret
          exact ⟨rfl, G8B.out⟩
        have hv : mayT 60 ⟨6, n, ⟨#[]⟩, [x]⟩ = true := by rw [HV.out]; simp [h1, h2, e1, e9]
        have k9 : (x.f0 != 9) = true := bne_iff_ne.mpr e9
        clear e1 e9
        clear HV
        go_wp2_with fail
        refine (mayA_calls n x _ _ _ HCq.out (Nat.le_refl _)).mono ?_
        rintro e w8 ⟨rfl, hb8⟩
        have c8x := cell4 (blk_below G7x.out hb8)
        have G8B := Aside0.mk (below_step G7B.out hb8)
        clear c7t G7t G7x HCq G7B hb8
        go_wp2_with fail
        go_ret
        exact ⟨rfl, G8B.out⟩
end Go.Proofs.Ytmmgdifjiapbmaa.G
