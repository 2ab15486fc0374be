/- calls.Rings tells the functions in rings, given what scc.Groups tells. Its contract names its state. -/
import Derived.Test.YtjbgealnnlmchaaRc
set_option linter.unusedVariables false
set_option linter.unusedSimpArgs false
namespace Go.Proofs.Ytjbgealnnlmchaa.G
open Go.RowKit Go.Proofs.Ytjbgealnnlmchaa.B Go.Proofs.YtjbgealnnlmchaaW.PrintWords Go.Proofs.YtjbgealnnlmchaaW.PrintLast Go.Proofs.YtjbgealnnlmchaaW.PrintMore

theorem ints_getD (r : List Nat) (i : Nat) : (ints r).getD i 0 = ((r.getD i 0 : Nat) : Int) := by
  unfold ints
  rw [List.getD_eq_getElem?_getD, List.getD_eq_getElem?_getD, List.getElem?_map]
  cases r[i]? <;> rfl
theorem ints_app (r : List Nat) (x : Nat) : ints (r ++ [x]) = ints r ++ [(x : Int)] := by unfold ints; rw [List.map_append]; rfl
set_option maxRecDepth 100000 in
set_option maxHeartbeats 4000000 in
theorem rings_h (k : Nat) (mn : Int) (v : Value) (l : List S41) (A : Option Addr) (c : Nat) (w : World) (hp : Prg w v k mn) (h : Edg w A l c) (hk : k ≤ 20000) (r : List Nat) (hr : GrpOk k l r)
    (hgc : ∀ W, Edg W A l c → Calls Try.prog 24 #[.int .i64 (k : Int), .slice A l.length c] W fun e w' => ∃ A c, e = .returned (.slice A (ints r).length c) ∧ Nts w' A (ints r) c ∧ Below W.heap.size W w') (t : List Int) (g : List Nat) (hg : RgOk k l g) (ht : t = ints g) :
    Calls Try.prog 16 #[v, .agg #[.slice none 0 0, .slice none 0 0, .slice A l.length c, .int .i64 0]] w fun e w' => ∃ A c, e = .returned (.slice A t.length c) ∧ Nts w' A t c ∧ Below w.heap.size w w' := by
  obtain ⟨A0, c0, l0, A1, c1, l1, rfl, _, _, h4, _, _⟩ := hp
  have HE := Aside0.mk h
  have HK := Aside0.mk hk
  have HG := Aside0.mk hr
  have HGC := Aside0.mk hgc
  have HRG := Aside0.mk hg
  have HT := Aside0.mk ht
  have H4 := Aside0.mk h4
  clear h hk hr hgc hg ht h4
  go_enter Try.func16, Try.ntmps16
  go_upto_region 1 with (fail)
  have hb0 := blk_new w (.cells #[.slice A0 l0.length c0, .slice A1 l1.length c1, .int .i64 mn] 32)
  have hb1 := blk_alloc hb0 (.cells #[.slice none 0 0, .slice none 0 0, .slice A l.length c, .int .i64 0] 28)
  have hb2 := blk_at_ (W := w.alloc (.cells #[.slice A0 l0.length c0, .slice A1 l1.length c1, .int .i64 mn] 32)) (n := w.heap.size + 1) (.cells #[.slice none 0 0, .slice none 0 0, .slice A l.length c, .int .i64 0] 28) (by simp)
  have HB := Aside0.mk (below_alloc (below_alloc (Below.refl w.heap.size w) (.cells #[.slice A0 l0.length c0, .slice A1 l1.length c1, .int .i64 mn] 32)) (.cells #[.slice none 0 0, .slice none 0 0, .slice A l.length c, .int .i64 0] 28))
  have HX0 := Aside0.mk hb1
  have HX1 := Aside0.mk hb2
  clear hb0 hb1 hb2
  generalize (w.alloc (.cells #[.slice A0 l0.length c0, .slice A1 l1.length c1, .int .i64 mn] 32)).alloc (.cells #[.slice none 0 0, .slice none 0 0, .slice A l.length c, .int .i64 0] 28) = W1 at HX0 HX1 HB ⊢
  generalize w.heap.size + 1 = z1 at HX1 ⊢
  generalize w.heap.size = z0 at HX0 ⊢
  have q0 : W1.cell? ⟨z0, 1, none⟩ = some (.slice A1 k c1) := by rw [← H4.out]; exact (blk_cell HX0.out 1).trans rfl
  have q2 : W1.cell? ⟨z1, 2, none⟩ = some (.slice A l.length c) := (blk_cell HX1.out 2).trans rfl
  go_upto_region 2 with (go_at_call 24; with_reducible refine (HGC.out _ (HE.out.below HB.out)).mono ?_; rintro e w2 ⟨A2, c2, rfl, h2, hb2⟩; have HA2 := Aside0.mk h2; have HB2 := Aside0.mk hb2; clear h2 hb2)
  clear q0 q2
  have q0 : w2.cell? ⟨z0, 1, none⟩ = some (.slice A1 k c1) := by rw [← H4.out]; exact (blk_cell (blk_below HX0.out HB2.out) 1).trans rfl
  have HX2 := Aside0.mk (blk_below HX1.out HB2.out)
  have HEW := Aside0.mk ((HE.out.below HB.out).below HB2.out)
  have hrl : (ints r).length = k := by rw [ints_len]; exact HG.out.1
  rw [hrl]
  go_upto_block 0 with (fail)
  clear q0
  go_wp2_with fail
  go_loopw [6, 21] (fun v6 iv wx => ∃ (vv : Value) (i : Nat) (g : List Nat), i ≤ k ∧ vv = v6 ∧ iv = .int .i64 (i : Int) ∧ Hid (RgI k l i g) ∧ Hid (Kd.R (Kd.int .i64) 3 wx w2.heap.size (fun _ => True) vv (ints g)) ∧ Hid (Below w2.heap.size w2 wx)) (fun _ iv _ => k - (intOf iv).toNat)
  case atStart => exact ⟨_, 0, [], Nat.zero_le _, rfl, rfl, RgI.nil k l, Kd.R_nil _ _ _ _ _, Below.refl _ _⟩
  case round =>
    obtain ⟨vv, i, gi, hi, rfl, rfl, h1, h2, h3⟩ := hrel
    have HGI := Aside0.mk (show RgI k l i gi from h1)
    have HR := Aside0.mk (show Kd.R (Kd.int .i64) 3 wr w2.heap.size (fun _ => True) vv (ints gi) from h2)
    have HW := Aside0.mk (show Below w2.heap.size w2 wr from h3)
    clear h1 h2 h3
    by_cases hlt : (i : Int) < (k : Int)
    · have hi1 : i < k := by omega
      have hi0 : (0 : Int) ≤ (i : Int) := Int.natCast_nonneg i
      have hwi : IntKind.i64.wrap ((i : Int) + 1) = (i : Int) + 1 := by have := HK.out; rw [IntKind.wrap_i64]; omega
      have HWI := Aside0.mk hwi
      clear hwi
      go_upto_region 7 with (fail)
      have hbx := blk_new wr (.cells #[.int .i64 (i : Int)] 3)
      have HBX := Aside0.mk hbx
      replace HR := Aside0.mk (Kd.R_alloc HR.out (.cells #[.int .i64 (i : Int)] 3))
      replace HW := Aside0.mk (below_alloc HW.out (.cells #[.int .i64 (i : Int)] 3))
      clear hbx
      generalize wr.alloc (.cells #[.int .i64 (i : Int)] 3) = W5 at HBX HR HW ⊢
      generalize wr.heap.size = gb at HBX ⊢
      go_upto_block 2 with (fail)
      go_wp2_with fail
      go_loopw [8, 26] (fun v8 jv wx => ∃ (a : Bool) (j : Nat), j ≤ k ∧ v8 = .bool a ∧ jv = .int .i64 (j : Int) ∧ Hid (a = aloneS r i j) ∧ wx = W5) (fun _ jv _ => k - (intOf jv).toNat)
      case atStart => exact ⟨true, 0, Nat.zero_le _, rfl, rfl, rfl, rfl⟩
      case round =>
        obtain ⟨a, j, hj, rfl, rfl, h1, rfl⟩ := hrel
        have HAL := Aside0.mk (show a = aloneS r i j from h1)
        clear h1
        by_cases hltj : (j : Int) < (k : Int)
        · have hj1 : j < k := by omega
          have hj0 : (0 : Int) ≤ (j : Int) := Int.natCast_nonneg j
          have hwj : IntKind.i64.wrap ((j : Int) + 1) = (j : Int) + 1 := by have := HK.out; rw [IntKind.wrap_i64]; omega
          have hst : aloneS r i (j + 1) = (a && (decide (j = i) || !decide (r.getD j 0 = r.getD i 0))) := by rw [HAL.out]; rfl
          have c7 : wr.cell? ⟨gb, 0, none⟩ = some (.int .i64 (i : Int)) := (blk_cell HBX.out 0).trans rfl
          obtain ⟨ad2, e2, g1⟩ := (HA2.out.below HW.out).at_ j (by rw [hrl]; exact hj1)
          obtain ⟨ad2', e2', g2⟩ := (HA2.out.below HW.out).at_ i (by rw [hrl]; exact hi1)
          obtain rfl : ad2 = ad2' := by rw [e2] at e2'; injection e2'
          rw [ints_getD] at g1 g2
          generalize r.getD j 0 = rj at g1 hst
          generalize r.getD i 0 = ri at g2 hst
          clear e2'
          subst e2
          cases a with
          | false =>
            rw [Bool.false_and] at hst
            have HST := Aside0.mk hst
            clear hst
            go_wp2_with fail
            go_roundw
            case rel => exact ⟨false, j + 1, by omega, rfl, by go_num, HST.out.symm, trivial⟩
            case measure => simp [intOf]; omega
          | true =>
            rw [Bool.true_and] at hst
            by_cases hji : j = i
            · rw [decide_eq_true hji, Bool.true_or] at hst
              have HST := Aside0.mk hst
              have e1 : ((j : Int) == (i : Int)) = true := beq_iff_eq.mpr (by omega)
              have e2 : (j == i) = true := beq_iff_eq.mpr hji
              clear hst hji
              go_wp2_with fail
              go_roundw
              case rel => exact ⟨true, j + 1, by omega, rfl, by go_num, HST.out.symm, trivial⟩
              case measure => simp [intOf]; omega
            · rw [decide_eq_false hji, Bool.false_or] at hst
              have e1 : ((j : Int) == (i : Int)) = false := beq_eq_false_iff_ne.mpr (by omega)
              have e2 : (j == i) = false := beq_eq_false_iff_ne.mpr hji
              clear hji
              by_cases hrr : rj = ri
              · rw [decide_eq_true hrr] at hst
                have HST := Aside0.mk hst
                subst hrr
                clear hst
                go_wp2_with fail
                go_roundw
                case rel => exact ⟨false, j + 1, by omega, rfl, by go_num, HST.out.symm, trivial⟩
                case measure => simp [intOf]; omega
              · rw [decide_eq_false hrr] at hst
                have HST := Aside0.mk hst
                have e3 : ((rj : Int) == (ri : Int)) = false := beq_eq_false_iff_ne.mpr (by omega)
                have e4 : (rj == ri) = false := beq_eq_false_iff_ne.mpr hrr
                have e5 : ((rj : Int) != (ri : Int)) = true := by rw [bne, e3]; rfl
                clear hst hrr
                go_wp2_with fail
                go_roundw
                case rel => exact ⟨true, j + 1, by omega, rfl, by go_num, HST.out.symm, trivial⟩
                case measure => simp [intOf]; omega
        · have hje : j = k := by omega
          have hal := HAL.out
          rw [hje] at hal
          have HAK := Aside0.mk hal
          obtain ⟨b, hb⟩ : ∃ b, l.any (selfP (i : Int)) = b := ⟨_, rfl⟩
          have hrt := ring_test HG.out hi1
          rw [← hal, hb] at hrt
          have HBV := Aside0.mk hb
          have q2 : wr.cell? ⟨z1, 2, none⟩ = some (.slice A l.length c) := (blk_cell (blk_below HX2.out HW.out) 2).trans rfl
          have HEW2 := Aside0.mk (HEW.out.below HW.out)
          clear hje hal hb HAL
          go_upto_region 13 with (go_at_call 25; with_reducible refine (self_any _ gb (i : Int) A c l HEW2.out HBX.out b HBV.out).mono ?_; rintro e w6 ⟨rfl, hb6⟩; have HB6 := Aside0.mk hb6; clear hb6)
          clear q2
          have hgl := HGI.out.len
          have HGL := Aside0.mk hgl
          have hin : (!a || b) = true → InRing k l i := hrt.1
          have hno : (!a || b) = false → ¬ InRing k l i := fun h k2 => by rw [hrt.2 k2] at h; cases h
          have c7 : w6.cell? ⟨gb, 0, none⟩ = some (.int .i64 (i : Int)) := (blk_cell (blk_below HBX.out HB6.out) 0).trans rfl
          have HR6 := Aside0.mk (Kd.R_below HR.out HB6.out)
          have HW6 := Aside0.mk (below_step HW.out HB6.out)
          have hwi := HWI.out
          have HIN := Aside0.mk hin
          have HNO := Aside0.mk hno
          clear hrt hgl hin hno
          have hyes : ∀ (v2 : Value) (w7 : World), Kd.R (Kd.int .i64) 3 w7 w2.heap.size (fun _ => True) v2 (ints gi ++ [(i : Int)]) → (!a || b) = true → RgI k l (i + 1) (gi ++ [i]) ∧ Kd.R (Kd.int .i64) 3 w7 w2.heap.size (fun _ => True) v2 (ints (gi ++ [i])) := fun v2 w7 h1 h2 => ⟨HGI.out.yes (HIN.out h2), by rw [ints_app]; exact h1⟩
          have HYES := Aside0.mk hyes
          have HIL : Aside0 ((ints gi).length + 1 ≤ 1000000) := Aside0.mk (by rw [ints_len]; have := HGL.out; have := HK.out; omega)
          clear hyes
          cases a with
          | true =>
            cases b with
            | false =>
              go_wp2_with fail
              go_roundw
              case rel => exact ⟨vv, i + 1, gi, by omega, rfl, by go_num, HGI.out.no (HNO.out rfl), HR6.out, HW6.out⟩
              case measure => simp [intOf]; omega
            | true =>
              go_wp2_with (at_builtin; (refine Kd.R_append (Kd.int .i64) (w0 := w6) w2.heap.size rfl (.tmp 55) (.tmp 57) 35 3 (.int .i64 0) 8 rfl Try.underlying35 info3 rfl (by decide) (by decide) vv (ints gi) (i : Int) [.int .i64 (i : Int)] (fun _ => True) (fun _ => False) rfl rfl rfl (fun _ h => h.elim) (fun _ _ => trivial) HR6.out (Below.refl _ _) HW6.out.size (by have := HIL.out; omega) ?_; intro v2 w7 hR1 hB1 hg1 hat1))
              go_roundw
              case rel => exact ⟨v2, i + 1, gi ++ [i], by omega, rfl, by go_num, (HYES.out v2 w7 hR1 rfl).1, (HYES.out v2 w7 hR1 rfl).2, HW6.out.trans hB1⟩
              case measure => simp [intOf]; omega
          | false =>
            go_wp2_with (at_builtin; (refine Kd.R_append (Kd.int .i64) (w0 := w6) w2.heap.size rfl (.tmp 55) (.tmp 57) 35 3 (.int .i64 0) 8 rfl Try.underlying35 info3 rfl (by decide) (by decide) vv (ints gi) (i : Int) [.int .i64 (i : Int)] (fun _ => True) (fun _ => False) rfl rfl rfl (fun _ h => h.elim) (fun _ _ => trivial) HR6.out (Below.refl _ _) HW6.out.size (by have := HIL.out; omega) ?_; intro v2 w7 hR1 hB1 hg1 hat1))
            go_roundw
            case rel => exact ⟨v2, i + 1, gi ++ [i], by omega, rfl, by go_num, (HYES.out v2 w7 hR1 rfl).1, (HYES.out v2 w7 hR1 rfl).2, HW6.out.trans hB1⟩
            case measure => simp [intOf]; omega
    · have hie : i = k := by omega
      have hgi := HGI.out
      rw [hie] at hgi
      have hgg : gi = g := RgOk.unique hgi HRG.out
      rw [hgg, ← HT.out] at HR
      obtain ⟨Av, cv, hcv, hle, hCv⟩ := Kd.R_reads HR.out
      subst hcv
      have HNT : Aside0 (Nts wr Av t cv) := Aside0.mk ⟨hCv, hle⟩
      clear hie hgi hgg hle hCv HR
      go_wp2_with fail
      go_ret
      exact ⟨_, _, rfl, HNT.out, below_step HB.out (below_step HB2.out HW.out)⟩
end Go.Proofs.Ytjbgealnnlmchaa.G
