/- The law SccRings of scc is true: its walk. No condition. -/
import Derived.Test.YtdobjmbfkdfdcaaL4
import Derived.Test.YtdobjmbfkdfdcaaRc
set_option linter.unusedVariables false
set_option linter.unusedSimpArgs false
namespace Go.Proofs.Ytdobjmbfkdfdcaa.G
open Go.RowKit Go.Proofs.Ytdobjmbfkdfdcaa.B Go.Proofs.YtdobjmbfkdfdcaaW.PrintWords Go.Proofs.YtdobjmbfkdfdcaaW.PrintLast Go.Proofs.YtdobjmbfkdfdcaaW.PrintMore

set_option maxRecDepth 100000 in
set_option maxHeartbeats 8000000 in
theorem SccRings_walk (n cut : Int) (hn : 0 ≤ n ∧ n ≤ 255) (hc : 0 ≤ cut ∧ cut ≤ 255) (w : World) :
    Calls Try.prog 7 #[.int .u8 n, .int .u8 cut] w fun e w' => e = .returned (.bool true) ∧ Below w.heap.size w w' := by
  have hn1 := hn.1
  have hc1 := hc.1
  go_enter Try.func7, Try.ntmps7
  go_upto_region 3 with (go_at_call 9; with_reducible refine (shown_c _).mono ?_; rintro e w1 ⟨rfl, hk⟩; have HB := Aside0.mk hk; clear hk)
  generalize hNI : 2 + n % 50 = NI
  obtain ⟨K, rfl⟩ : ∃ K : Nat, NI = (K : Int) := ⟨NI.toNat, by omega⟩
  have HK : Aside0 (2 ≤ K ∧ K ≤ 51) := Aside0.mk (by omega)
  have HC := Aside0.mk hc
  clear hNI hn hc hn1 hc1
  generalize n % 50 = nm
  go_upto_block 0 with (fail)
  go_wp2_with fail
  go_loopw [7, 8] (fun v7 iv wx => ∃ (v : Value) (i : Nat), i ≤ K ∧ v = v7 ∧ iv = .int .i64 (i : Int) ∧ Hid (Kd.R k33 33 wx w1.heap.size (fun _ => True) v ((ring K).take i)) ∧ Hid (Below w1.heap.size w1 wx)) (fun _ iv _ => K - (intOf iv).toNat)
  case atStart => exact ⟨_, 0, Nat.zero_le _, rfl, rfl, Kd.R_nil _ _ _ _ _, Below.refl _ _⟩
  case round =>
    obtain ⟨v, i, hi, rfl, rfl, h1, h2⟩ := hrel
    have HR := Aside0.mk (show Kd.R k33 33 wr w1.heap.size (fun _ => True) v ((ring K).take i) from h1)
    have HW := Aside0.mk (show Below w1.heap.size w1 wr from h2)
    clear h1 h2
    by_cases hlt : (i : Int) < (K : Int)
    · have hi1 : i < K := by omega
      have hi0 : (0 : Int) ≤ (i : Int) := Int.natCast_nonneg i
      have hwi : IntKind.i64.wrap ((i : Int) + 1) = (i : Int) + 1 := by have := HK.out; rw [IntKind.wrap_i64]; omega
      have hst : (ring K).take (i + 1) = (ring K).take i ++ [⟨(i : Int), 0, ((i : Int) + 1) % (K : Int)⟩] := by
        rw [List.take_succ_eq_append_getElem (by rw [ring_len]; exact hi1)]
        congr 2
        unfold ring
        rw [List.getElem_map, List.getElem_range]
        unfold ringE
        congr 1
      have HST := Aside0.mk hst
      have hml : ((ring K).take i).length ≤ 51 := by rw [List.length_take, ring_len]; have := HK.out; omega
      have HML := Aside0.mk hml
      have hK0 : ((K : Int) == 0) = false := beq_eq_false_iff_ne.mpr (by have := HK.out; omega)
      have hK1 : ¬ (K : Int) = 0 := by have := HK.out; omega
      have hK2 : ¬ K = 0 := by have := HK.out; omega
      clear hst hml
      go_wp2_with (at_builtin; (refine Kd.R_append k33 (w0 := wr) w1.heap.size rfl (.tmp 23) (.tmp 30) 22 33 (.agg #[.int .i64 0, .int .i64 0, .int .i64 0]) 24 rfl Try.underlying22 info33 rfl (by show 0 < 3; decide) (by decide) v ((ring K).take i) ⟨(i : Int), 0, ((i : Int) + 1) % (K : Int)⟩ [.int .i64 (i : Int), .int .i64 0, .int .i64 (((i : Int) + 1) % (K : Int))] (fun _ => True) (fun _ => False) rfl rfl (k33_mkM _ _ _ _) (fun _ h => h.elim) (fun _ _ => trivial) HR.out (Below.refl _ _) HW.out.size (by have := HML.out; omega) ?_; intro v2 w2 hR1 hB1 hg1 hat1))
      go_roundw
      case rel => exact ⟨v2, i + 1, by omega, rfl, by go_num, by rw [HST.out]; exact hR1, HW.out.trans hB1⟩
      case measure => simp [intOf]; omega
    · have hie : i = K := by omega
      rw [hie, List.take_of_length_le (by rw [ring_len]; exact Nat.le_refl _)] at HR
      clear hie
      obtain ⟨Ar, cr, hv⟩ := Kd.R_slice HR.out
      subst hv
      obtain ⟨_, hcr, hCr⟩ := Kd.R_reads' HR.out
      have HE : Aside0 (Edg wr Ar (ring K) cr) := Aside0.mk ⟨hCr, hcr, by rw [ring_len]; have := HK.out; omega⟩
      clear hCr hcr HR
      have hsz : sizeN (K : Int) = K := by unfold sizeN; have := HK.out; omega
      have HSZ := Aside0.mk hsz
      have hg : GrpOk (sizeN (K : Int)) (ring K) (List.replicate K 0) := by rw [hsz]; exact ring_ok K
      have HG := Aside0.mk hg
      clear hsz hg
      obtain ⟨l3, hl3⟩ : ∃ l3, ring K = l3 := ⟨_, rfl⟩
      obtain ⟨r3, hr3⟩ : ∃ r3, List.replicate K 0 = r3 := ⟨_, rfl⟩
      rw [hl3] at HE HG ⊢
      rw [hr3] at HG
      have HL3 := Aside0.mk hl3
      have HR3 := Aside0.mk hr3
      clear hl3 hr3
      go_upto_region 9 with (go_at_call 12; with_reducible refine (groups_d _ _ _ _ _ HE.out r3 HG.out).mono ?_; rintro e w2 ⟨A2, c2, rfl, h2, hb2⟩; have HE2 := Aside0.mk (HE.out.below hb2); have HA2 := Aside0.mk h2; have HB2 := Aside0.mk (below_step HW.out hb2); clear h2 hb2)
      have hK0 : ((K : Int) == 0) = false := beq_eq_false_iff_ne.mpr (by have := HK.out; omega)
      have hK1 : ¬ (K : Int) = 0 := by have := HK.out; omega
      have hK2 : ¬ K = 0 := by have := HK.out; omega
      go_upto_region 10 with (fail)
      clear hK0 hK1 hK2
      have hcut : 0 ≤ Int.tmod (wrap64 cut) (K : Int) ∧ Int.tmod (wrap64 cut) (K : Int) < K := by
        have h1 := HC.out
        have h2 := HK.out
        rw [show wrap64 cut = cut by unfold wrap64; omega, Int.tmod_eq_emod_of_nonneg h1.1]
        exact ⟨Int.emod_nonneg _ (by omega), Int.emod_lt_of_pos _ (by omega)⟩
      generalize Int.tmod (wrap64 cut) (K : Int) = CC at hcut ⊢
      generalize wrap64 cut = cu
      obtain ⟨C, rfl⟩ : ∃ C : Nat, CC = (C : Int) := ⟨CC.toNat, by omega⟩
      have HCK : Aside0 (C < K) := Aside0.mk (by omega)
      clear hcut
      have hlen : l3.length = K := by rw [← HL3.out, ring_len]
      have hg2 : GrpOk (sizeN (K : Int)) (l3.take C ++ l3.drop (C + 1)) (List.range K) := by rw [HSZ.out, ← HL3.out]; exact cut_ok K C HCK.out
      have HG2 := Aside0.mk hg2
      obtain ⟨r4, hr4⟩ : ∃ r4, List.range K = r4 := ⟨_, rfl⟩
      rw [hr4] at HG2
      have HR4 := Aside0.mk hr4
      obtain ⟨i0, hi0, _, hsz0, _⟩ := info_parts info33
      have hcut1 := cut_to (P := Try.prog) 22 33 .i64 Try.underlying22 hi0 Ar l3.length cr (C : Int) (by omega) (by have := HCK.out; omega) HE2.out.cap
      rw [Int.toNat_natCast] at hcut1
      have hcut2 := cut_from (P := Try.prog) 22 33 .i64 Try.underlying22 hi0 3 hsz0 Ar l3.length cr ((C : Int) + 1) (by omega) (by have := HCK.out; omega)
      rw [show ((C : Int) + 1).toNat = C + 1 by omega] at hcut2
      have hC1 : ∀ W, Below w2.heap.size w2 W → Kd.C k33 W Ar C (l3.take C) := fun W hW => by
        have h := Kd.C_take (m := C) (Kd.C_below HE2.out.C hW) (by have := HCK.out; omega)
        rwa [List.length_take, Nat.min_eq_left (by have := HCK.out; omega)] at h
      have hC2 : ∀ W, Below w2.heap.size w2 W → Kd.C k33 W (if cr = C + 1 then Ar else Ar.map (·.add ((C + 1) * 3))) (l3.length - (C + 1)) (l3.drop (C + 1)) := fun W hW => by
        have h := Kd.C_drop (m := C + 1) (Kd.C_below HE2.out.C hW) (by have := HCK.out; omega) HE2.out.cap
        rwa [List.length_drop] at h
      have HT1 : Aside0 ((l3.take C).length = C ∧ (l3.drop (C + 1)).length = l3.length - (C + 1)) := Aside0.mk ⟨by rw [List.length_take]; have := HCK.out; omega, List.length_drop⟩
      have HLK : Aside0 (l3.length = K ∧ K ≤ 51) := Aside0.mk ⟨hlen, HK.out.2⟩
      have HC1 := Aside0.mk hC1
      have HC2 := Aside0.mk hC2
      generalize (if cr = C + 1 then Ar else Ar.map (·.add ((C + 1) * 3))) = A5 at hcut2 HC2
      generalize cr - (C + 1) = c5 at hcut2
      have HLD : Aside0 (l3.length - (C + 1) ≤ 51) := Aside0.mk (by have := HK.out; omega)
      generalize hm5 : l3.length - (C + 1) = m5 at hcut2 HC2 HT1 HLD
      generalize l3.take C = la at HC1 HT1 HG2
      generalize l3.drop (C + 1) = lb at HC2 HT1 HG2
      have hwc : IntKind.i64.wrap ((C : Int) + 1) = (C : Int) + 1 := by have := HCK.out; have := HK.out; rw [IntKind.wrap_i64]; omega
      have HML : Aside0 ((la ++ lb).length ≤ 1000000) := Aside0.mk (by rw [List.length_append, HT1.out.1, HT1.out.2]; have := HCK.out; have := HK.out; have := HLD.out; omega)
      obtain ⟨lm, hlm⟩ : ∃ lm, la ++ lb = lm := ⟨_, rfl⟩
      rw [hlm] at HG2 HML
      have HLM := Aside0.mk hlm
      clear hC1 hC2 hi0 hsz0 hlen hg2 hr4 hm5 hlm
      go_region_law (first
        | (refine step_edges w2.heap.size rfl (.tmp 40) (.tmp 43) rfl _ [] la Ar C cr rfl rfl (R_empty33 ?aG ?aN) ?aC ?aB ?aL ?_
           (case aG => first | exact blk_new _ _ | exact blk_at_ _ (by simp) | exact blk_alloc (blk_new _ _) _)
           (case aN => first | (simp; done) | (simp; omega))
           (case aC => exact HC1.out _ (by repeat (first | exact Below.refl _ _ | apply below_alloc | apply below_drew)))
           (case aB => first | (simp; done) | (simp; omega))
           (case aL => have := HCK.out; have := HLK.out; simp; omega)
           intro v1 w4 h1 h2 h3
           have HR4' := Aside0.mk h1
           have HB4 : Aside0 (Below w2.heap.size w2 w4) := Aside0.mk (Below.trans (by repeat (first | exact Below.refl _ _ | apply below_alloc | apply below_drew)) h2)
           clear h1 h2 h3)
        | (refine step_edges w2.heap.size rfl (.tmp 44) (.tmp 48) rfl _ la lb A5 m5 c5 rfl rfl HR4'.out (HC2.out _ HB4.out) HB4.out.size ?aL ?_
           (case aL => have := HCK.out; have := HLK.out; have := HLD.out; have := HT1.out.1; omega)
           intro v2 w5 h1 h2 h3
           have HR5 := Aside0.mk h1
           have HB5 : Aside0 (Below w2.heap.size w2 w5) := Aside0.mk (Below.trans HB4.out h2)
           obtain ⟨Am, cm, hv2⟩ := Kd.R_slice HR5.out
           subst hv2
           obtain ⟨_, hcm, hCm⟩ := Kd.R_reads' HR5.out
           rw [HLM.out] at hcm hCm ⊢
           have HM5 : Aside0 (Edg w5 Am lm cm) := Aside0.mk ⟨hCm, hcm, HML.out⟩
           clear h1 h2 h3 hcm hCm HR5)
        | (go_simp
           go_wp2_with (go_at_call 12; with_reducible refine (groups_d _ _ _ _ _ HM5.out r4 HG2.out).mono ?_; rintro e w6 ⟨A6, c6, rfl, h6, hb6⟩; have HA6 := Aside0.mk h6; have HB6 := Aside0.mk (below_step HB5.out hb6); clear h6 hb6)))
      have hl3 : r3.length = K := by rw [← HR3.out, List.length_replicate]
      have hl4 : r4.length = K := by rw [← HR4.out, List.length_range]
      rw [hl3, hl4]
      have HA26 := Aside0.mk (HA2.out.below HB6.out)
      go_upto_block 2 with (fail)
      go_wp2_with fail
      go_loopw [12] (fun iv wx => ∃ (i : Nat), i ≤ K ∧ iv = .int .i64 (i : Int) ∧ Hid (Below w6.heap.size w6 wx)) (fun iv _ => K - (intOf iv).toNat)
      case atStart => exact ⟨0, Nat.zero_le _, rfl, Below.refl _ _⟩
      case round =>
        obtain ⟨j, hj, rfl, h1⟩ := hrel
        have HW6 := Aside0.mk (show Below w6.heap.size w6 wr from h1)
        clear h1
        by_cases hltj : (j : Int) < (K : Int)
        · have hj1 : j < K := by omega
          have hj0 : (0 : Int) ≤ (j : Int) := Int.natCast_nonneg j
          have hwj : IntKind.i64.wrap ((j : Int) + 1) = (j : Int) + 1 := by have := HK.out; rw [IntKind.wrap_i64]; omega
          obtain ⟨ad2, e2, g1⟩ := (HA26.out.below HW6.out).at_ j (by omega)
          obtain ⟨ad6, e6, g2⟩ := (HA6.out.below HW6.out).at_ j (by omega)
          have z1 : r3.getD j 0 = 0 := by
            rw [← HR3.out, List.getD_eq_getElem?_getD, List.getElem?_replicate]
            split <;> rfl
          have z2 : r4.getD j 0 = j := by
            rw [← HR4.out, List.getD_eq_getElem?_getD, List.getElem?_range hj1]
            rfl
          rw [z1] at g1
          rw [z2] at g2
          subst e2 e6
          clear z1 z2
          go_wp2_with fail
          go_roundw
          case rel => exact ⟨j + 1, by omega, by go_num, HW6.out⟩
          case measure => simp [intOf]; omega
        · go_wp2_with fail
          go_ret
          exact ⟨rfl, below_step HB.out (below_step HB2.out (below_step HB6.out HW6.out))⟩
end Go.Proofs.Ytdobjmbfkdfdcaa.G
