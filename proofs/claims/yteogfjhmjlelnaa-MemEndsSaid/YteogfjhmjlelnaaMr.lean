/- Mem.Fill. The Mem holds these blocks. -/
import Derived.Test.YteogfjhmjlelnaaMq
set_option linter.unusedVariables false
set_option linter.unusedSimpArgs false
namespace Go.Proofs.Yteogfjhmjlelnaa.G
open Go.RowKit Go.Proofs.Yteogfjhmjlelnaa.B Go.Proofs.YteogfjhmjlelnaaW.PrintWords Go.Proofs.YteogfjhmjlelnaaW.PrintLast Go.Proofs.YteogfjhmjlelnaaW.PrintMore

theorem wrap_u8 (n : Int) : IntKind.u8.wrap n = n % 256 := by rw [IntKind.wrap_u8]
set_option maxRecDepth 100000 in
set_option maxHeartbeats 8000000 in
theorem fill_calls {w : World} {gm : Nat} {gs : List Nat} {s : List Mb} (h : Holds w gm gs s) (p v n : Vl) :
    Calls Try.prog 19 #[.pointer (some ⟨gm, 0, none⟩), p.agg, v.agg, n.agg] w fun e w' => e = .returned (.int .i64 (fillS s p v n).2) ∧ Holds w' gm gs (fillS s p v n).1 ∧ Fr w w' gm gs := by
  have HH := Aside0.mk h
  have HB := Aside0.mk (below_alloc (below_alloc (below_alloc (Below.refl w.heap.size w) (.cells #[.int .i64 p.n, .int .i64 p.b, .int .i64 p.f] 23)) (.cells #[.int .i64 v.n, .int .i64 v.b, .int .i64 v.f] 23)) (.cells #[.int .i64 n.n, .int .i64 n.b, .int .i64 n.f] 23))
  have hX := Aside0.mk (blk_alloc (blk_alloc (blk_new w (.cells #[.int .i64 p.n, .int .i64 p.b, .int .i64 p.f] 23)) (.cells #[.int .i64 v.n, .int .i64 v.b, .int .i64 v.f] 23)) (.cells #[.int .i64 n.n, .int .i64 n.b, .int .i64 n.f] 23))
  have hY := Aside0.mk (blk_alloc (blk_at_ (W := w.alloc (.cells #[.int .i64 p.n, .int .i64 p.b, .int .i64 p.f] 23)) (n := w.heap.size + 1) (.cells #[.int .i64 v.n, .int .i64 v.b, .int .i64 v.f] 23) (by simp)) (.cells #[.int .i64 n.n, .int .i64 n.b, .int .i64 n.f] 23))
  have hZ := Aside0.mk (blk_at_ (W := ((w.alloc (.cells #[.int .i64 p.n, .int .i64 p.b, .int .i64 p.f] 23)).alloc (.cells #[.int .i64 v.n, .int .i64 v.b, .int .i64 v.f] 23))) (n := w.heap.size + 2) (.cells #[.int .i64 n.n, .int .i64 n.b, .int .i64 n.f] 23) (by simp))
  clear h
  unfold Vl.agg
  generalize hR : fillS s p v n = R
  have HR := Aside0.mk hR
  clear hR
  go_enter Try.func19, Try.ntmps19
  go_upto_region 1 with (fail)
  generalize ((w.alloc (.cells #[.int .i64 p.n, .int .i64 p.b, .int .i64 p.f] 23)).alloc (.cells #[.int .i64 v.n, .int .i64 v.b, .int .i64 v.f] 23)).alloc (.cells #[.int .i64 n.n, .int .i64 n.b, .int .i64 n.f] 23) = W at HB hX hY hZ ⊢
  have hx := cell3 hX.out
  have hy := cell3 hY.out
  have hz := cell3 hZ.out
  go_upto_region 2 with (first | (go_at_call 37; refine ((HH.out.below HB.out).part p n.n).mono ?_; rintro e w1 ⟨A1, N1, ok1, rfl, hok1, hA1, hb1⟩; have HO1 := Aside0.mk hok1; have HA1 := Aside0.mk hA1; clear hok1 hA1))
  have HY1 := Aside0.mk (blk_below hY.out hb1)
  have HZ1 := Aside0.mk (blk_below hZ.out hb1)
  have HB1 := Aside0.mk (below_step HB.out hb1)
  clear hx hX hY hy hZ hz hb1 HB
  have hy := cell3 HY1.out
  have hz := cell3 HZ1.out
  cases ok1 with
  | false =>
    go_wp2_with fail
    go_ret
    have hR : R = (s, 9) := by
      have := HR.out
      rw [← this]; unfold fillS
      have h1 := HO1.out
      cases hm : okS s p n.n with
      | none => rfl
      | some m => rw [hm] at h1; cases h1
    rw [hR]
    exact ⟨rfl, HH.out.below HB1.out, Fr.below HB1.out _ _⟩
  | true =>
    obtain ⟨m1, hm1⟩ : ∃ m, okS s p n.n = some m := Option.isSome_iff_exists.1 HO1.out.symm
    have HM1 := Aside0.mk hm1
    obtain ⟨hN1, hA1⟩ := HA1.out _ hm1
    have HN1 := Aside0.mk hN1
    have HA2 := Aside0.mk (hN1 ▸ hA1)
    clear hm1 hA1 hN1
    cases hv : (v.b == 0 && v.f == 0) with
    | false =>
      go_wp2_with (first | (go_at_call 33; refine (number_calls ⟨_, _, _⟩ _).mono ?_; rintro e w2 ⟨rfl, hb2⟩; replace HY1 := Aside0.mk (blk_below HY1.out hb2); replace HZ1 := Aside0.mk (blk_below HZ1.out hb2); replace HB1 := Aside0.mk (below_step HB1.out hb2); clear hy hz; have hy := cell3 HY1.out; have hz := cell3 HZ1.out; clear hb2))
      go_ret
      have hR : R = (s, 9) := by
        have := HR.out
        rw [← this]; unfold fillS
        rw [HM1.out, hv]
        rfl
      rw [hR]
      exact ⟨rfl, HH.out.below HB1.out, Fr.below HB1.out _ _⟩
    | true =>
      cases hn : (n.b == 0 && n.f == 0) with
      | false =>
        go_wp2_with (first | (go_at_call 33; refine (number_calls ⟨_, _, _⟩ _).mono ?_; rintro e w2 ⟨rfl, hb2⟩; replace HY1 := Aside0.mk (blk_below HY1.out hb2); replace HZ1 := Aside0.mk (blk_below HZ1.out hb2); replace HB1 := Aside0.mk (below_step HB1.out hb2); clear hy hz; have hy := cell3 HY1.out; have hz := cell3 HZ1.out; clear hb2))
        go_ret
        have hR : R = (s, 9) := by
          have := HR.out
          rw [← this]; unfold fillS
          rw [HM1.out, hv, hn]
          rfl
        rw [hR]
        exact ⟨rfl, HH.out.below HB1.out, Fr.below HB1.out _ _⟩
      | true =>
        have hR : R = (putS s p (List.replicate n.n.toNat ⟨1, v.n % 256, ⟨0, 0, 0⟩⟩), 0) := by
          have := HR.out
          rw [← this]; unfold fillS
          rw [HM1.out, hv, hn]
          rfl
        subst hR
        clear HR
        go_upto_block 0 with (first | (go_at_call 33; refine (number_calls ⟨_, _, _⟩ _).mono ?_; rintro e w2 ⟨rfl, hb2⟩; replace HY1 := Aside0.mk (blk_below HY1.out hb2); replace HZ1 := Aside0.mk (blk_below HZ1.out hb2); replace HB1 := Aside0.mk (below_step HB1.out hb2); clear hy hz; have hy := cell3 HY1.out; have hz := cell3 HZ1.out; clear hb2))
        clear hy hz
        have HB3 := HB1
        have HY3 := HY1
        clear HB1 HY1 HZ1
        rename_i w3
        have s1 := okS_spec HM1.out
        have b1 := HH.out.bytes _ _ _ (get_of HH.out.len s1.2.2.2.2.2.1) s1.2.2.2.2.2.1
        have HBY := Aside0.mk (blk_below b1.1 HB3.out)
        have HBN := Aside0.mk (blk_lt b1.1)
        have HSP := Aside0.mk s1
        clear b1 s1
        obtain ⟨g, hg⟩ : ∃ g, gs.getD (p.b.toNat - 1) 0 = g := ⟨_, rfl⟩
        have HG := Aside0.mk hg
        rw [hg] at HBY HBN HA2
        clear hg
        go_wp2_with fail
        go_loopw [34] (fun i wx => ∃ j : Nat, j ≤ N1 ∧ i = .int .i64 j ∧ Hid (Bytes wx g (over m1.l p.n.toNat (List.replicate j ⟨1, v.n % 256, ⟨0, 0, 0⟩⟩))) ∧ Hid (Kp w2 wx (· = g))) (fun i _ => N1 - (intOf i).toNat)
        case atStart => exact ⟨0, Nat.zero_le _, rfl, by show Bytes _ _ (over m1.l p.n.toNat []); rw [over_nil]; exact HBY.out, Kp.refl _ _⟩
        case round =>
          obtain ⟨j, hj, rfl, hb, hkp⟩ := hrel
          have hy := cell3 (blk_kp HY3.out hkp.out (by have := HBN.out; show ¬ (_ = _); omega))
          have hsp := HSP.out
          have hN1 := HN1.out
          by_cases hlt : j < N1
          · have hA := HA2.out (by omega)
            subst hA
            have hqj : p.n.toNat + j < m1.l.length := by omega
            obtain ⟨y, hyy⟩ : ∃ y : Bt, (over m1.l p.n.toNat (List.replicate j ⟨1, v.n % 256, ⟨0, 0, 0⟩⟩))[p.n.toNat + j]? = some y := ⟨_, List.getElem?_eq_getElem (by rw [over_length (by rw [List.length_replicate]; omega)]; omega)⟩
            have hc := Bytes.at_ hb.out hyy
            have hf0 := blk_frozen hb.out ((p.n.toNat + j) * 5)
            have hf1 := blk_frozen hb.out ((p.n.toNat + j) * 5 + 1)
            have hf2 := blk_frozen hb.out ((p.n.toNat + j) * 5 + 2)
            have hf3 := blk_frozen hb.out ((p.n.toNat + j) * 5 + 3)
            have hf4 := blk_frozen hb.out ((p.n.toNat + j) * 5 + 4)
            have HBB := Aside0.mk hb
            have HKP := Aside0.mk hkp
            have HQJ := Aside0.mk hqj
            have hjk : ((j : Int) < (N1 : Int)) := by omega
            have hwj : IntKind.i64.wrap ((j : Int) + 1) = (j : Int) + 1 := by rw [IntKind.wrap_i64]; omega
            rw [Nat.add_mul] at hc hf0 hf1 hf2 hf3 hf4
            clear hb hkp hsp hyy hqj hN1
            go_wp2_with fail
            go_roundw
            case rel => exact ⟨j + 1, by omega, by go_num, by show Bytes _ _ _; rw [List.replicate_succ']; exact HBB.out.put_over (List.length_replicate ..) HQJ.out ⟨1, v.n % 256, ⟨0, 0, 0⟩⟩, kp_put5 HKP.out rfl _ _ _ _ _ _ _ _ _ _⟩
            case measure => simp [intOf]; omega
          · obtain hjN : j = N1 := by omega
            subst hjN
            have HBB := Aside0.mk hb
            have HKP := Aside0.mk hkp
            clear hy hsp hb hkp hN1
            go_wp2_with fail
            go_ret
            have hb := HBB.out
            have hk := HKP.out
            rw [← HG.out, HN1.out] at hb
            rw [← HG.out] at hk
            have := (HH.out.below HB3.out).put HM1.out (List.length_replicate ..) (fun x hx => by
              obtain ⟨_, rfl⟩ := List.mem_replicate.1 hx
              show 0 ≤ v.n % 256 ∧ v.n % 256 ≤ 255
              omega) hb hk
            exact ⟨rfl, this.1, (Fr.below HB3.out _ _).next this.2⟩
end Go.Proofs.Yteogfjhmjlelnaa.G
