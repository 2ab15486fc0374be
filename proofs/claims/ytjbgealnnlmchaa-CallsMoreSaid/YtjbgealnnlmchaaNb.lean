/- The closure 'visit' of scc.Groups does what vis does. Its contract names its state. -/
import Derived.Test.YtjbgealnnlmchaaNb0
import Derived.BigRegion
set_option linter.unusedVariables false
set_option linter.unusedSimpArgs false
namespace Go.Proofs.Ytjbgealnnlmchaa.G
open Go.RowKit Go.Proofs.Ytjbgealnnlmchaa.B Go.Proofs.YtjbgealnnlmchaaW.PrintWords Go.Proofs.YtjbgealnnlmchaaW.PrintLast Go.Proofs.YtjbgealnnlmchaaW.PrintMore

set_option maxRecDepth 100000 in
set_option maxHeartbeats 8000000 in
theorem vis_c (w1 : World) (L : Lay) (hL : LayOk w1 L) (G : List (List Nat)) (hn : L.n = G.length) (hg : ∀ v, ∀ w ∈ G.getD v [], w < L.n) (hGl : ∀ v, (G.getD v []).length ≤ 1000000)
    (hG : Kd.C (Kd.slice 3 (Kd.int .i64)) w1 L.ag L.n (G.map ints)) :
    ∀ (d v : Nat) (s s' : TS) (vs : Value) (W : World), Rep w1 L W s vs → v < L.n → vis G d v s = some s' →
      Calls Try.prog 33 #[.int .i64 (v : Int), .pointer (some ⟨L.bl, 0, none⟩), .pointer (some ⟨L.bn, 0, none⟩), .pointer (some ⟨L.bw, 0, none⟩), .pointer (some ⟨L.bs, 0, none⟩), .pointer (some ⟨L.bo, 0, none⟩), .pointer (some ⟨L.bg, 0, none⟩), .pointer (some ⟨L.bv, 0, none⟩), .pointer (some ⟨L.bu, 0, none⟩)] W
        fun e W' => e = .returned (.tuple #[]) ∧ ∃ vs', Rep w1 L W' s' vs' := by
  have HN := Aside0.mk hn
  clear hn
  intro d
  induction d with
  | zero => intro v s s' vs W _ _ he; cases he
  | succ d ih =>
    intro v s s' vs W h hv he
    have IH := Aside0.mk ih
    clear ih
    have HL := Aside0.mk hL
    have HG := Aside0.mk hG
    have HGL := Aside0.mk hGl
    have HGE := Aside0.mk hg
    clear hL hG hGl hg
    unfold vis at he
    split at he
    case isFalse => cases he
    rename_i hguard
    obtain ⟨s1, he1, he2⟩ := Option.bind_eq_some_iff.1 he
    clear he
    have HE1 := Aside0.mk he1
    have HE2 := Aside0.mk he2
    have HR := Aside0.mk h
    have HV := Aside0.mk hv
    have HGU := Aside0.mk hguard
    clear he1 he2 hguard
    have hvi : (v : Int) < (L.n : Int) := by omega
    have hv0 : (0 : Int) ≤ (v : Int) := Int.natCast_nonneg v
    have c1 := cell1 h.b.last
    have f1 := blk_frozen h.b.last 0
    obtain ⟨k, hk⟩ : ∃ k, k = s.last + 1 := ⟨_, rfl⟩
    have hw : IntKind.i64.wrap ((s.last : Int) + 1) = (k : Int) := by have := HGU.out; rw [IntKind.wrap_i64]; omega
    have HK := Aside0.mk hk
    clear hk
    clear h hv
    go_enter Try.func33, Try.ntmps33
    go_upto_region 1 with (fail)
    clear c1 f1 hw
    replace HR := Aside0.mk (HR.out.setLast HL.out k)
    generalize W.setCell ⟨L.bl, 0, none⟩ (.int .i64 (k : Int)) = W1 at HR ⊢
    have c1 := cell1 HR.out.b.last
    have c2 := cell1 HR.out.b.num
    have c3 := cell1 HR.out.b.low
    have c4 := HR.out.num_at HV.out
    have c5 := HR.out.low_at HV.out
    have f4 := blk_frozen HR.out.b.numr v
    have f5 := blk_frozen HR.out.b.lowr v
    have e1 : ¬ L.rn = L.rw := HL.out.ne.2.2.2.1
    have e2 : ¬ L.rw = L.rn := fun h => e1 h.symm
    have e3 : ¬ L.bl = L.rn := HL.out.ne.1
    have e4 : ¬ L.rn = L.bl := fun h => e3 h.symm
    have e5 : ¬ L.bl = L.rw := HL.out.ne.2.1
    have e6 : ¬ L.rw = L.bl := fun h => e5 h.symm
    have e7 : ¬ L.bn = L.rn := blk_ne HR.out.b.num HR.out.b.numr (by decide)
    have e8 : ¬ L.rn = L.bn := fun h => e7 h.symm
    have e9 : ¬ L.bn = L.rw := blk_ne HR.out.b.num HR.out.b.lowr (by decide)
    have e10 : ¬ L.rw = L.bn := fun h => e9 h.symm
    have e11 : ¬ L.bw = L.rn := blk_ne HR.out.b.low HR.out.b.numr (by decide)
    have e12 : ¬ L.rn = L.bw := fun h => e11 h.symm
    have e13 : ¬ L.bw = L.rw := blk_ne HR.out.b.low HR.out.b.lowr (by decide)
    have e14 : ¬ L.rw = L.bw := fun h => e13 h.symm
    go_region
    clear c1 c2 c3 c4 c5 f4 f5 e1 e2 e3 e4 e5 e6 e7 e8 e9 e10 e11 e12 e13 e14
    replace HR := Aside0.mk ((((HR.out.setNum HL.out v k).setLow HL.out v k)).drew HL.out)
    generalize ((W1.setCell ⟨L.rn, v, none⟩ (.int .i64 (k : Int))).setCell ⟨L.rw, v, none⟩ (.int .i64 (k : Int))).drew = W2 at HR ⊢
    have c1 := cell1 HR.out.b.stk
    have c2 := cell1 (blk_alloc HR.out.b.stk (.cells #[.int .i64 (v : Int)] 3))
    obtain ⟨i3, hi3, hz3⟩ := Option.map_eq_some_iff.1 info3
    simp only [Prod.mk.injEq] at hz3
    go_upto_region 3 with (at_builtin; refine wpList_append_own_at (W2.alloc (.cells #[.int .i64 (v : Int)] 3)) rfl (.tmp 27) (.tmp 29) 35 rfl L.top 3 i3 (.int .i64 0) 1 8 Try.underlying35 hi3 hz3.1 hz3.2.1 hz3.2.2 rfl (by decide) vs s.stack.length (nats s.stack) rfl (HR.out.row.alloc _) ⟨W2.heap.size, 0, none⟩ 1 1 [.int .i64 (v : Int)] rfl rfl (World.news_of_block (heap_alloc_new W2 (.cells #[.int .i64 (v : Int)] 3))) (by simp [Value.oneCell']) (by have := HGU.out.2; unfold maxLen; omega) (by have := HGU.out.2; omega) (by have := HR.out.top; simp; omega) ?_; intro vs1 W3 hown hgrow hnil hat; obtain ⟨gs1, cs1, rfl, _, _⟩ := hown.form (by omega); obtain ⟨hm3, hb3, ht3⟩ := app_keeps HR.out HL.out hgrow; have HO := Aside0.mk hown; have HM := Aside0.mk hm3; have HB := Aside0.mk hb3; have HT := Aside0.mk ht3; have cS := cell1 ((hm3 _ HL.out.hi.2.2.2.2.2.1).trans HR.out.b.stk); have fS := blk_frozen ((hm3 _ HL.out.hi.2.2.2.2.2.1).trans HR.out.b.stk) 0; clear hown hgrow hnil hat hm3 hb3 ht3)
    clear c1 c2 hi3 hz3 cS fS
    replace HR := Aside0.mk (HR.out.setStk (st := s.stack ++ [v]) HL.out (fun x hx => by
      rcases List.mem_append.1 hx with h1 | h1
      · exact HR.out.wf.stk x h1
      · rw [List.mem_singleton.1 h1]; exact HV.out) HM.out HB.out (by rw [List.length_append, List.length_singleton]; have h1 := HO.out; rw [show nats s.stack ++ [.int .i64 (v : Int)] = nats (s.stack ++ [v]) by unfold nats; rw [List.map_append]; rfl] at h1; exact h1) HT.out)
    clear HO HM HB HT
    generalize (Value.slice (some ⟨gs1, 0, none⟩) (s.stack.length + 1) cs1) = vs1 at HR ⊢
    generalize W3.setCell ⟨L.bs, 0, none⟩ vs1 = W4 at HR ⊢
    have c1 := cell1 HR.out.b.opn
    have c2 := HR.out.opn_at HV.out
    have f1 := blk_frozen HR.out.b.opnr v
    go_upto_region 4 with (fail)
    clear c1 c2 f1
    replace HR := Aside0.mk (HR.out.setOpn HL.out v true)
    generalize W4.setCell ⟨L.ro, v, none⟩ (.bool true) = W5 at HR ⊢
    have hpush : (⟨k, s.num.set v k, s.low.set v k, s.stack ++ [v], s.opn.set v true, s.out⟩ : TS) = push v s := by unfold push; rw [HK.out]
    replace HR : Aside0 (Rep w1 L W5 (push v s) vs1) := Aside0.mk (hpush ▸ HR.out)
    clear hpush
    have hb5 := HR.out.below
    obtain ⟨ag, A0, c0, hA, q0, hl0, hC0⟩ := at_L4 HG.out (v : Int) hv0 hvi
    rw [rd_G] at q0 hl0 hC0
    have HGE' := Aside0.mk (HGE.out v)
    have HGL' := Aside0.mk (HGL.out v)
    generalize G.getD v [] = ws at q0 hl0 hC0 HE1 HGE' HGL'
    rw [Int.toNat_natCast, ints_len] at q0
    rw [ints_len] at hl0 hC0
    replace q0 := pw_cell_below hb5 q0
    have c1 := cell1 HR.out.b.g
    rw [hA] at c1
    have HC0 := Aside0.mk hC0
    clear hl0 hC0 hb5 hA
    go_upto_block 0 with (fail)
    clear q0 c1
    go_wp2_with fail
    go_loopw [39] (fun iv wx => ∃ (i : Nat) (si : TS) (vi : Value), i ≤ ws.length ∧ iv = .int .i64 (i : Int) ∧ Hid ((ws.drop i).foldlM (stepF (vis G d) v) si = some s1) ∧ Hid (Rep w1 L wx si vi)) (fun iv _ => ws.length - (intOf iv).toNat)
    case atStart => exact ⟨0, push v s, vs1, Nat.zero_le _, rfl, HE1.out, HR.out⟩
    case round =>
      obtain ⟨i, si, vi, hi, rfl, hf, hr⟩ := hrel
      have HF := Aside0.mk (show (ws.drop i).foldlM (stepF (vis G d) v) si = some s1 from hf)
      replace HR : Aside0 (Rep w1 L wr si vi) := Aside0.mk hr
      clear hf hr
      by_cases hlt : (i : Int) < (ws.length : Int)
      · have hi1 : i < ws.length := by omega
        obtain ⟨x, hx⟩ : ∃ x, ws[i] = x := ⟨_, rfl⟩
        have HXN : Aside0 (x < L.n) := Aside0.mk (HGE'.out x (hx ▸ List.getElem_mem hi1))
        obtain ⟨a0, hA0, q1⟩ := Kd.at_int HC0.out (i : Int) (Int.natCast_nonneg i) hlt
        subst hA0
        rw [rd_ints _ _ hi1, hx, Int.toNat_natCast] at q1
        replace q1 := pw_cell_below HR.out.below q1
        have hf := HF.out
        rw [List.drop_eq_getElem_cons hi1, hx, List.foldlM_cons] at hf
        obtain ⟨s2, h1, h2⟩ := Option.bind_eq_some_iff.1 hf
        replace HF := Aside0.mk h2
        have hwi : IntKind.i64.wrap ((i : Int) + 1) = (i : Int) + 1 := by have := HGL'.out; rw [IntKind.wrap_i64]; omega
        have HWI := Aside0.mk hwi
        clear hf h2 hwi hx
        have hxi : (x : Int) < (L.n : Int) := by have := HXN.out; omega
        have hx0 : (0 : Int) ≤ (x : Int) := Int.natCast_nonneg x
        have c1 := cell1 HR.out.b.num
        have c2 := HR.out.num_at HXN.out
        by_cases hN : si.N x = 0
        · unfold stepF at h1
          rw [if_pos hN] at h1
          obtain ⟨s3, h3, h4⟩ := Option.map_eq_some_iff.1 h1
          have HS2 := Aside0.mk h4
          have HS3 := Aside0.mk h3
          clear h1 h3 h4
          rw [hN] at c2
          have c7 : wr.cell? ⟨L.bv, 0, none⟩ = some (.func (.func 33) #[] #[.pointer (some ⟨L.bl, 0, none⟩), .pointer (some ⟨L.bn, 0, none⟩), .pointer (some ⟨L.bw, 0, none⟩), .pointer (some ⟨L.bs, 0, none⟩), .pointer (some ⟨L.bo, 0, none⟩), .pointer (some ⟨L.bg, 0, none⟩), .pointer (some ⟨L.bv, 0, none⟩), .pointer (some ⟨L.bu, 0, none⟩)]) := cell1 HR.out.b.v
          go_upto_region 9 with (go_at_call 33; with_reducible refine (IH.out x si s3 vi _ HR.out HXN.out HS3.out).mono ?_; rintro e W6 ⟨rfl, vs6, hR6⟩; replace HR := Aside0.mk hR6; clear hR6)
          clear c1 c2 c7 q1 hN
          have c1 := cell1 HR.out.b.low
          have c2 := HR.out.low_at HV.out
          have c3 := HR.out.low_at HXN.out
          have f1 := blk_frozen HR.out.b.lowr v
          obtain ⟨m, hm⟩ : ∃ m, m = min (s3.L v) (s3.L x) := ⟨_, rfl⟩
          have hmi : min ((s3.L v : Nat) : Int) ((s3.L x : Nat) : Int) = (m : Int) := by omega
          have HM := Aside0.mk hm
          clear hm
          go_region
          clear c1 c2 c3 f1 hmi
          replace HR := Aside0.mk ((HR.out.setLow HL.out v m).drew HL.out)
          have hS : (⟨s3.last, s3.num, s3.low.set v m, s3.stack, s3.opn, s3.out⟩ : TS) = s2 := by rw [← HS2.out, HM.out]; rfl
          replace HR : Aside0 (Rep w1 L (W6.setCell ⟨L.rw, v, none⟩ (.int .i64 (m : Int))).drew s2 vs6) := Aside0.mk (hS ▸ HR.out)
          clear hS
          generalize (W6.setCell ⟨L.rw, v, none⟩ (.int .i64 (m : Int))).drew = W7 at HR ⊢
          have hwi := HWI.out
          go_wp2_with fail
          go_roundw
          case rel => exact ⟨i + 1, s2, vs6, by omega, by go_num, HF.out, HR.out⟩
          case measure => simp [intOf]; omega
        · have hN1 : (((si.N x : Nat) : Int) == 0) = false := beq_eq_false_iff_ne.mpr (by omega)
          have hN2 : ((si.N x) == 0) = false := beq_eq_false_iff_ne.mpr hN
          unfold stepF at h1
          rw [if_neg hN] at h1
          have c3 := cell1 HR.out.b.opn
          have c4 := HR.out.opn_at HXN.out
          cases ho : si.opn.getD x false with
          | true =>
            rw [if_pos ho] at h1
            injection h1 with h1
            have HS2 := Aside0.mk h1
            clear h1
            rw [ho] at c4
            go_upto_region 11 with (fail)
            clear q1 hN hN1 hN2 ho c3 c4
            have c3 := cell1 HR.out.b.low
            have c4 := HR.out.low_at HV.out
            have f1 := blk_frozen HR.out.b.lowr v
            obtain ⟨m, hm⟩ : ∃ m, m = min (si.L v) (si.N x) := ⟨_, rfl⟩
            have hmi : min ((si.L v : Nat) : Int) ((si.N x : Nat) : Int) = (m : Int) := by omega
            have HM := Aside0.mk hm
            clear hm
            go_region
            clear c1 c2 c3 c4 f1 hmi
            replace HR := Aside0.mk ((HR.out.setLow HL.out v m).drew HL.out)
            have hS : (⟨si.last, si.num, si.low.set v m, si.stack, si.opn, si.out⟩ : TS) = s2 := by rw [← HS2.out, HM.out]; rfl
            replace HR : Aside0 (Rep w1 L (wr.setCell ⟨L.rw, v, none⟩ (.int .i64 (m : Int))).drew s2 vi) := Aside0.mk (hS ▸ HR.out)
            clear hS
            generalize (wr.setCell ⟨L.rw, v, none⟩ (.int .i64 (m : Int))).drew = W7 at HR ⊢
            have hwi := HWI.out
            go_wp2_with fail
            go_roundw
            case rel => exact ⟨i + 1, s2, vi, by omega, by go_num, HF.out, HR.out⟩
            case measure => simp [intOf]; omega
          | false =>
            rw [if_neg (by rw [ho]; simp)] at h1
            injection h1 with h1
            rw [ho] at c4
            subst h1
            have hwi := HWI.out
            go_wp2_with fail
            go_roundw
            case rel => exact ⟨i + 1, si, vi, by omega, by go_num, HF.out, HR.out⟩
            case measure => simp [intOf]; omega
      · have hs1 : si = s1 := by
          have hf := HF.out
          rw [List.drop_eq_nil_of_le (by omega)] at hf
          injection hf
        subst hs1
        clear HF
        have c1 := cell1 HR.out.b.low
        have c2 := HR.out.low_at HV.out
        have c3 := cell1 HR.out.b.num
        have c4 := HR.out.num_at HV.out
        have he2 := HE2.out
        unfold endV at he2
        by_cases hlt2 : si.L v < si.N v
        · rw [if_pos hlt2] at he2
          injection he2 with he2
          subst he2
          go_upto_region 13 with (fail)
          go_region
          replace HR := Aside0.mk (HR.out.drew HL.out)
          clear c1 c2 c3 c4
          generalize wr.drew = W7 at HR ⊢
          go_wp2_with fail
          exact bodyPost_ret (v := .tuple #[]) (by simp [results, Try.results33, go_sem]) rfl ⟨rfl, vi, HR.out⟩
        · rw [if_neg hlt2] at he2
          split at he2
          case isFalse => cases he2
          rename_i hvm
          injection he2 with he2
          have HS := Aside0.mk he2
          clear he2
          go_upto_region 13 with (fail)
          go_region
          replace HR := Aside0.mk (HR.out.drew HL.out)
          clear c1 c2 c3 c4
          generalize wr.drew = W7 at HR ⊢
          have HVM := Aside0.mk hvm
          have hpl : 0 < si.stack.length := List.length_pos_of_mem hvm
          obtain ⟨gs, cs, rfl, hgt, hgl⟩ := HR.out.row.form hpl
          have HCP := Aside0.mk (own_cap HR.out.row)
          have HLEN := Aside0.mk (show si.stack.length ≤ 9223372036854775807 by have h1 := own_max HR.out.row; have h2 := HCP.out; unfold maxLen at h1; omega)
          obtain ⟨p, hp⟩ : ∃ p, p = si.stack.idxOf v := ⟨_, rfl⟩
          have hpn : p < si.stack.length := by rw [hp]; exact List.idxOf_lt_length_of_mem hvm
          have HP := Aside0.mk hp
          have HPN := Aside0.mk hpn
          clear hvm hpl hp hpn hlt2
          have c1 := cell1 HR.out.b.stk
          go_upto_region 15 with (go_at_call 34; with_reducible refine (Try.slices_Index_int gs 0 si.stack.length cs (ints si.stack) (v : Int) W7 (by rw [ints_len]; exact Nat.le_refl _) (by have := HLEN.out; omega) (fun j hj => stack_cell HR.out.row j (by rw [ints_len] at hj; exact hj))).mono ?_; rintro e W8 ⟨rfl, hW⟩; obtain rfl := hW; rw [idx_ints HVM.out, ← HP.out])
          have hp0 : (0 : Int) ≤ (p : Int) := Int.natCast_nonneg p
          have hp1 : (p : Int) ≤ (si.stack.length : Int) := by have := HPN.out; omega
          have hp2 : p ≤ si.stack.length := Nat.le_of_lt HPN.out
          have hp3 : si.stack.length ≤ cs := HCP.out
          have hp4 : ¬ cs = p := by have := HPN.out; omega
          go_upto_region 16 with (fail)
          clear hp0 hp1 hp2 hp3 hp4 c1
          obtain ⟨q, hq⟩ : ∃ q, q = si.stack.length - p := ⟨_, rfl⟩
          obtain ⟨grp, hgrp⟩ : ∃ grp, grp = si.stack.drop p := ⟨_, rfl⟩
          have hql : grp.length = q := by rw [hgrp, List.length_drop, hq]
          have hq0 : 0 < q := by have := HPN.out; omega
          have HQ := Aside0.mk (And.intro hql (And.intro hgrp hq0))
          have hsc : ∀ (wz : World) (sz : TS) , Rep w1 L wz sz (.slice (some ⟨gs, 0, none⟩) si.stack.length cs) → sz.stack = si.stack → ∀ j, j < q → wz.cell? ⟨gs, p + j, none⟩ = some (.int .i64 ((ints grp).getD j 0)) := fun wz sz hz he j hj => by
            have h1 := hz.row
            rw [he] at h1
            have h2 := stack_cell h1 (p + j) (by omega)
            rw [Nat.zero_add] at h2
            rw [h2, hgrp]
            unfold ints
            rw [List.getD_eq_getElem?_getD, List.getD_eq_getElem?_getD, List.map_drop, List.getElem?_drop]
          have HSC := Aside0.mk hsc
          rw [← hq]
          clear hsc hgrp hq0 hql hq
          have hg0 : ¬ grp = [] := by
            intro hh
            have h1 := HQ.out.1
            have h2 := HQ.out.2.2
            rw [hh, List.length_nil] at h1
            omega
          have hqm : q ≤ 9223372036854775807 := by
            have h1 := HLEN.out
            have h2 := HQ.out.1
            rw [HQ.out.2.1, List.length_drop] at h2
            omega
          go_wp2_with fail
          refine (Try.slices_Min_int gs p q (cs - p) (ints grp) W8 HQ.out.2.2 (by rw [ints_len, HQ.out.1]; exact Nat.le_refl _) hqm (fun j hj => HSC.out W8 si HR.out rfl j (by rw [ints_len, HQ.out.1] at hj; exact hj))).mono ?_
          rintro e W9 ⟨rfl, hW⟩
          obtain rfl := hW
          rw [List.take_of_length_le (by rw [ints_len, HQ.out.1]; exact Nat.le_refl _), min_ints grp hg0]
          clear hg0 hqm
          obtain ⟨least, hleast⟩ : ∃ least, least = leastOf grp := ⟨_, rfl⟩
          have HLS := Aside0.mk hleast
          rw [← hleast]
          clear hleast
          go_upto_block 2 with (fail)
          go_wp2_with fail
          have HHN := Aside0.mk (show ∀ j, (hj : j < grp.length) → grp[j] < L.n from fun j hj => HR.out.wf.stk _ (by
            have hm : grp[j] ∈ si.stack.drop p := by
              rw [← HQ.out.2.1]
              exact List.getElem_mem hj
            exact List.mem_of_mem_drop hm))
          go_loopw [99] (fun iv wx => ∃ (j : Nat), j ≤ q ∧ iv = .int .i64 (j : Int) ∧ Hid (Rep w1 L wx (cutS si grp least j) (.slice (some ⟨gs, 0, none⟩) si.stack.length cs))) (fun iv _ => q - (intOf iv).toNat)
          case atStart => exact ⟨0, Nat.zero_le _, rfl, HR.out⟩
          case round =>
            clear hlt hi
            obtain ⟨j, hj, rfl, hr⟩ := hrel
            replace HR : Aside0 (Rep w1 L wr (cutS si grp least j) (.slice (some ⟨gs, 0, none⟩) si.stack.length cs)) := Aside0.mk hr
            clear hr
            by_cases hlt : (j : Int) < (q : Int)
            · have hj1 : j < q := by omega
              have hj2 : j < grp.length := by rw [HQ.out.1]; exact hj1
              have q1 := HSC.out wr _ HR.out rfl j hj1
              obtain ⟨x, hx⟩ : ∃ x, grp[j] = x := ⟨_, rfl⟩
              have hxn := HHN.out j hj2
              rw [hx] at hxn
              have HXN := Aside0.mk hxn
              have q2 : (ints grp).getD j 0 = (x : Int) := by
                unfold ints
                rw [List.getD_eq_getElem?_getD, List.getElem?_map, List.getElem?_eq_getElem hj2, hx]
                rfl
              rw [q2] at q1
              have HC := Aside0.mk (cutS_step si grp least j hj2)
              rw [hx] at HC
              have hwi : IntKind.i64.wrap ((j : Int) + 1) = (j : Int) + 1 := by have h1 := HLEN.out; have h2 := HQ.out.1; rw [HQ.out.2.1, List.length_drop] at h2; rw [IntKind.wrap_i64]; omega
              have HWI := Aside0.mk hwi
              clear hwi hx q2 hxn hj2
              have hxi : (x : Int) < (L.n : Int) := by have := HXN.out; omega
              have hx0 : (0 : Int) ≤ (x : Int) := Int.natCast_nonneg x
              go_upto_region 20 with (fail)
              clear q1
              have c1 := cell1 HR.out.b.out
              have c2 := HR.out.out_at HXN.out
              have c3 := cell1 HR.out.b.opn
              have c4 := HR.out.opn_at HXN.out
              have f1 := blk_frozen HR.out.b.outr x
              have f2 := blk_frozen HR.out.b.opnr x
              have e1 : ¬ L.ru = L.ro := blk_ne HR.out.b.outr HR.out.b.opnr (by decide)
              have e2 : ¬ L.ro = L.ru := fun h => e1 h.symm
              have e3 : ¬ L.bu = L.ru := blk_ne HR.out.b.out HR.out.b.outr (by decide)
              have e4 : ¬ L.ru = L.bu := fun h => e3 h.symm
              have e5 : ¬ L.bu = L.ro := blk_ne HR.out.b.out HR.out.b.opnr (by decide)
              have e6 : ¬ L.ro = L.bu := fun h => e5 h.symm
              have e7 : ¬ L.bo = L.ru := blk_ne HR.out.b.opn HR.out.b.outr (by decide)
              have e8 : ¬ L.ru = L.bo := fun h => e7 h.symm
              have e9 : ¬ L.bo = L.ro := blk_ne HR.out.b.opn HR.out.b.opnr (by decide)
              have e10 : ¬ L.ro = L.bo := fun h => e9 h.symm
              go_region
              clear c1 c2 c3 c4 f1 f2 e1 e2 e3 e4 e5 e6 e7 e8 e9 e10
              replace HR := Aside0.mk ((((HR.out.setOut HL.out x least).setOpn HL.out x false)).drew HL.out)
              replace HR : Aside0 (Rep w1 L ((wr.setCell ⟨L.ru, x, none⟩ (.int .i64 (least : Int))).setCell ⟨L.ro, x, none⟩ (.bool false)).drew (cutS si grp least (j + 1)) (.slice (some ⟨gs, 0, none⟩) si.stack.length cs)) := Aside0.mk (HC.out ▸ HR.out)
              generalize ((wr.setCell ⟨L.ru, x, none⟩ (.int .i64 (least : Int))).setCell ⟨L.ro, x, none⟩ (.bool false)).drew = W10 at HR ⊢
              have hwi := HWI.out
              go_wp2_with fail
              go_roundw
              case rel => exact ⟨j + 1, by omega, by go_num, HR.out⟩
              case measure => simp [intOf]; omega
            · obtain rfl : j = q := by omega
              have c1 := cell1 HR.out.b.stk
              have f1 := blk_frozen HR.out.b.stk 0
              have hp0 : (0 : Int) ≤ (p : Int) := Int.natCast_nonneg p
              have hp1 : (p : Int) ≤ (si.stack.length : Int) := by have := HPN.out; omega
              have hp2 : p ≤ si.stack.length := Nat.le_of_lt HPN.out
              have hp3 : si.stack.length ≤ cs := HCP.out
              have hp5 : p ≤ cs := by omega
              go_wp2_with fail
              have hO := own_take HR.out.row (k := p) hp2
              have hl : (si.stack.take p).length = p := by rw [List.length_take]; omega
              have hN : (nats si.stack).take (p * 1) = nats (si.stack.take p) := by unfold nats; rw [Nat.mul_one, List.map_take]
              have hF := HR.out.setStk (W' := wr) (vs' := .slice (some ⟨gs, 0, none⟩) p cs) (st := si.stack.take p) HL.out (fun x hx => HR.out.wf.stk x (List.mem_of_mem_take hx)) (fun _ _ => rfl) HR.out.below (by rw [hl, ← hN]; exact hO) HR.out.top
              have hS : (⟨(cutS si grp least j).last, (cutS si grp least j).num, (cutS si grp least j).low, si.stack.take p, (cutS si grp least j).opn, (cutS si grp least j).out⟩ : TS) = s' := by
                rw [← HS.out]
                unfold cutS popV
                rw [List.take_of_length_le (by rw [HQ.out.1]; exact Nat.le_refl _), HLS.out, HQ.out.2.1, HP.out]
              have hF' : Rep w1 L (wr.setCell ⟨L.bs, 0, none⟩ (.slice (some ⟨gs, 0, none⟩) p cs)) s' (.slice (some ⟨gs, 0, none⟩) p cs) := hS ▸ hF
              exact bodyPost_end (results_none rfl _ _ _) rfl ⟨rfl, _, hF'⟩
end Go.Proofs.Ytjbgealnnlmchaa.G
