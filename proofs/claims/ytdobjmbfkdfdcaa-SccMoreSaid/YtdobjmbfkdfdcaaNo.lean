/- scc.Order tells greedy's order. Its contract names its state. -/
import Derived.Test.YtdobjmbfkdfdcaaQb
import Derived.Test.YtdobjmbfkdfdcaaNc
import Derived.BigRegion
set_option linter.unusedVariables false
set_option linter.unusedSimpArgs false
namespace Go.Proofs.Ytdobjmbfkdfdcaa.G
open Go.RowKit Go.Proofs.Ytdobjmbfkdfdcaa.B Go.Proofs.YtdobjmbfkdfdcaaW.PrintWords Go.Proofs.YtdobjmbfkdfdcaaW.PrintLast Go.Proofs.YtdobjmbfkdfdcaaW.PrintMore

set_option maxRecDepth 100000 in
set_option maxHeartbeats 8000000 in
theorem order_c (n0 : Int) (A1 : Option Addr) (cE : Nat) (l1 : List S33) (w : World) (hr1 : Kd.C k33 w A1 l1.length l1) (hc1 : l1.length ≤ cE) (hl : l1.length ≤ 1000000) :
    Calls Try.prog 14 #[.int .i64 n0, .slice A1 l1.length cE] w fun e w' => ∃ R A c r, e = .returned (.slice A R.length c) ∧ R.length ≤ c ∧ GrpOk (sizeN n0) l1 r ∧ greedy (sizeN n0) l1 r (sizeN n0 + 1) (List.replicate (sizeN n0) false) [] = some R ∧ Kd.C (Kd.int .i64) w' A R.length (ints R) ∧ Below w.heap.size w w' := by
  obtain ⟨kg, hf⟩ := graph_f n0 l1 hl
  obtain ⟨sE, hs, hgr⟩ := groups_ok (sizeN n0) l1 (sizeN_le n0)
  have hgc := groups_c n0 A1 cE l1 w (graphS (sizeN n0) l1) kg hr1 hc1 hf (by rw [graphS_len]; exact sizeN_le n0) (fun v x hx => by rw [graphS_len]; exact (EE_lt ((graphS_mem _ _ v x).1 hx)).2) (fun v => Nat.le_trans (graphS_row _ _ v) hl) sE hs
  rw [graphS_len] at hgc
  have HGC := Aside0.mk hgc
  have HF := Aside0.mk hf
  have HR1 := Aside0.mk hr1
  have HC1 := Aside0.mk hc1
  have HL1 := Aside0.mk hl
  have HN2 := Aside0.mk (sizeN_le n0)
  have HSZ := Aside0.mk (fun (l : List S33) (h : l.length ≤ 1000000) => graph_f n0 l h)
  clear hgc hf hr1 hc1 hl hs
  generalize sE.out = r at HGC hgr
  generalize sizeN n0 = N at HGC HF HN2 HSZ hgr ⊢
  have HG := Aside0.mk hgr
  clear hgr
  go_enter Try.func14, Try.ntmps14
  go_wp2_with fail
  refine HGC.out.mono ?_
  rintro e w1 ⟨Ar, cr, rfl, hcr, hCR, hb1⟩
  have HCR := Aside0.mk hCR
  have HB1 := Aside0.mk hb1
  clear hcr hCR hb1 HGC
  have hmk := run_make_row' (P := Try.prog) 27 3 (.int .i64 0) 8 Try.underlying27 info3 rfl .i64 .i64 N (by have := HN2.out; omega) (by have := HN2.out; omega)
  go_upto_region 3 with (fail)
  clear hmk
  rw [made_izs]
  have HX := Aside0.mk (blk_new w1 (.cells (izs (List.replicate N 0)).toArray 3))
  have HB := Aside0.mk (below_alloc (Below.refl w1.heap.size w1) (.cells (izs (List.replicate N 0)).toArray 3))
  have HZ : Aside0 ((w1.alloc (.cells (izs (List.replicate N 0)).toArray 3)).heap.size = w1.heap.size + 1) := Aside0.mk (by simp)
  generalize w1.alloc (.cells (izs (List.replicate N 0)).toArray 3) = W1 at HX HB HZ ⊢
  have HR1' := Aside0.mk (Kd.C_below HR1.out (below_step HB1.out HB.out))
  have hgc2 := scc_graph.calls kg n0 A1 cE l1 _ W1 HR1'.out HC1.out HF.out
  have HGC2 := Aside0.mk hgc2
  clear hgc2
  go_upto_block 0 with (go_at_call 18; refine HGC2.out.mono ?_; rintro e W2 ⟨v2, rfl, hS, hb2⟩; obtain ⟨inner, hin⟩ := Kd.S_own hS; obtain ⟨ag, cg, rfl⟩ := own_form hin; rw [List.length_map, graphS_len])
  rw [List.length_map, graphS_len] at hS
  have HGS := Aside0.mk hS
  have hLS : LS w1 W2 W2 W1.heap.size w1.heap.size (List.replicate N 0) (.slice none 0 0) [] :=
    ⟨blk_below HX.out hb2, ⟨Nat.le_refl _, by have := HZ.out; omega, hb2.size⟩, Kd.R_nil _ _ _ _ _, fun _ _ _ => rfl, below_step HB.out hb2, Nat.le_refl _⟩
  have HLS := Aside0.mk hLS
  clear hLS hS hin hb2 HGC2 HX HB HR1'
  generalize hb0 : W1.heap.size = b0 at HLS HZ HGS
  clear hb0
  have HBT := Aside0.mk (fun v (hv : v ≤ N) => links_ok (l := l1) (r := r) (fun v hv => (HG.out.lt v hv).1) v hv)
  generalize hga : w1.heap.size = ga at HLS ⊢
  have HGA := Aside0.mk hga
  clear hga
  go_wp2_with fail
  go_loopw [7, 32] (fun v7 iv wx => ∃ (i : Nat) (v : Value), i ≤ N ∧ iv = .int .i64 (i : Int) ∧ v = v7 ∧ Hid (LS w1 W2 wx b0 ga (linksS (graphS N l1) r i).2 v (linksS (graphS N l1) r i).1)) (fun _ iv _ => N - (intOf iv).toNat)
  case atStart => exact ⟨0, _, Nat.zero_le _, rfl, rfl, by unfold linksS; rw [graphS_len]; exact HLS.out⟩
  case round =>
    obtain ⟨i, v, hi, rfl, rfl, h1⟩ := hrel
    replace HLS : Aside0 (LS w1 W2 wr b0 ga (linksS (graphS N l1) r i).2 v (linksS (graphS N l1) r i).1) := Aside0.mk h1
    clear h1
    by_cases hlt : (i : Int) < (N : Int)
    · have hi1 : i < N := by omega
      have hi0 : (0 : Int) ≤ (i : Int) := Int.natCast_nonneg i
      have hwi : IntKind.i64.wrap ((i : Int) + 1) = (i : Int) + 1 := by have := HN2.out; rw [IntKind.wrap_i64]; omega
      have HWI := Aside0.mk hwi
      clear hwi
      obtain ⟨ad, A0, c0, hA, hrow⟩ := rows_at HGS.out i (by rw [graphS_len]; exact hi1)
      subst hA
      have HWM := Aside0.mk (fun x hx => (EE_lt ((graphS_mem N l1 i x).1 hx)).2)
      have HWL := Aside0.mk (Nat.le_trans (graphS_row N l1 i) HL1.out)
      have HLI := Aside0.mk (fun j => links_in N l1 r i j)
      have HLN := Aside0.mk (show linksS (graphS N l1) r (i + 1) = ((graphS N l1).getD i []).foldl (linkS r i) (linksS (graphS N l1) r i) from rfl)
      have HBI := Aside0.mk (HBT.out i hi)
      generalize hws : (graphS N l1).getD i [] = ws at hrow HWM HWL HLI HLN
      clear hws
      generalize hp0 : linksS (graphS N l1) r i = p0 at HLS HLI HLN HBI
      clear hp0
      have q0 := (hrow wr HLS.out.mid).1
      have HROW := Aside0.mk (fun W h => (hrow W h).2)
      clear hrow
      go_upto_block 2 with (fail)
      clear q0
      go_wp2_with fail
      go_loopw [7, 39] (fun v7 jv wx => ∃ (j : Nat) (v : Value), j ≤ ws.length ∧ jv = .int .i64 (j : Int) ∧ v = v7 ∧ Hid (LS w1 W2 wx b0 ga ((ws.take j).foldl (linkS r i) p0).2 v ((ws.take j).foldl (linkS r i) p0).1)) (fun _ jv _ => ws.length - (intOf jv).toNat)
      case atStart => exact ⟨0, _, Nat.zero_le _, rfl, rfl, HLS.out⟩
      case round =>
        obtain ⟨j, v, hj, rfl, rfl, h1⟩ := hrel
        replace HLS : Aside0 (LS w1 W2 wr b0 ga ((ws.take j).foldl (linkS r i) p0).2 v ((ws.take j).foldl (linkS r i) p0).1) := Aside0.mk h1
        clear h1
        by_cases hltj : (j : Int) < (ws.length : Int)
        · have hj1 : j < ws.length := by omega
          have hj0 : (0 : Int) ≤ (j : Int) := Int.natCast_nonneg j
          have hwj : IntKind.i64.wrap ((j : Int) + 1) = (j : Int) + 1 := by have := HWL.out; rw [IntKind.wrap_i64]; omega
          have HWJ := Aside0.mk hwj
          clear hwj
          have hC := HROW.out wr HLS.out.mid
          obtain ⟨ad2, hA2, q1⟩ := Kd.at_int hC (j : Int) hj0 hltj
          rw [rd_ints ws j hj1, Int.toNat_natCast] at q1
          have hstep : (ws.take (j + 1)).foldl (linkS r i) p0 = linkS r i ((ws.take j).foldl (linkS r i) p0) ws[j] := by rw [List.take_succ_eq_append_getElem hj1, List.foldl_append]; rfl
          have hxN := HWM.out ws[j] (List.getElem_mem hj1)
          have hBJ := BtI.row (fun v hv => (HG.out.lt v hv).1) i (ws.take j) HBI.out (fun x hx => HWM.out x (List.mem_of_mem_take hx))
          have HLJ := Aside0.mk (HLI.out j)
          generalize ws[j] = x at q1 hstep hxN
          have hCr := Kd.C_below HCR.out HLS.out.below
          obtain ⟨ad3, hA3, g1⟩ := Kd.at_int hCr (i : Int) hi0 hlt
          obtain ⟨ad4, hA4, g2⟩ := Kd.at_int hCr (x : Int) (Int.natCast_nonneg x) (by omega)
          obtain rfl : ad3 = ad4 := by rw [hA3] at hA4; injection hA4
          rw [rd_ints' HG.out.1 i hi1, Int.toNat_natCast] at g1
          rw [rd_ints' HG.out.1 x hxN, Int.toNat_natCast] at g2
          have hx0 : (0 : Int) ≤ (x : Int) := Int.natCast_nonneg x
          have hx1 : (x : Int) < (N : Int) := by omega
          have hbN := (HG.out.lt x hxN).1
          have hlk : ∀ P : List S33 × List Int, linkS r i P x = if r.getD i 0 = r.getD x 0 then P else (P.1 ++ [⟨((r.getD i 0 : Nat) : Int), 0, ((r.getD x 0 : Nat) : Int)⟩], P.2.set (r.getD x 0) (P.2.getD (r.getD x 0) 0 + 1)) := fun P => rfl
          rw [hlk] at hstep
          clear hlk
          generalize hpj : (ws.take j).foldl (linkS r i) p0 = pj at hstep hBJ HLJ HLS
          have HBJ := Aside0.mk hBJ
          clear hBJ hpj hC hCr
          subst hA2
          subst hA3
          generalize r.getD x 0 = b at hstep g2 hbN
          generalize r.getD i 0 = a at hstep g1
          have HST := Aside0.mk hstep
          clear hstep
          go_upto_region 10 with (fail)
          go_still (by kernel_rfl)
          generalize hwn : ({ heap := wr.heap, tape := wr.tape, drawn := wr.drawn + 1, os := wr.os, output := wr.output } : World) = wn
          replace HLS : Aside0 (LS w1 W2 wn b0 ga pj.2 v pj.1) := Aside0.mk (by rw [← hwn]; exact HLS.out.drew)
          clear hwn
          have hstep := HST.out
          clear HST g1 g2 q1
          by_cases hab : a = b
          · rw [if_pos hab] at hstep
            have HPS := Aside0.mk hstep
            clear hstep
            have e1 : ((a : Int) == (b : Int)) = true := beq_iff_eq.mpr (by omega)
            have e2 : (a == b) = true := beq_iff_eq.mpr hab
            have e3 : decide ((a : Int) = (b : Int)) = true := decide_eq_true (by omega)
            have hwj := HWJ.out
            clear hab
            go_wp2_with fail
            go_roundw
            case rel => exact ⟨j + 1, v, by omega, by go_num, rfl, by rw [HPS.out]; exact HLS.out⟩
            case measure => simp [intOf]; omega
          · rw [if_neg hab] at hstep
            have HPS := Aside0.mk hstep
            clear hstep
            have e1 : ((a : Int) == (b : Int)) = false := beq_eq_false_iff_ne.mpr (by omega)
            have e2 : (a == b) = false := beq_eq_false_iff_ne.mpr hab
            have e3 : decide ((a : Int) = (b : Int)) = false := decide_eq_false (by omega)
            clear hab
            go_upto_region 12 with (fail)
            clear e1 e2 e3
            have hcap : (pj.1.length + 1) * 24 ≤ 140737488355328 := by have := HLJ.out; have := HL1.out; omega
            have HCAP := Aside0.mk hcap
            clear hcap
            go_upto_region 13 with (at_builtin; (refine Kd.R_append k33 (w0 := wn) W2.heap.size rfl (.tmp 54) (.tmp 58) 22 33 (.agg #[.int .i64 0, .int .i64 0, .int .i64 0]) 24 rfl Try.underlying22 info33 rfl (by show 0 < 3; decide) (by decide) v pj.1 ⟨(a : Int), 0, (b : Int)⟩ [.int .i64 (a : Int), .int .i64 0, .int .i64 (b : Int)] (fun _ => True) (fun _ => False) rfl rfl (k33_mkM _ _ _ _) (fun _ h => h.elim) (fun _ _ => trivial) HLS.out.row (Below.refl _ _) HLS.out.sz HCAP.out ?_; intro v1 wm hR1 hB1 hg1 hat1))
            replace HLS := Aside0.mk (HLS.out.grow hR1 hg1)
            clear hR1 hB1 hg1 hat1
            have c1 := (blk_cell HLS.out.ah b).trans (izs_at pj.2 b (by rw [HBJ.out.len]; exact hbN))
            have f1 := blk_frozen HLS.out.ah b
            have hX : 0 ≤ pj.2.getD b 0 ∧ pj.2.getD b 0 ≤ 1000000 := by
              rw [HBJ.out.cnt b hbN]
              have := List.countP_le_length (p := fun e : S33 => decide (e.f2 = (b : Int))) (l := pj.1)
              have := HLJ.out
              have := HL1.out
              omega
            generalize hXX : pj.2.getD b 0 = X at c1 hX HPS
            have hwX : IntKind.i64.wrap (X + 1) = X + 1 := by rw [IntKind.wrap_i64]; omega
            have HX2 := Aside0.mk hX
            have hb0' : (0 : Int) ≤ (b : Int) := Int.natCast_nonneg b
            have hbN' : (b : Int) < (N : Int) := by omega
            have hwj := HWJ.out
            clear hX hXX
            go_wp2_with fail
            go_roundw
            case rel => exact ⟨j + 1, v1, by omega, by go_num, rfl, by rw [HPS.out]; exact HLS.out.put b _⟩
            case measure => simp [intOf]; omega
        · have hje : j = ws.length := by omega
          subst hje
          rw [List.take_length] at HLS
          rw [← HLN.out] at HLS
          have hwi := HWI.out
          go_wp2_with fail
          go_roundw
          case rel => exact ⟨i + 1, v, by omega, by go_num, rfl, HLS.out⟩
          case measure => simp [intOf]; omega
    · have hie : i = N := by omega
      rw [hie] at HLS
      have hbi := HBT.out N (Nat.le_refl _)
      have hbl : (linksS (graphS N l1) r N).1.length ≤ 1000000 := by
        have h1 := links_len (graphS N l1) r N
        have h2 := sumL_take_le (graphS N l1) N
        have h3 := graphS_sum N l1
        have := HL1.out
        omega
      generalize linksS (graphS N l1) r N = p at HLS hbi hbl
      obtain ⟨kg3, hf3⟩ := HSZ.out p.1 hbl
      obtain ⟨Ab, cb, hvb⟩ := Kd.R_slice HLS.out.row
      subst hvb
      obtain ⟨_, hcb, hCB⟩ := Kd.R_reads' HLS.out.row
      have HGC3 := Aside0.mk (scc_graph.calls kg3 n0 Ab cb p.1 _ wr hCB hcb hf3)
      have HAH := Aside0.mk (ah_start hbi)
      have HOKE : Aside0 (∀ e ∈ p.1, okE N e) := Aside0.mk (fun e he => by
        obtain ⟨a, b, h1, h2, rfl⟩ := (hbi.mem e).1 he
        have h3 := EE_lt h1.2
        have h4 := (HG.out.lt a h3.1).1
        have h5 := (HG.out.lt b h3.2).1
        unfold okE linkE
        dsimp only
        omega)
      have HFZ := Aside0.mk (fun (D : List Bool) (AH : List Int) (h : AHOk N p.1 D AH) v (hv : v < N) => ah_zero (l := l1) hbi (fun a b => ⟨fun h => h.2, fun h => ⟨(EE_lt h).1, h⟩⟩) (fun v hv => (HG.out.lt v hv).1) h v hv)
      have HPL := Aside0.mk hbl
      clear hbi hbl hf3 hcb hCB HBT HF HGS hie
      have hmk4 := run_make_row' (P := Try.prog) 39 4 (.bool false) 1 Try.underlying39 info4 rfl .i64 .i64 N (by have := HN2.out; omega) (by have := HN2.out; omega)
      have HMK4 := Aside0.mk hmk4
      clear hmk4
      go_upto_region 17 with (go_at_call 18; refine HGC3.out.mono ?_; rintro e W3 ⟨v3, rfl, hS3, hb3⟩; obtain ⟨inner, hin⟩ := Kd.S_own hS3; obtain ⟨ag3, cg3, rfl⟩ := own_form hin; rw [List.length_map, graphS_len])
      rw [List.length_map, graphS_len] at hS3
      have HTO := Aside0.mk hS3
      have HB3 := Aside0.mk hb3
      clear hS3 hb3 hin HGC3
      have hmk4 := HMK4.out
      go_upto_block 4 with (fail)
      clear hmk4 HMK4
      rw [made_bools]
      have hOS : OS w1 W3 (W3.alloc (.cells (bools (List.replicate N false)).toArray 4)) wr.heap.size ga W3.heap.size p.2 (List.replicate N false) (.slice none 0 0) [] :=
        ⟨blk_alloc (blk_below HLS.out.ah HB3.out) _, blk_new _ _, ⟨HLS.out.lo.1, blk_lt HLS.out.ah, HB3.out.size, Nat.le_refl _⟩, World.ownsRow_nil _ _ _ _, fun k _ hk => heap_alloc_old W3 _ hk, below_alloc (below_step HLS.out.below HB3.out) _, by simp⟩
      have HOS := Aside0.mk hOS
      clear hOS HLS HB3
      generalize wr.heap.size = b3 at HOS HTO
      generalize W3.heap.size = gd at HOS ⊢
      generalize W3.alloc (.cells (bools (List.replicate N false)).toArray 4) = W4 at HOS ⊢
      obtain ⟨R, hR⟩ := greedy_start N l1 r
      have HR := Aside0.mk hR
      have HR0 := Aside0.mk hR
      clear hR
      go_wp2_with fail
      go_loopg [16] (N + 1) (fun kq v16 wx => ∃ (AH : List Int) (D : List Bool) (out : List Nat) (Ao : Option Addr) (co : Nat), v16 = .slice Ao out.length co ∧ Hid (greedy N l1 r kq D out = some R) ∧ Hid (AHOk N p.1 D AH) ∧ Hid (OS w1 W3 wx b3 ga gd AH D (.slice Ao out.length co) out) ∧ Hid (D.length = N ∧ out.length + kq ≤ N + 1))
      case atStart => exact ⟨p.2, List.replicate N false, [], none, 0, rfl, HR.out, HAH.out, HOS.out, List.length_replicate, by simp⟩
      case round =>
        clear HR HAH HOS
        obtain ⟨AH, D, out, Ao, co, rfl, h1, h2, h3, h4⟩ := hrel
        have HR := Aside0.mk (show greedy N l1 r gk D out = some R from h1)
        have HAH := Aside0.mk (show AHOk N p.1 D AH from h2)
        have HOS := Aside0.mk (show OS w1 W3 wr b3 ga gd AH D (.slice Ao out.length co) out from h3)
        have HDL := Aside0.mk (show D.length = N ∧ out.length + gk ≤ N + 1 from h4)
        clear h1 h2 h3 h4
        cases gk with
        | zero => exact absurd HR.out (by unfold greedy; simp)
        | succ gk =>
          have HNX : Aside0 (∀ v, v < N → isNext N l1 r D v = (decide (r.getD v 0 = v) && !D.getD v false && decide (AH.getD v 0 = 0))) := Aside0.mk (fun v hv => by unfold isNext; rw [HFZ.out D AH HAH.out v hv])
          go_upto_block 6 with (fail)
          go_wp2_with fail
          go_loopw [17, 76] (fun v17 jv wx => ∃ (j : Nat), j ≤ N ∧ v17 = .int .i64 (-1) ∧ jv = .int .i64 (j : Int) ∧ Hid (OS w1 W3 wx b3 ga gd AH D (.slice Ao out.length co) out) ∧ Hid (∀ k, k < j → isNext N l1 r D k = false)) (fun _ jv _ => N - (intOf jv).toNat)
          case atStart => exact ⟨0, Nat.zero_le _, rfl, rfl, HOS.out, fun k hk => absurd hk (Nat.not_lt_zero _)⟩
          case round =>
            obtain ⟨j, hj, rfl, rfl, h1, h2⟩ := hrel
            replace HOS : Aside0 (OS w1 W3 wr b3 ga gd AH D (.slice Ao out.length co) out) := Aside0.mk h1
            have HNO := Aside0.mk (show ∀ k, k < j → isNext N l1 r D k = false from h2)
            clear h1 h2
            by_cases hltj : (j : Int) < (N : Int)
            · have hj1 : j < N := by omega
              have hj0 : (0 : Int) ≤ (j : Int) := Int.natCast_nonneg j
              have hwj : IntKind.i64.wrap ((j : Int) + 1) = (j : Int) + 1 := by have := HN2.out; rw [IntKind.wrap_i64]; omega
              have HWJ := Aside0.mk hwj
              clear hwj
              have hnx := HNX.out j hj1
              have hCr := Kd.C_below HCR.out HOS.out.below
              obtain ⟨ad3, hA3, g1⟩ := Kd.at_int hCr (j : Int) hj0 hltj
              rw [rd_ints' HG.out.1 j hj1, Int.toNat_natCast] at g1
              subst hA3
              clear hCr
              have hnext : isNext N l1 r D j = false → ∀ k, k < j + 1 → isNext N l1 r D k = false := fun h k hk => by
                by_cases hh : k = j
                · rw [hh]; exact h
                · exact HNO.out k (by omega)
              have HNE := Aside0.mk hnext
              clear hnext
              have c3 := (blk_cell HOS.out.dn j).trans (bool_at D j (by rw [HDL.out.1]; exact hj1))
              have c4 := (blk_cell HOS.out.ah j).trans (izs_at AH j (by rw [HAH.out.1]; exact hj1))
              by_cases hgj : r.getD j 0 = j
              · rw [hgj] at g1
                rw [decide_eq_true hgj, Bool.true_and] at hnx
                cases hD : D.getD j false with
                | true =>
                  rw [hD] at hnx c3
                  have HNF := Aside0.mk (HNE.out hnx)
                  have hwj := HWJ.out
                  clear hnx hD hgj c4
                  go_wp2_with fail
                  go_roundw
                  case rel => exact ⟨j + 1, by omega, rfl, by go_num, HOS.out, HNF.out⟩
                  case measure => simp [intOf]; omega
                | false =>
                  rw [hD] at hnx c3
                  rw [Bool.not_false, Bool.true_and] at hnx
                  by_cases hX : AH.getD j 0 = 0
                  · rw [decide_eq_true hX] at hnx
                    rw [hX] at c4
                    have HPK := Aside0.mk (greedy_some HR.out (pick_at hj1 hnx HNO.out))
                    have HDF := Aside0.mk hD
                    have k1 : ¬ (j : Int) < 0 := by omega
                    have k1' : decide ((j : Int) < 0) = false := decide_eq_false k1
                    clear hnx hD hgj hX k1
                    have f3 := blk_frozen HOS.out.dn j
                    go_upto_region 29 with (fail)
                    clear c3 c4 f3 g1 k1'
                    replace HOS := Aside0.mk (HOS.out.mark j)
                    generalize wr.setCell ⟨gd, j, none⟩ (.bool true) = W5 at HOS ⊢
                    have hol : out.length ≤ 4000000 := by
                      have := HN2.out
                      have := HDL.out.2
                      omega
                    have HOL := Aside0.mk hol
                    clear hol
                    go_upto_region 30 with (at_builtin; (refine append_nat (w := W5.alloc (.cells #[.int .i64 (j : Int)] 3)) W3.heap.size rfl (.tmp 106) (.tmp 108) rfl (.slice Ao out.length co) out j rfl (HOS.out.row.alloc _) W5.heap.size rfl ((blk_cell (blk_new W5 (.cells #[.int .i64 (j : Int)] 3)) 0).trans rfl) (by have := HOS.out.sz; simp; omega) HOL.out ?_; intro Ao1 co1 W6 hrow6 hgrow6 hown6))
                    have hol1 : (out ++ [j]).length = out.length + 1 := by rw [List.length_append, List.length_singleton]
                    replace HOS := Aside0.mk ((HOS.out.alloc _).told (out' := out ++ [j]) hgrow6 (by rw [hol1]; exact hrow6))
                    clear hrow6 hgrow6 hown6
                    rw [← hol1] at HOS ⊢
                    obtain ⟨ad5, A5, c5, hA5, hrow5⟩ := rows_at HTO.out j (by rw [graphS_len]; exact hj1)
                    have HAS := Aside0.mk (ah_step HAH.out HOKE.out HDL.out.1 j hj1 HDF.out)
                    have HWM := Aside0.mk (fun x hx => (EE_lt ((graphS_mem N p.1 j x).1 hx)).2)
                    have HWL := Aside0.mk (Nat.le_trans (graphS_row N p.1 j) HPL.out)
                    generalize (graphS N p.1).getD j [] = ws at hrow5 HAS HWM HWL
                    have q0 := (hrow5 W6 HOS.out.mid).1
                    have HROW := Aside0.mk (fun W h => (hrow5 W h).2)
                    clear hrow5
                    subst hA5
                    go_upto_block 8 with (fail)
                    clear q0
                    go_wp2_with fail
                    go_loopw [115] (fun iv wx => ∃ (i2 : Nat), i2 ≤ ws.length ∧ iv = .int .i64 (i2 : Int) ∧ Hid (OS w1 W3 wx b3 ga gd (decr AH (ws.take i2)) (D.set j true) (.slice Ao1 (out ++ [j]).length co1) (out ++ [j]))) (fun iv _ => ws.length - (intOf iv).toNat)
                    case atStart => exact ⟨0, Nat.zero_le _, rfl, HOS.out⟩
                    case round =>
                      obtain ⟨i2, hi2, rfl, h1⟩ := hrel
                      replace HOS : Aside0 (OS w1 W3 wr b3 ga gd (decr AH (ws.take i2)) (D.set j true) (.slice Ao1 (out ++ [j]).length co1) (out ++ [j])) := Aside0.mk h1
                      clear h1
                      by_cases hlt2 : (i2 : Int) < (ws.length : Int)
                      · have hi3 : i2 < ws.length := by omega
                        have hi4 : (0 : Int) ≤ (i2 : Int) := Int.natCast_nonneg i2
                        have hw2 : IntKind.i64.wrap ((i2 : Int) + 1) = (i2 : Int) + 1 := by have := HWL.out; rw [IntKind.wrap_i64]; omega
                        have HW2 := Aside0.mk hw2
                        clear hw2
                        have hC := HROW.out wr HOS.out.mid
                        obtain ⟨ad6, hA6, q1⟩ := Kd.at_int hC (i2 : Int) hi4 hlt2
                        rw [rd_ints ws i2 hi3, Int.toNat_natCast] at q1
                        have hstep : decr AH (ws.take (i2 + 1)) = (decr AH (ws.take i2)).set ws[i2] ((decr AH (ws.take i2)).getD ws[i2] 0 - 1) := by unfold decr; rw [List.take_succ_eq_append_getElem hi3, List.foldl_append]; rfl
                        have hxN := HWM.out ws[i2] (List.getElem_mem hi3)
                        generalize ws[i2] = x at q1 hstep hxN
                        have hX : -1000000 ≤ (decr AH (ws.take i2)).getD x 0 ∧ (decr AH (ws.take i2)).getD x 0 ≤ 1000000 := by
                          rw [decr_at x _ _ (fun y hy => by rw [HAH.out.1]; exact HWM.out y (List.mem_of_mem_take hy)), HAH.out.2 x hxN]
                          have h1 := List.countP_le_length (p := fun e : S33 => decide (e.f2 = (x : Int)) && !D.getD e.f0.toNat false) (l := p.1)
                          have h2 := List.count_le_length (a := x) (l := ws.take i2)
                          have h3 : (ws.take i2).length ≤ ws.length := by rw [List.length_take]; omega
                          have := HPL.out
                          have := HWL.out
                          omega
                        have hdl : (decr AH (ws.take i2)).length = N := by rw [decr_len]; exact HAH.out.1
                        have c1 := (blk_cell HOS.out.ah x).trans (izs_at (decr AH (ws.take i2)) x (by rw [hdl]; exact hxN))
                        have f1 := blk_frozen HOS.out.ah x
                        generalize (decr AH (ws.take i2)).getD x 0 = X at c1 hX hstep
                        have HST := Aside0.mk hstep
                        have hwX : IntKind.i64.wrap (X - 1) = X - 1 := by rw [IntKind.wrap_i64]; omega
                        have hx0 : (0 : Int) ≤ (x : Int) := Int.natCast_nonneg x
                        have hx1 : (x : Int) < (N : Int) := by omega
                        have hw2 := HW2.out
                        subst hA6
                        clear hstep hX hdl hC
                        go_wp2_with fail
                        go_roundw
                        case rel => exact ⟨i2 + 1, by omega, by go_num, by rw [HST.out]; exact HOS.out.put x _⟩
                        case measure => simp [intOf]; omega
                      · have hie : i2 = ws.length := by omega
                        rw [hie, List.take_length] at HOS
                        clear hie
                        go_wp2_with fail
                        go_roundg gk
                        case rel => exact ⟨decr AH ws, D.set j true, out ++ [j], Ao1, co1, by rw [hol1], HPK.out, HAS.out, HOS.out, by rw [List.length_set]; exact HDL.out.1, by have := HDL.out.2; rw [hol1]; omega⟩
                        case measure => omega
                  · rw [decide_eq_false hX] at hnx
                    have HNF := Aside0.mk (HNE.out hnx)
                    generalize AH.getD j 0 = X at hX c4
                    have e1 : (X == 0) = false := beq_eq_false_iff_ne.mpr hX
                    have hwj := HWJ.out
                    clear hnx hD hgj hX
                    go_wp2_with fail
                    go_roundw
                    case rel => exact ⟨j + 1, by omega, rfl, by go_num, HOS.out, HNF.out⟩
                    case measure => simp [intOf]; omega
              · rw [decide_eq_false hgj, Bool.false_and, Bool.false_and] at hnx
                have HNF := Aside0.mk (HNE.out hnx)
                generalize r.getD j 0 = g at hgj g1
                have e1 : ((j : Int) == (g : Int)) = false := beq_eq_false_iff_ne.mpr (by omega)
                have e2 : (j == g) = false := beq_eq_false_iff_ne.mpr (fun h => hgj h.symm)
                have hwj := HWJ.out
                clear hnx hgj c3 c4
                go_wp2_with fail
                go_roundw
                case rel => exact ⟨j + 1, by omega, rfl, by go_num, HOS.out, HNF.out⟩
                case measure => simp [intOf]; omega
            · have hp : pickS N l1 r D = none := pick_none (fun k hk => HNO.out k (by omega))
              have hRo := greedy_none HR.out hp
              rw [hRo] at HR0
              clear hp hRo
              go_wp2_with fail
              go_ret
              obtain ⟨h1, h2⟩ := own_C rfl HOS.out.row
              exact ⟨out, Ao, co, rfl, h1, r, HG.out, HR0.out, h2, below_step HB1.out HOS.out.below⟩
end Go.Proofs.Ytdobjmbfkdfdcaa.G
