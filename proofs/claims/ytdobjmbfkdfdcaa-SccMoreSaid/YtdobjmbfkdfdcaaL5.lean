/- The law SccMore of scc is true: its walk. No condition. -/
import Derived.Test.YtdobjmbfkdfdcaaL4
import Derived.Test.YtdobjmbfkdfdcaaRc
set_option linter.unusedVariables false
set_option linter.unusedSimpArgs false
namespace Go.Proofs.Ytdobjmbfkdfdcaa.G
open Go.RowKit Go.Proofs.Ytdobjmbfkdfdcaa.B Go.Proofs.YtdobjmbfkdfdcaaW.PrintWords Go.Proofs.YtdobjmbfkdfdcaaW.PrintLast Go.Proofs.YtdobjmbfkdfdcaaW.PrintMore

set_option maxRecDepth 100000 in
set_option maxHeartbeats 8000000 in
theorem SccMore_walk (n : Int) (l : List S33) (A : Option Addr) (c : Nat) (e : S33) (v : Int) (w : World) (hlc : l.length ≤ c) (hC : Kd.C k33 w A l.length l) :
    Calls Try.prog 8 #[.int .i64 n, .slice A l.length c, .agg #[.int .i64 e.f0, .int .i64 e.f1, .int .i64 e.f2], .int .i64 v] w fun e w' => e = .returned (.bool true) ∧ Below w.heap.size w w' := by
  have HC := Aside0.mk hC
  have HLC := Aside0.mk hlc
  clear hC hlc
  go_enter Try.func8, Try.ntmps8
  go_upto_region 1 with (fail)
  have HX := Aside0.mk (blk_new w (.cells #[.int .i64 e.f0, .int .i64 e.f1, .int .i64 e.f2] 33))
  have HB0 := Aside0.mk (below_alloc (Below.refl w.heap.size w) (.cells #[.int .i64 e.f0, .int .i64 e.f1, .int .i64 e.f2] 33))
  generalize w.alloc (.cells #[.int .i64 e.f0, .int .i64 e.f1, .int .i64 e.f2] 33) = W0 at HX HB0 ⊢
  generalize hgm : w.heap.size = gm at HX ⊢
  clear hgm
  obtain ⟨m, l2, hm, hl2, hF⟩ := few_e n l A c W0 (Kd.C_below HC.out HB0.out) HLC.out
  have HF := Aside0.mk hF
  have hll : l2.length ≤ 200 := by rw [hl2, List.length_take]; omega
  clear hF hm hl2
  obtain ⟨s, _, hr0⟩ := groups_ok (sizeN m) l2 (sizeN_le m)
  generalize s.out = r at hr0
  obtain ⟨s2, _, hr2⟩ := groups_ok (sizeN m) (l2 ++ [e]) (sizeN_le m)
  generalize s2.out = r2 at hr2
  have hml : (l2 ++ [e]).length ≤ 1000000 := by rw [List.length_append, List.length_singleton]; omega
  obtain ⟨x, hx⟩ := ROk.exists_ (sizeN m) (sizeN_le m) l2 (by omega) [v] (by simp)
  obtain ⟨y, hy⟩ := ROk.exists_ (sizeN m) (sizeN_le m) (l2 ++ [e]) hml [v] (by simp)
  have HG := Aside0.mk hr0
  have HG2 := Aside0.mk hr2
  have HX1 := Aside0.mk hx
  have HY1 := Aside0.mk hy
  have hmo := more_ok hr0 hr2 hx hy
  rw [← hr0.1] at hmo
  have HMO := Aside0.mk hmo
  have HNO := Aside0.mk (fun hn => none_ok hr0 hr2 hx hy hn)
  have HSZ : Aside0 (r2.length = r.length ∧ sizeN m = r.length) := Aside0.mk ⟨hr2.1.trans hr0.1.symm, hr0.1.symm⟩
  have HRN : Aside0 (r.length ≤ 20000 ∧ x.length ≤ 20000 ∧ y.length ≤ 20000) := Aside0.mk ⟨by rw [hr0.1]; exact sizeN_le m, Nat.le_trans hx.len (sizeN_le m), Nat.le_trans hy.len (sizeN_le m)⟩
  have HLT := Aside0.mk (fun u (hu : u < r.length) => hr0.lt u (by rw [← hr0.1]; exact hu))
  have HML := Aside0.mk hml
  clear hr0 hr2 hx hy hmo hml
  go_upto_region 3 with (first
    | (go_at_call 9; with_reducible refine (shown_c _).mono ?_; rintro e w1 ⟨rfl, hk⟩; have HB := Aside0.mk hk; clear hk)
    | (go_at_call 10; with_reducible refine (HF.out _ HB.out).mono ?_; rintro e w2 ⟨rfl, hE, hk⟩; have HE := Aside0.mk hE; replace HB := Aside0.mk hk; clear hE hk))
  by_cases hl : 190 < l2.length
  · have k1 : decide (190 < l2.length) = true := decide_eq_true hl
    have k2 : decide ((190 : Int) < (l2.length : Int)) = true := decide_eq_true (by omega)
    clear hl hll
    go_wp2_with fail
    go_ret
    exact ⟨rfl, below_step HB0.out HB.out⟩
  have k1 : decide (190 < l2.length) = false := decide_eq_false hl
  have k2 : decide ((190 : Int) < (l2.length : Int)) = false := decide_eq_false (by omega)
  have HLL := Aside0.mk hll
  clear hl hll
  go_upto_region 6 with (go_at_call 12; with_reducible refine (groups_d _ _ _ _ _ HE.out r HG.out).mono ?_; rintro e w3 ⟨A3, c3, rfl, h3, hb3⟩; have HE3 := Aside0.mk (HE.out.below hb3); have HA3 := Aside0.mk h3; have HB3 := Aside0.mk (below_step HB.out hb3); clear h3 hb3)
  clear HF k1 k2
  rename_i K hK
  obtain ⟨l3, hl3⟩ : ∃ l3, l2 ++ [e] = l3 := ⟨_, rfl⟩
  rw [hl3] at HG2 HY1 HML
  have HL3 := Aside0.mk hl3
  clear hl3
  have rest : ∀ (W : World) (x31 x33 x35 x36 : Value) (Am : Option Addr) (cm : Nat), Edg W Am l3 cm → Below w3.heap.size w3 W → K { tmps := #[.int .i64 m, .slice A l2.length c, .agg #[.int .i64 e.f0, .int .i64 e.f1, .int .i64 e.f2], .int .i64 v, undef, undef, .pointer (some ⟨gm, 0, none⟩), undef, .bool false, .bool true, .slice A3 r.length c3, .slice Am l3.length cm, undef, undef, undef, undef, undef, .bool true, .tuple #[.int .i64 m, .slice A l2.length c], .int .i64 n, .slice A l.length c, .tuple #[.int .i64 m, .slice A l2.length c], .int .i64 m, .slice A l2.length c, .slice A l2.length c, .int .i64 (l2.length : Int), .bool false, undef, .int .i64 m, .slice A l2.length c, .slice A3 r.length c3, x31, .slice A l2.length c, x33, .agg #[.int .i64 e.f0, .int .i64 e.f1, .int .i64 e.f2], x35, x36, undef, undef, undef, undef, undef, undef, undef, undef, undef, undef, undef, undef, undef, undef, undef, undef, undef, undef, undef, undef, undef, undef, undef, undef, undef, undef, undef, undef, undef, undef, undef, undef, undef, undef, undef, undef, undef, undef, undef, undef, undef, undef, undef, undef, undef, undef, undef, undef, undef, undef, undef, undef, undef, undef, undef, undef, undef, undef, undef, undef, undef, undef, undef, undef, undef, undef, undef, undef, undef, undef, undef, undef, undef, undef, undef, undef, undef, undef, undef, undef, undef, undef, undef, undef, undef, undef, undef, undef, undef, undef], defers := [] } W := by
    intro W x31 x33 x35 x36 Am cm hm hb
    have HM7 := Aside0.mk hm
    have HB7 := Aside0.mk hb
    have HE7 := Aside0.mk (HE3.out.below hb)
    have HA7 := Aside0.mk (HA3.out.below hb)
    clear hm hb
    refine hK _ _ ?_
    go_upto_region 8 with (go_at_call 12; with_reducible refine (groups_d _ _ _ _ _ HM7.out r2 HG2.out).mono ?_; rintro e w8 ⟨A8, c8, rfl, h8, hb8⟩; rw [HSZ.out.1]; have HE8 := Aside0.mk (HE7.out.below hb8); have HM8 := Aside0.mk (HM7.out.below hb8); have HA8 := Aside0.mk (HA7.out.below hb8); have HH8 := Aside0.mk h8; have HB8 := Aside0.mk (below_step HB7.out hb8); clear h8 hb8)
    go_upto_region 9 with (go_at_call 16; with_reducible refine (reach1 _ _ _ _ _ HE8.out v x HX1.out).mono ?_; rintro e w9 ⟨A9, c9, rfl, h9, hb9⟩; have HM9 := Aside0.mk (HM8.out.below hb9); have HA9 := Aside0.mk (HA8.out.below hb9); have HH9 := Aside0.mk (HH8.out.below hb9); have HX9 := Aside0.mk h9; have HB9 := Aside0.mk (below_step HB8.out hb9); clear h9 hb9)
    go_upto_region 10 with (go_at_call 16; with_reducible refine (reach1 _ _ _ _ _ HM9.out v y HY1.out).mono ?_; rintro e w10 ⟨A10, c10, rfl, h10, hb10⟩; have HA := Aside0.mk (HA9.out.below hb10); have HH := Aside0.mk (HH9.out.below hb10); have HX2 := Aside0.mk (HX9.out.below hb10); have HY2 := Aside0.mk h10; have HB10 := Aside0.mk (below_step HB9.out hb10); clear h10 hb10)
    clear HE7 HM7 HA7 HE8 HM8 HA8 HH8 HB8 HM9 HA9 HH9 HX9 HB9 HB7
    have hbx : w10.heap[gm]? = some (.cells #[.int .i64 e.f0, .int .i64 e.f1, .int .i64 e.f2] 33 (0, 0)) := blk_below (blk_below HX.out HB3.out) HB10.out
    have q0 : w10.cell? ⟨gm, 0, none⟩ = some (.int .i64 e.f0) := (blk_cell hbx 0).trans rfl
    have q2 : w10.cell? ⟨gm, 2, none⟩ = some (.int .i64 e.f2) := (blk_cell hbx 2).trans rfl
    clear hbx
    have hfin : ∀ W, Below w10.heap.size w10 W → Below w.heap.size w W := fun W hW => below_step HB0.out (below_step HB3.out (below_step HB10.out hW))
    have HFIN := Aside0.mk hfin
    clear hfin
    by_cases hok : okE (sizeN m) e
    · have hs := HSZ.out
      rw [hs.2] at hok
      have hmo := HMO.out
      have e1 : ((r.length : Int) == (r2.length : Int)) = true := beq_iff_eq.mpr (by omega)
      have e2 : (r.length == r2.length) = true := beq_iff_eq.mpr (by omega)
      have e3 : decide ((y.length : Int) < (x.length : Int)) = false := decide_eq_false (by have := hmo.1; omega)
      have e4 : decide (y.length < x.length) = false := decide_eq_false (by have := hmo.1; omega)
      have k1 : decide (0 ≤ e.f0) = true := decide_eq_true hok.1
      have k2 : decide (e.f0 < (r.length : Int)) = true := decide_eq_true hok.2.1
      have k3 : decide (0 ≤ e.f2) = true := decide_eq_true hok.2.2.1
      have k4 : decide (e.f2 < (r.length : Int)) = true := decide_eq_true hok.2.2.2
      have HSL := Aside0.mk hs.1
      clear hs hmo hok
      go_upto_block 0 with (fail)
      clear e1 e2 e3 e4 k1 k2 k3 k4 q0 q2
      go_wp2_with fail
      go_loopw [16] (fun iv wx => ∃ (i : Nat), i ≤ r.length ∧ iv = .int .i64 (i : Int) ∧ Hid (Below w10.heap.size w10 wx)) (fun iv _ => r.length - (intOf iv).toNat)
      case atStart => exact ⟨0, Nat.zero_le _, rfl, Below.refl _ _⟩
      case round =>
        obtain ⟨i, hi, rfl, h1⟩ := hrel
        have HW := Aside0.mk (show Below w10.heap.size w10 wr from h1)
        clear h1
        by_cases hlt2 : (i : Int) < (r.length : Int)
        · have hi1 : i < r.length := by omega
          have hi0 : (0 : Int) ≤ (i : Int) := Int.natCast_nonneg i
          have hwi : IntKind.i64.wrap ((i : Int) + 1) = (i : Int) + 1 := by have := HRN.out; rw [IntKind.wrap_i64]; omega
          have hm := HMO.out.2 i hi1
          have hgl := HLT.out i hi1
          rw [HSZ.out.2] at hgl
          obtain ⟨ad3, e3, g1⟩ := (HA.out.below HW.out).at_ i hi1
          obtain ⟨ad8, e8, g2⟩ := (HH.out.below HW.out).at_ i (by have := HSL.out; omega)
          obtain ⟨ad8', e8', g3⟩ := (HH.out.below HW.out).at_ (r.getD i 0) (by have := HSL.out; omega)
          obtain rfl : ad8 = ad8' := by rw [e8] at e8'; injection e8'
          rw [hm.2] at g3
          clear e8'
          subst e3 e8
          have hm1 := hm.1
          have hg1 := hgl.1
          clear hm hgl
          generalize r2.getD i 0 = hI at g2 g3 hm1
          generalize r.getD i 0 = gI at g1 g3 hm1 hg1
          have k1 : decide ((gI : Int) < (hI : Int)) = false := decide_eq_false (by omega)
          have k2 : decide (gI < hI) = false := decide_eq_false (by omega)
          have n1 : (0 : Int) ≤ (gI : Int) := Int.natCast_nonneg gI
          have n2 : (gI : Int) < (r.length : Int) := by omega
          clear hm1 hg1
          go_upto_region 18 with (fail)
          go_still (by kernel_rfl)
          generalize hwn : ({ heap := wr.heap, tape := wr.tape, drawn := wr.drawn + 1, os := wr.os, output := wr.output } : World) = wn
          replace HW : Aside0 (Below w10.heap.size w10 wn) := Aside0.mk (by rw [← hwn]; exact below_drew HW.out)
          clear hwn g1 g2 g3
          go_wp2_with fail
          go_roundw
          case rel => exact ⟨i + 1, by omega, by go_num, HW.out⟩
          case measure => simp [intOf]; omega
        · go_wp2_with fail
          go_ret
          exact ⟨rfl, HFIN.out _ HW.out⟩
    · obtain ⟨hr, hxy⟩ := HNO.out hok
      rw [HSZ.out.2] at hok
      subst hr hxy
      have e3 : decide ((x.length : Int) < (x.length : Int)) = false := decide_eq_false (by omega)
      have hrl := HRN.out
      have HR1 := Aside0.mk (show r.length ≤ 1000000 by omega)
      have HR2 := Aside0.mk (show x.length ≤ 1000000 by omega)
      clear hrl
      unfold okE at hok
      by_cases d1 : e.f0 < 0
      · have k1 : decide (0 ≤ e.f0) = false := decide_eq_false (by omega)
        clear hok d1
        go_wp2_with (first
          | (go_at_call 11; with_reducible refine (ints_d _ _ _ _ _ _ HA.out HH.out HR1.out).mono ?_; rintro e w11 ⟨rfl, hb11⟩; have HB11 := Aside0.mk hb11; clear hb11)
          | (go_at_call 11; with_reducible refine (ints_d _ _ _ _ _ _ (HX2.out.below HB11.out) (HY2.out.below HB11.out) HR2.out).mono ?_; rintro e w12 ⟨rfl, hb12⟩; have HB12 := Aside0.mk (below_step HB11.out hb12); clear hb12))
        go_ret
        exact ⟨rfl, HFIN.out _ HB12.out⟩
      have k1 : decide (0 ≤ e.f0) = true := decide_eq_true (by omega)
      by_cases d2 : (r.length : Int) ≤ e.f0
      · have k2 : decide (e.f0 < (r.length : Int)) = false := decide_eq_false (by omega)
        clear hok d1 d2
        go_wp2_with (first
          | (go_at_call 11; with_reducible refine (ints_d _ _ _ _ _ _ HA.out HH.out HR1.out).mono ?_; rintro e w11 ⟨rfl, hb11⟩; have HB11 := Aside0.mk hb11; clear hb11)
          | (go_at_call 11; with_reducible refine (ints_d _ _ _ _ _ _ (HX2.out.below HB11.out) (HY2.out.below HB11.out) HR2.out).mono ?_; rintro e w12 ⟨rfl, hb12⟩; have HB12 := Aside0.mk (below_step HB11.out hb12); clear hb12))
        go_ret
        exact ⟨rfl, HFIN.out _ HB12.out⟩
      have k2 : decide (e.f0 < (r.length : Int)) = true := decide_eq_true (by omega)
      by_cases d3 : e.f2 < 0
      · have k3 : decide (0 ≤ e.f2) = false := decide_eq_false (by omega)
        clear hok d1 d2 d3
        go_wp2_with (first
          | (go_at_call 11; with_reducible refine (ints_d _ _ _ _ _ _ HA.out HH.out HR1.out).mono ?_; rintro e w11 ⟨rfl, hb11⟩; have HB11 := Aside0.mk hb11; clear hb11)
          | (go_at_call 11; with_reducible refine (ints_d _ _ _ _ _ _ (HX2.out.below HB11.out) (HY2.out.below HB11.out) HR2.out).mono ?_; rintro e w12 ⟨rfl, hb12⟩; have HB12 := Aside0.mk (below_step HB11.out hb12); clear hb12))
        go_ret
        exact ⟨rfl, HFIN.out _ HB12.out⟩
      have k3 : decide (0 ≤ e.f2) = true := decide_eq_true (by omega)
      have k4 : decide (e.f2 < (r.length : Int)) = false := decide_eq_false (fun h => hok ⟨by omega, by omega, by omega, h⟩)
      clear hok d1 d2 d3
      go_wp2_with (first
        | (go_at_call 11; with_reducible refine (ints_d _ _ _ _ _ _ HA.out HH.out HR1.out).mono ?_; rintro e w11 ⟨rfl, hb11⟩; have HB11 := Aside0.mk hb11; clear hb11)
        | (go_at_call 11; with_reducible refine (ints_d _ _ _ _ _ _ (HX2.out.below HB11.out) (HY2.out.below HB11.out) HR2.out).mono ?_; rintro e w12 ⟨rfl, hb12⟩; have HB12 := Aside0.mk (below_step HB11.out hb12); clear hb12))
      go_ret
      exact ⟨rfl, HFIN.out _ HB12.out⟩
  have hbx : w3.heap[gm]? = some (.cells #[.int .i64 e.f0, .int .i64 e.f1, .int .i64 e.f2] 33 (0, 0)) := blk_below HX.out HB3.out
  have hlt : gm < w3.heap.size := blk_lt hbx
  have HBX := Aside0.mk (And.intro hbx hlt)
  have q0 : w3.cell? ⟨gm, 0, none⟩ = some (.int .i64 e.f0) := (blk_cell hbx 0).trans rfl
  have q1 : w3.cell? ⟨gm, 1, none⟩ = some (.int .i64 e.f1) := (blk_cell hbx 1).trans rfl
  have q2 : w3.cell? ⟨gm, 2, none⟩ = some (.int .i64 e.f2) := (blk_cell hbx 2).trans rfl
  have n1 : ¬ gm = w3.heap.size := by omega
  have n2 : ¬ gm = w3.heap.size + 1 := by omega
  have n3 : gm < w3.heap.size + 1 := by omega
  have n4 : gm < w3.heap.size + 1 + 1 := by omega
  clear hbx
  go_region_law (first
    | (refine step_edges w3.heap.size rfl (.tmp 31) (.tmp 32) rfl _ [] l2 A l2.length c rfl rfl (R_empty33 ?aG ?aN) ?aC ?aB ?aL ?_
       (case aG => first | exact blk_new _ _ | exact blk_at_ _ (by simp) | exact blk_alloc (blk_new _ _) _)
       (case aN => first | (simp; done) | (simp; omega))
       (case aC => exact Kd.C_below HE3.out.C (by repeat (first | exact Below.refl _ _ | apply below_alloc | apply below_drew)))
       (case aB => first | (simp; done) | (simp; omega))
       (case aL => have := HLL.out; simp; omega)
       intro v1 w4 h1 h2 h3
       have HR4 := Aside0.mk h1
       have HB4 : Aside0 (Below w3.heap.size w3 w4) := Aside0.mk (Below.trans (by repeat (first | exact Below.refl _ _ | apply below_alloc | apply below_drew)) h2)
       have hb4 : w4.heap[gm]? = some (.cells #[.int .i64 e.f0, .int .i64 e.f1, .int .i64 e.f2] 33 (0, 0)) := (HB4.out.block gm hlt).trans HBX.out.1
       have p0 : w4.cell? ⟨gm, 0, none⟩ = some (.int .i64 e.f0) := (blk_cell hb4 0).trans rfl
       have p1 : w4.cell? ⟨gm, 1, none⟩ = some (.int .i64 e.f1) := (blk_cell hb4 1).trans rfl
       have p2 : w4.cell? ⟨gm, 2, none⟩ = some (.int .i64 e.f2) := (blk_cell hb4 2).trans rfl
       first
         | (have HBOX : Aside0 (w4.heap[w3.heap.size]? = some (.cells #[.int .i64 e.f0, .int .i64 e.f1, .int .i64 e.f2] 33 (0, 0))) := Aside0.mk ((h3.block _ (by first | (simp; done) | (simp; omega)) (show some w3.heap.size ≠ some (w3.heap.size + 1) by simp)).trans (blk_alloc (blk_new _ _) _)))
         | (have HBOX : Aside0 (w4.heap[w3.heap.size + 1]? = some (.cells #[.int .i64 e.f0, .int .i64 e.f1, .int .i64 e.f2] 33 (0, 0))) := Aside0.mk ((h3.block _ (by first | (simp; done) | (simp; omega)) (show some (w3.heap.size + 1) ≠ some w3.heap.size by simp)).trans (blk_at_ _ (by simp))))
         | (have HBOX := Aside0.mk trivial)
       clear h1 h2 h3 hb4)
    | (refine step_edges w3.heap.size rfl (.tmp 33) (.tmp 35) rfl _ l2 [e] _ 1 1 rfl rfl ?aR (C_blk33 ?aG) ?aB ?aL ?_
       (case aR => repeat (first | exact HR4.out | apply Kd.R_alloc))
       (case aG => first | exact blk_new _ _ | exact HBOX.out)
       (case aB => have := HB4.out.size; first | omega | (simp; omega))
       (case aL => have := HLL.out; omega)
       intro v2 w5 h1 h2 h3
       have HR5 := Aside0.mk h1
       have HB5 : Aside0 (Below w3.heap.size w3 w5) := Aside0.mk (Below.trans (by repeat (first | exact HB4.out | apply below_alloc)) h2)
       clear h1 h2 h3))
  all_goals
    clear hK
    obtain ⟨Am, cm, hv2⟩ := Kd.R_slice HR5.out
    subst hv2
    obtain ⟨_, hcm, hCm⟩ := Kd.R_reads' HR5.out
    rw [HL3.out] at hcm hCm ⊢
    exact rest _ _ _ _ _ _ _ ⟨hCm, hcm, HML.out⟩ HB5.out
end Go.Proofs.Ytdobjmbfkdfdcaa.G
