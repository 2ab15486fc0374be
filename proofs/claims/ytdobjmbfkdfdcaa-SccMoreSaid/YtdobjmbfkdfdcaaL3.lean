/- The law SccOrder of scc is true: its walk. No condition. -/
import Derived.Test.YtdobjmbfkdfdcaaRb
import Derived.Test.YtdobjmbfkdfdcaaPj
import Derived.Test.YtdobjmbfkdfdcaaOp
set_option linter.unusedVariables false
set_option linter.unusedSimpArgs false
namespace Go.Proofs.Ytdobjmbfkdfdcaa.G
open Go.RowKit Go.Proofs.Ytdobjmbfkdfdcaa.B Go.Proofs.YtdobjmbfkdfdcaaW.PrintWords Go.Proofs.YtdobjmbfkdfdcaaW.PrintLast Go.Proofs.YtdobjmbfkdfdcaaW.PrintMore

/-- Where the places lie. -/
structure AtW (w3 W : World) (AT : List Nat) : Prop where
  row : W.heap[w3.heap.size]? = some (.cells (nats AT).toArray 3 (0, 0))
  below : Below w3.heap.size w3 W
theorem AtW.put {w3 W : World} {AT : List Nat} (h : AtW w3 W AT) (j x : Nat) : AtW w3 (W.setCell ⟨w3.heap.size, j, none⟩ (.int .i64 (x : Int))) (AT.set j x) :=
  ⟨blk_put h.row j _ (nats_set _ _ _), below_put h.below rfl (Nat.le_refl _) _ _⟩
theorem AtW.drew {w3 W : World} {AT : List Nat} (h : AtW w3 W AT) : AtW w3 W.drew AT := ⟨h.row, below_drew h.below⟩
theorem nats_at (l : List Nat) (i : Nat) (h : i < l.length) : (nats l).toArray[i]? = some (.int .i64 ((l.getD i 0 : Nat) : Int)) := by
  unfold nats
  rw [List.getElem?_toArray, List.getElem?_map, List.getD_eq_getElem?_getD, List.getElem?_eq_getElem h]
  rfl
theorem AtW.cell {w3 W : World} {AT : List Nat} (h : AtW w3 W AT) (j : Nat) (hj : j < AT.length) : W.cell? ⟨w3.heap.size, j, none⟩ = some (.int .i64 ((AT.getD j 0 : Nat) : Int)) := (blk_cell h.row j).trans (nats_at AT j hj)
/-- A number of a list that is read. -/
theorem Nts.at_ {W : World} {A : Option Addr} {r : List Nat} {c : Nat} (h : Nts W A r c) (i : Nat) (hi : i < r.length) : ∃ ad, A = some ad ∧ W.cell? (ad.add i) = some (.int .i64 ((r.getD i 0 : Nat) : Int)) := by
  obtain ⟨ad, e, q⟩ := Kd.at_int h.C (i : Int) (Int.natCast_nonneg i) (by omega)
  rw [rd_ints' rfl i hi, Int.toNat_natCast] at q
  exact ⟨ad, e, q⟩
set_option maxRecDepth 100000 in
set_option maxHeartbeats 2000000 in
theorem SccOrder_walk (n : Int) (l : List S33) (A : Option Addr) (c : Nat) (w : World) (hlc : l.length ≤ c) (hC : Kd.C k33 w A l.length l) :
    Calls Try.prog 5 #[.int .i64 n, .slice A l.length c] w fun e w' => e = .returned (.bool true) ∧ Below w.heap.size w w' := by
  obtain ⟨m, l2, hm, hl2, hF⟩ := few_e n l A c w hC hlc
  have HF := Aside0.mk hF
  have HM : Aside0 (m ≤ 60) := Aside0.mk (by rw [hm]; unfold fewN; split <;> omega)
  have HL2 : Aside0 (l2.length ≤ 200) := Aside0.mk (by rw [hl2, List.length_take]; omega)
  clear hC hlc hF hm hl2
  obtain ⟨s, _, hr0⟩ := groups_ok (sizeN m) l2 (sizeN_le m)
  generalize s.out = r at hr0
  have HG := Aside0.mk hr0
  obtain ⟨R, hR0⟩ := greedy_start (sizeN m) l2 r
  have HR := Aside0.mk hR0
  have hO := order_ok hr0 R hR0
  have hA := at_ok hO
  have hlt := fun v hv => hr0.lt v hv
  rw [← hr0.1] at hO hA hlt
  have HO := Aside0.mk hO
  have HA := Aside0.mk hA
  have HLT := Aside0.mk hlt
  have HRL : Aside0 (R.length ≤ 20000) := Aside0.mk (by
    have h1 := List.Nodup.length_le_of_subset hO.nodup (l₂ := List.range r.length) (fun v hv => List.mem_range.2 (hO.head v hv).1)
    rw [List.length_range, hr0.1] at h1
    have := sizeN_le m
    omega)
  have HRN : Aside0 (r.length ≤ 20000) := Aside0.mk (by rw [hr0.1]; exact sizeN_le m)
  clear hr0 hR0 hO hA hlt
  go_enter Try.func5, Try.ntmps5
  go_upto_region 5 with (first
    | (go_at_call 9; with_reducible refine (shown_c _).mono ?_; rintro e w1 ⟨rfl, hk⟩; have HB := Aside0.mk hk; clear hk)
    | (go_at_call 10; with_reducible refine (HF.out _ HB.out).mono ?_; rintro e w2 ⟨rfl, hE, hk⟩; have HE := Aside0.mk hE; replace HB := Aside0.mk hk; clear hE hk)
    | (go_at_call 12; with_reducible refine (groups_d _ _ _ _ _ HE.out r HG.out).mono ?_; rintro e w3 ⟨A3, c3, rfl, h3, hb3⟩; have HE3 := Aside0.mk (HE.out.below hb3); have HA3 := Aside0.mk h3; have HB3 := Aside0.mk (below_step HB.out hb3); clear h3 hb3)
    | (go_at_call 14; with_reducible refine (order_d _ _ _ _ _ HE3.out r R HG.out HR.out).mono ?_; rintro e w6 ⟨A6, c6, rfl, h6, hb6⟩; have HE6 := Aside0.mk (HE3.out.below hb6); have HA3' := Aside0.mk (HA3.out.below hb6); have HA6 := Aside0.mk h6; have HB6 := Aside0.mk (below_step HB3.out hb6); clear h6 hb6))
  clear HF HB HE HE3 HA3 HB3 HR
  have hmk := run_make_row' (P := Try.prog) 27 3 (.int .i64 0) 8 Try.underlying27 info3 rfl .i64 .i64 r.length (by have := HRN.out; omega) (by have := HRN.out; omega)
  go_upto_block 0 with (fail)
  clear hmk
  rw [made_nats]
  have HW : Aside0 (AtW w6 (w6.alloc (.cells (nats (List.replicate r.length 0)).toArray 3)) (atS r.length R 0)) := Aside0.mk ⟨blk_new _ _, below_alloc (Below.refl _ _) _⟩
  generalize w6.alloc (.cells (nats (List.replicate r.length 0)).toArray 3) = W7 at HW ⊢
  go_wp2_with fail
  go_loopw [9] (fun iv wx => ∃ (i : Nat), i ≤ R.length ∧ iv = .int .i64 (i : Int) ∧ Hid (AtW w6 wx (atS r.length R i))) (fun iv _ => R.length - (intOf iv).toNat)
  case atStart => exact ⟨0, Nat.zero_le _, rfl, HW.out⟩
  case round =>
    obtain ⟨i, hi, rfl, h1⟩ := hrel
    replace HW : Aside0 (AtW w6 wr (atS r.length R i)) := Aside0.mk h1
    clear h1
    by_cases hlt : (i : Int) < (R.length : Int)
    · have hi1 : i < R.length := by omega
      have hi0 : (0 : Int) ≤ (i : Int) := Int.natCast_nonneg i
      have hwi : IntKind.i64.wrap ((i : Int) + 1) = (i : Int) + 1 := by have := HRL.out; rw [IntKind.wrap_i64]; omega
      obtain ⟨ad6, e6, g1⟩ := (HA6.out.below HW.out.below).at_ i hi1
      have hmem : R.getD i 0 ∈ R := by
        rw [List.getD_eq_getElem?_getD, List.getElem?_eq_getElem hi1]
        exact List.getElem_mem hi1
      have hx := HO.out.head _ hmem
      have hmiss : (atS r.length R i).getD (R.getD i 0) 0 = 0 := atS_miss i (by omega) (fun j hj e => by have := nodup_at HO.out.nodup (by omega) hi1 e; omega) (fun j hj => (HO.out.head _ (by
        rw [List.getD_eq_getElem?_getD, List.getElem?_eq_getElem (show j < R.length by omega)]
        exact List.getElem_mem _)).1)
      have HST : Aside0 (atS r.length R (i + 1) = (atS r.length R i).set (R.getD i 0) (i + 1)) := Aside0.mk rfl
      obtain ⟨ad3, e3, g2⟩ := (HA3'.out.below HW.out.below).at_ (R.getD i 0) hx.1
      have c3 := HW.out.cell (R.getD i 0) (by rw [atS_len]; exact hx.1)
      rw [hx.2] at g2
      rw [hmiss] at c3
      have hx1 := hx.1
      clear hmem hmiss hx
      generalize R.getD i 0 = x at g1 g2 c3 HST hx1
      have k0 : (0 : Int) ≤ (x : Int) := Int.natCast_nonneg x
      have k1 : (x : Int) < (r.length : Int) := by omega
      have k2 : decide ((x : Int) < 0) = false := decide_eq_false (by omega)
      have k3 : decide ((r.length : Int) ≤ (x : Int)) = false := decide_eq_false (by omega)
      have k4 : decide (r.length ≤ x) = false := decide_eq_false (by omega)
      subst e6 e3
      go_upto_region 9 with (fail)
      go_still (by kernel_rfl)
      generalize hwn : ({ heap := wr.heap, tape := wr.tape, drawn := wr.drawn + 1, os := wr.os, output := wr.output } : World) = wn
      replace HW : Aside0 (AtW w6 wn (atS r.length R i)) := Aside0.mk (by rw [← hwn]; exact HW.out.drew)
      obtain ⟨ad6, e6, g1⟩ : ∃ ad, (some ad6 : Option Addr) = some ad ∧ wn.cell? (ad.add i) = some (.int .i64 (x : Int)) := ⟨ad6, rfl, by rw [← hwn]; exact g1⟩
      injection e6 with e6
      subst e6
      have f3 := blk_frozen HW.out.row x
      have c3 := HW.out.cell x (by rw [atS_len]; exact hx1)
      clear hwn g2
      go_wp2_with fail
      go_roundw
      case rel => exact ⟨i + 1, by omega, by go_num, by rw [HST.out]; exact HW.out.put x (i + 1)⟩
      case measure => simp [intOf]; omega
    · have hie : i = R.length := by omega
      rw [hie] at HW
      have HATL := Aside0.mk (atS_len r.length R R.length)
      generalize atS r.length R R.length = AT at HW HA HATL
      clear hie
      go_upto_block 2 with (fail)
      go_wp2_with fail
      go_loopw [10] (fun iv wx => ∃ (v : Nat), v ≤ r.length ∧ iv = .int .i64 (v : Int) ∧ Hid (AtW w6 wx AT)) (fun iv _ => r.length - (intOf iv).toNat)
      case atStart => exact ⟨0, Nat.zero_le _, rfl, HW.out⟩
      case round =>
        obtain ⟨v, hv, rfl, h1⟩ := hrel
        replace HW : Aside0 (AtW w6 wr AT) := Aside0.mk h1
        clear h1
        by_cases hltv : (v : Int) < (r.length : Int)
        · have hv1 : v < r.length := by omega
          have hv0 : (0 : Int) ≤ (v : Int) := Int.natCast_nonneg v
          have hwi : IntKind.i64.wrap ((v : Int) + 1) = (v : Int) + 1 := by have := HRN.out; rw [IntKind.wrap_i64]; omega
          obtain ⟨ad3, e3, g1⟩ := (HA3'.out.below HW.out.below).at_ v hv1
          have hl := HLT.out v hv1
          have hp := HA.out.all v hv1
          generalize r.getD v 0 = g at g1 hl hp
          have hgN : g < r.length := hl.1
          have c3 := HW.out.cell g (by rw [HATL.out]; exact hgN)
          generalize AT.getD g 0 = X at c3 hp
          have k0 : (0 : Int) ≤ (g : Int) := Int.natCast_nonneg g
          have k1 : (g : Int) < (r.length : Int) := by omega
          have k2 : decide ((g : Int) < 0) = false := decide_eq_false (by omega)
          have k3 : decide ((v : Int) < (g : Int)) = false := decide_eq_false (by have := hl.2.1; omega)
          have k4 : decide (v < g) = false := decide_eq_false (by have := hl.2.1; omega)
          have k5 : ((X : Int) == 0) = false := beq_eq_false_iff_ne.mpr (by omega)
          have k6 : (X == 0) = false := beq_eq_false_iff_ne.mpr (by omega)
          subst e3
          clear hl hp hgN
          go_wp2_with fail
          go_roundw
          case rel => exact ⟨v + 1, by omega, by go_num, HW.out⟩
          case measure => simp [intOf]; omega
        · go_upto_block 4 with (fail)
          go_wp2_with fail
          go_loopw [11] (fun iv wx => ∃ (j : Nat), j ≤ l2.length ∧ iv = .int .i64 (j : Int) ∧ Hid (AtW w6 wx AT)) (fun iv _ => l2.length - (intOf iv).toNat)
          case atStart => exact ⟨0, Nat.zero_le _, rfl, HW.out⟩
          case round =>
            obtain ⟨j, hj, rfl, h1⟩ := hrel
            replace HW : Aside0 (AtW w6 wr AT) := Aside0.mk h1
            clear h1
            by_cases hltj : (j : Int) < (l2.length : Int)
            · have hj1 : j < l2.length := by omega
              have hj0 : (0 : Int) ≤ (j : Int) := Int.natCast_nonneg j
              have hwi : IntKind.i64.wrap ((j : Int) + 1) = (j : Int) + 1 := by have := HL2.out; rw [IntKind.wrap_i64]; omega
              obtain ⟨ade, ee, q0, q1, q2⟩ := at_T33 (Kd.C_below HE6.out.C HW.out.below) (j : Int) hj0 hltj
              rw [Int.toNat_natCast, rd33_at l2 j hj1] at q0 q2
              have hok : okE r.length l2[j] → AT.getD (r.getD l2[j].f0.toNat 0) 0 ≤ AT.getD (r.getD l2[j].f2.toNat 0) 0 := fun h => HA.out.ahead _ _ ⟨l2[j], List.getElem_mem hj1, h, by have := h.1; omega, by have := h.2.2.1; omega⟩
              generalize l2[j] = e at q0 q2 hok
              clear q1
              subst ee
              generalize hfa : e.f0 = fa at q0 hok
              generalize hfb : e.f2 = fb at q2 hok
              by_cases d1 : fa < 0
              · have k1 : decide (0 ≤ fa) = false := decide_eq_false (by omega)
                clear hok hfa hfb d1
                go_upto_region 22 with (fail)
                refine wp_region_held_drew (S := fun w' => AtW w6 w' AT) (by kernel_rfl) HW.out.drew (fun hHeld => ?_)
                refine wpAnyH_take (i := 0) (oi := { dst := (some 127), op := (Op.move (Operand.tmp 12)), type := 3, pos := "law.go:63", after := #[], guard := none }) (v := ?_) rfl (by kernel_rfl) (by kernel_rfl) (by kernel_rfl) (fun _ _ _ h => h) (Or.inl ⟨by rfl, ?_⟩) hHeld ?_
                rotate_left
                · intro w hSw; (try dsimp only at hSw); go_simp; try with_reducible rfl
                try simp only [Act.put, List.setIfInBounds_toArray, List.set_cons_zero, List.set_cons_succ]
                refine wpAnyH_take (i := 1) (oi := { dst := (some 128), op := (Op.binOp BinOp.geq 3 (Operand.tmp 127) (Operand.const (Value.int IntKind.i64 0)) 3), type := 4, pos := "law.go:63", after := #[{ on := 0, ground := Ground.data }], guard := none }) (v := ?_) rfl (by kernel_rfl) (by kernel_rfl) (by kernel_rfl) (fun _ _ _ h => h) (Or.inl ⟨by rfl, ?_⟩) hHeld ?_
                rotate_left
                · intro w hSw; (try dsimp only at hSw); go_simp; try with_reducible rfl
                try simp only [Act.put, List.setIfInBounds_toArray, List.set_cons_zero, List.set_cons_succ]
                refine wpAnyH_take (i := 2) (oi := { dst := (some 129), op := (Op.move (Operand.tmp 128)), type := 4, pos := "law.go:63", after := #[{ on := 1, ground := Ground.data }], guard := none }) (v := ?_) rfl (by kernel_rfl) (by kernel_rfl) (by kernel_rfl) (fun _ _ _ h => h) (Or.inl ⟨by rfl, ?_⟩) hHeld ?_
                rotate_left
                · intro w hSw; (try dsimp only at hSw); go_simp; try with_reducible rfl
                try simp only [Act.put, List.setIfInBounds_toArray, List.set_cons_zero, List.set_cons_succ]
                refine wpAnyH_take (i := 3) (oi := { dst := (some 130), op := (Op.move (Operand.tmp 12)), type := 3, pos := "law.go:63", after := #[{ on := 2, ground := Ground.guard }], guard := (some (2, true)) }) rfl (by kernel_rfl) (by kernel_rfl) (by kernel_rfl) (fun _ _ _ h => h) (Or.inr ⟨by rfl, rfl⟩) hHeld ?_
                try simp only [Act.put, List.setIfInBounds_toArray, List.set_cons_zero, List.set_cons_succ]
                refine wpAnyH_take (i := 4) (oi := { dst := (some 131), op := (Op.move (Operand.tmp 6)), type := 27, pos := "law.go:63", after := #[{ on := 2, ground := Ground.guard }], guard := (some (2, true)) }) rfl (by kernel_rfl) (by kernel_rfl) (by kernel_rfl) (fun _ _ _ h => h) (Or.inr ⟨by rfl, rfl⟩) hHeld ?_
                try simp only [Act.put, List.setIfInBounds_toArray, List.set_cons_zero, List.set_cons_succ]
                refine wpAnyH_take (i := 5) (oi := { dst := (some 132), op := (Op.call { callee := (Callee.builtin Builtin.len), args := #[(Operand.tmp 131)], argTypes := #[27] }), type := 3, pos := "law.go:63", after := #[{ on := 4, ground := Ground.data }, { on := 2, ground := Ground.guard }], guard := (some (2, true)) }) rfl (by kernel_rfl) (by kernel_rfl) (by kernel_rfl) (fun _ _ _ h => h) (Or.inr ⟨by rfl, rfl⟩) hHeld ?_
                try simp only [Act.put, List.setIfInBounds_toArray, List.set_cons_zero, List.set_cons_succ]
                refine wpAnyH_take (i := 6) (oi := { dst := (some 133), op := (Op.binOp BinOp.lss 3 (Operand.tmp 130) (Operand.tmp 132) 3), type := 4, pos := "law.go:63", after := #[{ on := 3, ground := Ground.data }, { on := 5, ground := Ground.data }, { on := 2, ground := Ground.guard }], guard := (some (2, true)) }) rfl (by kernel_rfl) (by kernel_rfl) (by kernel_rfl) (fun _ _ _ h => h) (Or.inr ⟨by rfl, rfl⟩) hHeld ?_
                try simp only [Act.put, List.setIfInBounds_toArray, List.set_cons_zero, List.set_cons_succ]
                refine wpAnyH_take (i := 7) (oi := { dst := (some 134), op := (Op.pick (Operand.tmp 129) (Operand.tmp 133) (Operand.const (Value.bool false))), type := 4, pos := "law.go:63", after := #[{ on := 2, ground := Ground.data }, { on := 6, ground := Ground.data }], guard := none }) (v := ?_) rfl (by kernel_rfl) (by kernel_rfl) (by kernel_rfl) (fun _ _ _ h => h) (Or.inl ⟨by rfl, ?_⟩) hHeld ?_
                rotate_left
                · intro w hSw; (try dsimp only at hSw); go_simp; try with_reducible rfl
                try simp only [Act.put, List.setIfInBounds_toArray, List.set_cons_zero, List.set_cons_succ]
                refine wpAnyH_take (i := 8) (oi := { dst := (some 135), op := (Op.move (Operand.tmp 134)), type := 4, pos := "law.go:63", after := #[{ on := 7, ground := Ground.data }, { on := 2, ground := Ground.chain }], guard := none }) (v := ?_) rfl (by kernel_rfl) (by kernel_rfl) (by kernel_rfl) (fun _ _ _ h => h) (Or.inl ⟨by rfl, ?_⟩) hHeld ?_
                rotate_left
                · intro w hSw; (try dsimp only at hSw); go_simp; try with_reducible rfl
                try simp only [Act.put, List.setIfInBounds_toArray, List.set_cons_zero, List.set_cons_succ]
                refine wpAnyH_take (i := 9) (oi := { dst := (some 136), op := (Op.move (Operand.tmp 13)), type := 3, pos := "law.go:63", after := #[{ on := 8, ground := Ground.guard }], guard := (some (8, true)) }) rfl (by kernel_rfl) (by kernel_rfl) (by kernel_rfl) (fun _ _ _ h => h) (Or.inr ⟨by rfl, rfl⟩) hHeld ?_
                try simp only [Act.put, List.setIfInBounds_toArray, List.set_cons_zero, List.set_cons_succ]
                refine wpAnyH_take (i := 10) (oi := { dst := (some 137), op := (Op.binOp BinOp.geq 3 (Operand.tmp 136) (Operand.const (Value.int IntKind.i64 0)) 3), type := 4, pos := "law.go:63", after := #[{ on := 9, ground := Ground.data }, { on := 8, ground := Ground.guard }], guard := (some (8, true)) }) rfl (by kernel_rfl) (by kernel_rfl) (by kernel_rfl) (fun _ _ _ h => h) (Or.inr ⟨by rfl, rfl⟩) hHeld ?_
                try simp only [Act.put, List.setIfInBounds_toArray, List.set_cons_zero, List.set_cons_succ]
                refine wpAnyH_take (i := 11) (oi := { dst := (some 138), op := (Op.pick (Operand.tmp 135) (Operand.tmp 137) (Operand.const (Value.bool false))), type := 4, pos := "law.go:63", after := #[{ on := 8, ground := Ground.data }, { on := 10, ground := Ground.data }], guard := none }) (v := ?_) rfl (by kernel_rfl) (by kernel_rfl) (by kernel_rfl) (fun _ _ _ h => h) (Or.inl ⟨by rfl, ?_⟩) hHeld ?_
                rotate_left
                · intro w hSw; (try dsimp only at hSw); go_simp; try with_reducible rfl
                try simp only [Act.put, List.setIfInBounds_toArray, List.set_cons_zero, List.set_cons_succ]
                refine wpAnyH_take (i := 12) (oi := { dst := (some 139), op := (Op.move (Operand.tmp 138)), type := 4, pos := "law.go:63", after := #[{ on := 11, ground := Ground.data }, { on := 8, ground := Ground.chain }], guard := none }) (v := ?_) rfl (by kernel_rfl) (by kernel_rfl) (by kernel_rfl) (fun _ _ _ h => h) (Or.inl ⟨by rfl, ?_⟩) hHeld ?_
                rotate_left
                · intro w hSw; (try dsimp only at hSw); go_simp; try with_reducible rfl
                try simp only [Act.put, List.setIfInBounds_toArray, List.set_cons_zero, List.set_cons_succ]
                refine wpAnyH_take (i := 13) (oi := { dst := (some 140), op := (Op.move (Operand.tmp 13)), type := 3, pos := "law.go:63", after := #[{ on := 12, ground := Ground.guard }], guard := (some (12, true)) }) rfl (by kernel_rfl) (by kernel_rfl) (by kernel_rfl) (fun _ _ _ h => h) (Or.inr ⟨by rfl, rfl⟩) hHeld ?_
                try simp only [Act.put, List.setIfInBounds_toArray, List.set_cons_zero, List.set_cons_succ]
                refine wpAnyH_take (i := 14) (oi := { dst := (some 141), op := (Op.move (Operand.tmp 6)), type := 27, pos := "law.go:63", after := #[{ on := 12, ground := Ground.guard }], guard := (some (12, true)) }) rfl (by kernel_rfl) (by kernel_rfl) (by kernel_rfl) (fun _ _ _ h => h) (Or.inr ⟨by rfl, rfl⟩) hHeld ?_
                try simp only [Act.put, List.setIfInBounds_toArray, List.set_cons_zero, List.set_cons_succ]
                refine wpAnyH_take (i := 15) (oi := { dst := (some 142), op := (Op.call { callee := (Callee.builtin Builtin.len), args := #[(Operand.tmp 141)], argTypes := #[27] }), type := 3, pos := "law.go:63", after := #[{ on := 14, ground := Ground.data }, { on := 12, ground := Ground.guard }], guard := (some (12, true)) }) rfl (by kernel_rfl) (by kernel_rfl) (by kernel_rfl) (fun _ _ _ h => h) (Or.inr ⟨by rfl, rfl⟩) hHeld ?_
                try simp only [Act.put, List.setIfInBounds_toArray, List.set_cons_zero, List.set_cons_succ]
                refine wpAnyH_take (i := 16) (oi := { dst := (some 143), op := (Op.binOp BinOp.lss 3 (Operand.tmp 140) (Operand.tmp 142) 3), type := 4, pos := "law.go:63", after := #[{ on := 13, ground := Ground.data }, { on := 15, ground := Ground.data }, { on := 12, ground := Ground.guard }], guard := (some (12, true)) }) rfl (by kernel_rfl) (by kernel_rfl) (by kernel_rfl) (fun _ _ _ h => h) (Or.inr ⟨by rfl, rfl⟩) hHeld ?_
                try simp only [Act.put, List.setIfInBounds_toArray, List.set_cons_zero, List.set_cons_succ]
                refine wpAnyH_take (i := 17) (oi := { dst := (some 144), op := (Op.pick (Operand.tmp 139) (Operand.tmp 143) (Operand.const (Value.bool false))), type := 4, pos := "law.go:63", after := #[{ on := 12, ground := Ground.data }, { on := 16, ground := Ground.data }], guard := none }) (v := ?_) rfl (by kernel_rfl) (by kernel_rfl) (by kernel_rfl) (fun _ _ _ h => h) (Or.inl ⟨by rfl, ?_⟩) hHeld ?_
                rotate_left
                · intro w hSw; (try dsimp only at hSw); go_simp; try with_reducible rfl
                try simp only [Act.put, List.setIfInBounds_toArray, List.set_cons_zero, List.set_cons_succ]
                refine wpAnyH_take (i := 18) (oi := { dst := (some 145), op := (Op.move (Operand.tmp 144)), type := 4, pos := "law.go:63", after := #[{ on := 17, ground := Ground.data }, { on := 12, ground := Ground.chain }], guard := none }) (v := ?_) rfl (by kernel_rfl) (by kernel_rfl) (by kernel_rfl) (fun _ _ _ h => h) (Or.inl ⟨by rfl, ?_⟩) hHeld ?_
                rotate_left
                · intro w hSw; (try dsimp only at hSw); go_simp; try with_reducible rfl
                try simp only [Act.put, List.setIfInBounds_toArray, List.set_cons_zero, List.set_cons_succ]
                refine wpAnyH_take (i := 19) (oi := { dst := (some 146), op := (Op.move (Operand.tmp 8)), type := 27, pos := "law.go:63", after := #[{ on := 18, ground := Ground.guard }], guard := (some (18, true)) }) rfl (by kernel_rfl) (by kernel_rfl) (by kernel_rfl) (fun _ _ _ h => h) (Or.inr ⟨by rfl, rfl⟩) hHeld ?_
                try simp only [Act.put, List.setIfInBounds_toArray, List.set_cons_zero, List.set_cons_succ]
                refine wpAnyH_take (i := 20) (oi := { dst := (some 147), op := (Op.move (Operand.tmp 6)), type := 27, pos := "law.go:63", after := #[{ on := 18, ground := Ground.guard }], guard := (some (18, true)) }) rfl (by kernel_rfl) (by kernel_rfl) (by kernel_rfl) (fun _ _ _ h => h) (Or.inr ⟨by rfl, rfl⟩) hHeld ?_
                try simp only [Act.put, List.setIfInBounds_toArray, List.set_cons_zero, List.set_cons_succ]
                refine wpAnyH_take (i := 21) (oi := { dst := (some 148), op := (Op.move (Operand.tmp 12)), type := 3, pos := "law.go:63", after := #[{ on := 18, ground := Ground.guard }], guard := (some (18, true)) }) rfl (by kernel_rfl) (by kernel_rfl) (by kernel_rfl) (fun _ _ _ h => h) (Or.inr ⟨by rfl, rfl⟩) hHeld ?_
                try simp only [Act.put, List.setIfInBounds_toArray, List.set_cons_zero, List.set_cons_succ]
                refine wpAnyH_take (i := 22) (oi := { dst := (some 149), op := (Op.indexAddr 27 (Operand.tmp 147) (Operand.tmp 148)), type := 0, pos := "law.go:63", after := #[{ on := 20, ground := Ground.data }, { on := 21, ground := Ground.data }, { on := 18, ground := Ground.guard }], guard := (some (18, true)) }) rfl (by kernel_rfl) (by kernel_rfl) (by kernel_rfl) (fun _ _ _ h => h) (Or.inr ⟨by rfl, rfl⟩) hHeld ?_
                try simp only [Act.put, List.setIfInBounds_toArray, List.set_cons_zero, List.set_cons_succ]
                refine wpAnyH_take (i := 23) (oi := { dst := (some 150), op := (Op.load 3 (Operand.tmp 149)), type := 3, pos := "law.go:63", after := #[{ on := 22, ground := Ground.data }, { on := 18, ground := Ground.guard }], guard := (some (18, true)) }) rfl (by kernel_rfl) (by kernel_rfl) (by kernel_rfl) (fun _ _ _ h => h) (Or.inr ⟨by rfl, rfl⟩) hHeld ?_
                try simp only [Act.put, List.setIfInBounds_toArray, List.set_cons_zero, List.set_cons_succ]
                refine wpAnyH_take (i := 24) (oi := { dst := (some 151), op := (Op.indexAddr 27 (Operand.tmp 146) (Operand.tmp 150)), type := 0, pos := "law.go:63", after := #[{ on := 19, ground := Ground.data }, { on := 23, ground := Ground.data }, { on := 18, ground := Ground.guard }], guard := (some (18, true)) }) rfl (by kernel_rfl) (by kernel_rfl) (by kernel_rfl) (fun _ _ _ h => h) (Or.inr ⟨by rfl, rfl⟩) hHeld ?_
                try simp only [Act.put, List.setIfInBounds_toArray, List.set_cons_zero, List.set_cons_succ]
                refine wpAnyH_take (i := 25) (oi := { dst := (some 152), op := (Op.load 3 (Operand.tmp 151)), type := 3, pos := "law.go:63", after := #[{ on := 24, ground := Ground.data }, { on := 18, ground := Ground.guard }], guard := (some (18, true)) }) rfl (by kernel_rfl) (by kernel_rfl) (by kernel_rfl) (fun _ _ _ h => h) (Or.inr ⟨by rfl, rfl⟩) hHeld ?_
                try simp only [Act.put, List.setIfInBounds_toArray, List.set_cons_zero, List.set_cons_succ]
                refine wpAnyH_take (i := 26) (oi := { dst := (some 153), op := (Op.move (Operand.tmp 8)), type := 27, pos := "law.go:63", after := #[{ on := 18, ground := Ground.guard }], guard := (some (18, true)) }) rfl (by kernel_rfl) (by kernel_rfl) (by kernel_rfl) (fun _ _ _ h => h) (Or.inr ⟨by rfl, rfl⟩) hHeld ?_
                try simp only [Act.put, List.setIfInBounds_toArray, List.set_cons_zero, List.set_cons_succ]
                refine wpAnyH_take (i := 27) (oi := { dst := (some 154), op := (Op.move (Operand.tmp 6)), type := 27, pos := "law.go:63", after := #[{ on := 18, ground := Ground.guard }], guard := (some (18, true)) }) rfl (by kernel_rfl) (by kernel_rfl) (by kernel_rfl) (fun _ _ _ h => h) (Or.inr ⟨by rfl, rfl⟩) hHeld ?_
                try simp only [Act.put, List.setIfInBounds_toArray, List.set_cons_zero, List.set_cons_succ]
                refine wpAnyH_take (i := 28) (oi := { dst := (some 155), op := (Op.move (Operand.tmp 13)), type := 3, pos := "law.go:63", after := #[{ on := 18, ground := Ground.guard }], guard := (some (18, true)) }) rfl (by kernel_rfl) (by kernel_rfl) (by kernel_rfl) (fun _ _ _ h => h) (Or.inr ⟨by rfl, rfl⟩) hHeld ?_
                try simp only [Act.put, List.setIfInBounds_toArray, List.set_cons_zero, List.set_cons_succ]
                refine wpAnyH_take (i := 29) (oi := { dst := (some 156), op := (Op.indexAddr 27 (Operand.tmp 154) (Operand.tmp 155)), type := 0, pos := "law.go:63", after := #[{ on := 27, ground := Ground.data }, { on := 28, ground := Ground.data }, { on := 18, ground := Ground.guard }], guard := (some (18, true)) }) rfl (by kernel_rfl) (by kernel_rfl) (by kernel_rfl) (fun _ _ _ h => h) (Or.inr ⟨by rfl, rfl⟩) hHeld ?_
                try simp only [Act.put, List.setIfInBounds_toArray, List.set_cons_zero, List.set_cons_succ]
                refine wpAnyH_take (i := 30) (oi := { dst := (some 157), op := (Op.load 3 (Operand.tmp 156)), type := 3, pos := "law.go:63", after := #[{ on := 29, ground := Ground.data }, { on := 18, ground := Ground.guard }], guard := (some (18, true)) }) rfl (by kernel_rfl) (by kernel_rfl) (by kernel_rfl) (fun _ _ _ h => h) (Or.inr ⟨by rfl, rfl⟩) hHeld ?_
                try simp only [Act.put, List.setIfInBounds_toArray, List.set_cons_zero, List.set_cons_succ]
                refine wpAnyH_take (i := 31) (oi := { dst := (some 158), op := (Op.indexAddr 27 (Operand.tmp 153) (Operand.tmp 157)), type := 0, pos := "law.go:63", after := #[{ on := 26, ground := Ground.data }, { on := 30, ground := Ground.data }, { on := 18, ground := Ground.guard }], guard := (some (18, true)) }) rfl (by kernel_rfl) (by kernel_rfl) (by kernel_rfl) (fun _ _ _ h => h) (Or.inr ⟨by rfl, rfl⟩) hHeld ?_
                try simp only [Act.put, List.setIfInBounds_toArray, List.set_cons_zero, List.set_cons_succ]
                refine wpAnyH_take (i := 32) (oi := { dst := (some 159), op := (Op.load 3 (Operand.tmp 158)), type := 3, pos := "law.go:63", after := #[{ on := 31, ground := Ground.data }, { on := 18, ground := Ground.guard }], guard := (some (18, true)) }) rfl (by kernel_rfl) (by kernel_rfl) (by kernel_rfl) (fun _ _ _ h => h) (Or.inr ⟨by rfl, rfl⟩) hHeld ?_
                try simp only [Act.put, List.setIfInBounds_toArray, List.set_cons_zero, List.set_cons_succ]
                refine wpAnyH_take (i := 33) (oi := { dst := (some 160), op := (Op.binOp BinOp.gtr 3 (Operand.tmp 152) (Operand.tmp 159) 3), type := 4, pos := "law.go:63", after := #[{ on := 25, ground := Ground.data }, { on := 32, ground := Ground.data }, { on := 18, ground := Ground.guard }], guard := (some (18, true)) }) rfl (by kernel_rfl) (by kernel_rfl) (by kernel_rfl) (fun _ _ _ h => h) (Or.inr ⟨by rfl, rfl⟩) hHeld ?_
                try simp only [Act.put, List.setIfInBounds_toArray, List.set_cons_zero, List.set_cons_succ]
                refine wpAnyH_take (i := 34) (oi := { dst := (some 161), op := (Op.pick (Operand.tmp 145) (Operand.tmp 160) (Operand.const (Value.bool false))), type := 4, pos := "law.go:63", after := #[{ on := 18, ground := Ground.data }, { on := 33, ground := Ground.data }], guard := none }) (v := ?_) rfl (by kernel_rfl) (by kernel_rfl) (by kernel_rfl) (fun _ _ _ h => h) (Or.inl ⟨by rfl, ?_⟩) hHeld ?_
                rotate_left
                · intro w hSw; (try dsimp only at hSw); go_simp; try with_reducible rfl
                try simp only [Act.put, List.setIfInBounds_toArray, List.set_cons_zero, List.set_cons_succ]
                refine wpAnyH_done (by kernel_rfl) ?_ _
                have HWN := Aside0.mk hHeld
                go_wp2_with fail
                go_roundw
                case rel => exact ⟨j + 1, by omega, by go_num, HWN.out⟩
                case measure => simp [intOf]; omega
              have k1 : decide (0 ≤ fa) = true := decide_eq_true (by omega)
              by_cases d2 : (r.length : Int) ≤ fa
              · have k2 : decide (fa < (r.length : Int)) = false := decide_eq_false (by omega)
                clear hok hfa hfb d1 d2
                go_upto_region 22 with (fail)
                refine wp_region_held_drew (S := fun w' => AtW w6 w' AT) (by kernel_rfl) HW.out.drew (fun hHeld => ?_)
                refine wpAnyH_take (i := 0) (oi := { dst := (some 127), op := (Op.move (Operand.tmp 12)), type := 3, pos := "law.go:63", after := #[], guard := none }) (v := ?_) rfl (by kernel_rfl) (by kernel_rfl) (by kernel_rfl) (fun _ _ _ h => h) (Or.inl ⟨by rfl, ?_⟩) hHeld ?_
                rotate_left
                · intro w hSw; (try dsimp only at hSw); go_simp; try with_reducible rfl
                try simp only [Act.put, List.setIfInBounds_toArray, List.set_cons_zero, List.set_cons_succ]
                refine wpAnyH_take (i := 1) (oi := { dst := (some 128), op := (Op.binOp BinOp.geq 3 (Operand.tmp 127) (Operand.const (Value.int IntKind.i64 0)) 3), type := 4, pos := "law.go:63", after := #[{ on := 0, ground := Ground.data }], guard := none }) (v := ?_) rfl (by kernel_rfl) (by kernel_rfl) (by kernel_rfl) (fun _ _ _ h => h) (Or.inl ⟨by rfl, ?_⟩) hHeld ?_
                rotate_left
                · intro w hSw; (try dsimp only at hSw); go_simp; try with_reducible rfl
                try simp only [Act.put, List.setIfInBounds_toArray, List.set_cons_zero, List.set_cons_succ]
                refine wpAnyH_take (i := 2) (oi := { dst := (some 129), op := (Op.move (Operand.tmp 128)), type := 4, pos := "law.go:63", after := #[{ on := 1, ground := Ground.data }], guard := none }) (v := ?_) rfl (by kernel_rfl) (by kernel_rfl) (by kernel_rfl) (fun _ _ _ h => h) (Or.inl ⟨by rfl, ?_⟩) hHeld ?_
                rotate_left
                · intro w hSw; (try dsimp only at hSw); go_simp; try with_reducible rfl
                try simp only [Act.put, List.setIfInBounds_toArray, List.set_cons_zero, List.set_cons_succ]
                refine wpAnyH_take (i := 3) (oi := { dst := (some 130), op := (Op.move (Operand.tmp 12)), type := 3, pos := "law.go:63", after := #[{ on := 2, ground := Ground.guard }], guard := (some (2, true)) }) (v := ?_) rfl (by kernel_rfl) (by kernel_rfl) (by kernel_rfl) (fun _ _ _ h => h) (Or.inl ⟨by rfl, ?_⟩) hHeld ?_
                rotate_left
                · intro w hSw; (try dsimp only at hSw); go_simp; try with_reducible rfl
                try simp only [Act.put, List.setIfInBounds_toArray, List.set_cons_zero, List.set_cons_succ]
                refine wpAnyH_take (i := 4) (oi := { dst := (some 131), op := (Op.move (Operand.tmp 6)), type := 27, pos := "law.go:63", after := #[{ on := 2, ground := Ground.guard }], guard := (some (2, true)) }) (v := ?_) rfl (by kernel_rfl) (by kernel_rfl) (by kernel_rfl) (fun _ _ _ h => h) (Or.inl ⟨by rfl, ?_⟩) hHeld ?_
                rotate_left
                · intro w hSw; (try dsimp only at hSw); go_simp; try with_reducible rfl
                try simp only [Act.put, List.setIfInBounds_toArray, List.set_cons_zero, List.set_cons_succ]
                refine wpAnyH_take (i := 5) (oi := { dst := (some 132), op := (Op.call { callee := (Callee.builtin Builtin.len), args := #[(Operand.tmp 131)], argTypes := #[27] }), type := 3, pos := "law.go:63", after := #[{ on := 4, ground := Ground.data }, { on := 2, ground := Ground.guard }], guard := (some (2, true)) }) (v := ?_) rfl (by kernel_rfl) (by kernel_rfl) (by kernel_rfl) (fun _ _ _ h => h) (Or.inl ⟨by rfl, ?_⟩) hHeld ?_
                rotate_left
                · intro w hSw; (try dsimp only at hSw); go_simp; try with_reducible rfl
                try simp only [Act.put, List.setIfInBounds_toArray, List.set_cons_zero, List.set_cons_succ]
                refine wpAnyH_take (i := 6) (oi := { dst := (some 133), op := (Op.binOp BinOp.lss 3 (Operand.tmp 130) (Operand.tmp 132) 3), type := 4, pos := "law.go:63", after := #[{ on := 3, ground := Ground.data }, { on := 5, ground := Ground.data }, { on := 2, ground := Ground.guard }], guard := (some (2, true)) }) (v := ?_) rfl (by kernel_rfl) (by kernel_rfl) (by kernel_rfl) (fun _ _ _ h => h) (Or.inl ⟨by rfl, ?_⟩) hHeld ?_
                rotate_left
                · intro w hSw; (try dsimp only at hSw); go_simp; try with_reducible rfl
                try simp only [Act.put, List.setIfInBounds_toArray, List.set_cons_zero, List.set_cons_succ]
                refine wpAnyH_take (i := 7) (oi := { dst := (some 134), op := (Op.pick (Operand.tmp 129) (Operand.tmp 133) (Operand.const (Value.bool false))), type := 4, pos := "law.go:63", after := #[{ on := 2, ground := Ground.data }, { on := 6, ground := Ground.data }], guard := none }) (v := ?_) rfl (by kernel_rfl) (by kernel_rfl) (by kernel_rfl) (fun _ _ _ h => h) (Or.inl ⟨by rfl, ?_⟩) hHeld ?_
                rotate_left
                · intro w hSw; (try dsimp only at hSw); go_simp; try with_reducible rfl
                try simp only [Act.put, List.setIfInBounds_toArray, List.set_cons_zero, List.set_cons_succ]
                refine wpAnyH_take (i := 8) (oi := { dst := (some 135), op := (Op.move (Operand.tmp 134)), type := 4, pos := "law.go:63", after := #[{ on := 7, ground := Ground.data }, { on := 2, ground := Ground.chain }], guard := none }) (v := ?_) rfl (by kernel_rfl) (by kernel_rfl) (by kernel_rfl) (fun _ _ _ h => h) (Or.inl ⟨by rfl, ?_⟩) hHeld ?_
                rotate_left
                · intro w hSw; (try dsimp only at hSw); go_simp; try with_reducible rfl
                try simp only [Act.put, List.setIfInBounds_toArray, List.set_cons_zero, List.set_cons_succ]
                refine wpAnyH_take (i := 9) (oi := { dst := (some 136), op := (Op.move (Operand.tmp 13)), type := 3, pos := "law.go:63", after := #[{ on := 8, ground := Ground.guard }], guard := (some (8, true)) }) rfl (by kernel_rfl) (by kernel_rfl) (by kernel_rfl) (fun _ _ _ h => h) (Or.inr ⟨by rfl, rfl⟩) hHeld ?_
                try simp only [Act.put, List.setIfInBounds_toArray, List.set_cons_zero, List.set_cons_succ]
                refine wpAnyH_take (i := 10) (oi := { dst := (some 137), op := (Op.binOp BinOp.geq 3 (Operand.tmp 136) (Operand.const (Value.int IntKind.i64 0)) 3), type := 4, pos := "law.go:63", after := #[{ on := 9, ground := Ground.data }, { on := 8, ground := Ground.guard }], guard := (some (8, true)) }) rfl (by kernel_rfl) (by kernel_rfl) (by kernel_rfl) (fun _ _ _ h => h) (Or.inr ⟨by rfl, rfl⟩) hHeld ?_
                try simp only [Act.put, List.setIfInBounds_toArray, List.set_cons_zero, List.set_cons_succ]
                refine wpAnyH_take (i := 11) (oi := { dst := (some 138), op := (Op.pick (Operand.tmp 135) (Operand.tmp 137) (Operand.const (Value.bool false))), type := 4, pos := "law.go:63", after := #[{ on := 8, ground := Ground.data }, { on := 10, ground := Ground.data }], guard := none }) (v := ?_) rfl (by kernel_rfl) (by kernel_rfl) (by kernel_rfl) (fun _ _ _ h => h) (Or.inl ⟨by rfl, ?_⟩) hHeld ?_
                rotate_left
                · intro w hSw; (try dsimp only at hSw); go_simp; try with_reducible rfl
                try simp only [Act.put, List.setIfInBounds_toArray, List.set_cons_zero, List.set_cons_succ]
                refine wpAnyH_take (i := 12) (oi := { dst := (some 139), op := (Op.move (Operand.tmp 138)), type := 4, pos := "law.go:63", after := #[{ on := 11, ground := Ground.data }, { on := 8, ground := Ground.chain }], guard := none }) (v := ?_) rfl (by kernel_rfl) (by kernel_rfl) (by kernel_rfl) (fun _ _ _ h => h) (Or.inl ⟨by rfl, ?_⟩) hHeld ?_
                rotate_left
                · intro w hSw; (try dsimp only at hSw); go_simp; try with_reducible rfl
                try simp only [Act.put, List.setIfInBounds_toArray, List.set_cons_zero, List.set_cons_succ]
                refine wpAnyH_take (i := 13) (oi := { dst := (some 140), op := (Op.move (Operand.tmp 13)), type := 3, pos := "law.go:63", after := #[{ on := 12, ground := Ground.guard }], guard := (some (12, true)) }) rfl (by kernel_rfl) (by kernel_rfl) (by kernel_rfl) (fun _ _ _ h => h) (Or.inr ⟨by rfl, rfl⟩) hHeld ?_
                try simp only [Act.put, List.setIfInBounds_toArray, List.set_cons_zero, List.set_cons_succ]
                refine wpAnyH_take (i := 14) (oi := { dst := (some 141), op := (Op.move (Operand.tmp 6)), type := 27, pos := "law.go:63", after := #[{ on := 12, ground := Ground.guard }], guard := (some (12, true)) }) rfl (by kernel_rfl) (by kernel_rfl) (by kernel_rfl) (fun _ _ _ h => h) (Or.inr ⟨by rfl, rfl⟩) hHeld ?_
                try simp only [Act.put, List.setIfInBounds_toArray, List.set_cons_zero, List.set_cons_succ]
                refine wpAnyH_take (i := 15) (oi := { dst := (some 142), op := (Op.call { callee := (Callee.builtin Builtin.len), args := #[(Operand.tmp 141)], argTypes := #[27] }), type := 3, pos := "law.go:63", after := #[{ on := 14, ground := Ground.data }, { on := 12, ground := Ground.guard }], guard := (some (12, true)) }) rfl (by kernel_rfl) (by kernel_rfl) (by kernel_rfl) (fun _ _ _ h => h) (Or.inr ⟨by rfl, rfl⟩) hHeld ?_
                try simp only [Act.put, List.setIfInBounds_toArray, List.set_cons_zero, List.set_cons_succ]
                refine wpAnyH_take (i := 16) (oi := { dst := (some 143), op := (Op.binOp BinOp.lss 3 (Operand.tmp 140) (Operand.tmp 142) 3), type := 4, pos := "law.go:63", after := #[{ on := 13, ground := Ground.data }, { on := 15, ground := Ground.data }, { on := 12, ground := Ground.guard }], guard := (some (12, true)) }) rfl (by kernel_rfl) (by kernel_rfl) (by kernel_rfl) (fun _ _ _ h => h) (Or.inr ⟨by rfl, rfl⟩) hHeld ?_
                try simp only [Act.put, List.setIfInBounds_toArray, List.set_cons_zero, List.set_cons_succ]
                refine wpAnyH_take (i := 17) (oi := { dst := (some 144), op := (Op.pick (Operand.tmp 139) (Operand.tmp 143) (Operand.const (Value.bool false))), type := 4, pos := "law.go:63", after := #[{ on := 12, ground := Ground.data }, { on := 16, ground := Ground.data }], guard := none }) (v := ?_) rfl (by kernel_rfl) (by kernel_rfl) (by kernel_rfl) (fun _ _ _ h => h) (Or.inl ⟨by rfl, ?_⟩) hHeld ?_
                rotate_left
                · intro w hSw; (try dsimp only at hSw); go_simp; try with_reducible rfl
                try simp only [Act.put, List.setIfInBounds_toArray, List.set_cons_zero, List.set_cons_succ]
                refine wpAnyH_take (i := 18) (oi := { dst := (some 145), op := (Op.move (Operand.tmp 144)), type := 4, pos := "law.go:63", after := #[{ on := 17, ground := Ground.data }, { on := 12, ground := Ground.chain }], guard := none }) (v := ?_) rfl (by kernel_rfl) (by kernel_rfl) (by kernel_rfl) (fun _ _ _ h => h) (Or.inl ⟨by rfl, ?_⟩) hHeld ?_
                rotate_left
                · intro w hSw; (try dsimp only at hSw); go_simp; try with_reducible rfl
                try simp only [Act.put, List.setIfInBounds_toArray, List.set_cons_zero, List.set_cons_succ]
                refine wpAnyH_take (i := 19) (oi := { dst := (some 146), op := (Op.move (Operand.tmp 8)), type := 27, pos := "law.go:63", after := #[{ on := 18, ground := Ground.guard }], guard := (some (18, true)) }) rfl (by kernel_rfl) (by kernel_rfl) (by kernel_rfl) (fun _ _ _ h => h) (Or.inr ⟨by rfl, rfl⟩) hHeld ?_
                try simp only [Act.put, List.setIfInBounds_toArray, List.set_cons_zero, List.set_cons_succ]
                refine wpAnyH_take (i := 20) (oi := { dst := (some 147), op := (Op.move (Operand.tmp 6)), type := 27, pos := "law.go:63", after := #[{ on := 18, ground := Ground.guard }], guard := (some (18, true)) }) rfl (by kernel_rfl) (by kernel_rfl) (by kernel_rfl) (fun _ _ _ h => h) (Or.inr ⟨by rfl, rfl⟩) hHeld ?_
                try simp only [Act.put, List.setIfInBounds_toArray, List.set_cons_zero, List.set_cons_succ]
                refine wpAnyH_take (i := 21) (oi := { dst := (some 148), op := (Op.move (Operand.tmp 12)), type := 3, pos := "law.go:63", after := #[{ on := 18, ground := Ground.guard }], guard := (some (18, true)) }) rfl (by kernel_rfl) (by kernel_rfl) (by kernel_rfl) (fun _ _ _ h => h) (Or.inr ⟨by rfl, rfl⟩) hHeld ?_
                try simp only [Act.put, List.setIfInBounds_toArray, List.set_cons_zero, List.set_cons_succ]
                refine wpAnyH_take (i := 22) (oi := { dst := (some 149), op := (Op.indexAddr 27 (Operand.tmp 147) (Operand.tmp 148)), type := 0, pos := "law.go:63", after := #[{ on := 20, ground := Ground.data }, { on := 21, ground := Ground.data }, { on := 18, ground := Ground.guard }], guard := (some (18, true)) }) rfl (by kernel_rfl) (by kernel_rfl) (by kernel_rfl) (fun _ _ _ h => h) (Or.inr ⟨by rfl, rfl⟩) hHeld ?_
                try simp only [Act.put, List.setIfInBounds_toArray, List.set_cons_zero, List.set_cons_succ]
                refine wpAnyH_take (i := 23) (oi := { dst := (some 150), op := (Op.load 3 (Operand.tmp 149)), type := 3, pos := "law.go:63", after := #[{ on := 22, ground := Ground.data }, { on := 18, ground := Ground.guard }], guard := (some (18, true)) }) rfl (by kernel_rfl) (by kernel_rfl) (by kernel_rfl) (fun _ _ _ h => h) (Or.inr ⟨by rfl, rfl⟩) hHeld ?_
                try simp only [Act.put, List.setIfInBounds_toArray, List.set_cons_zero, List.set_cons_succ]
                refine wpAnyH_take (i := 24) (oi := { dst := (some 151), op := (Op.indexAddr 27 (Operand.tmp 146) (Operand.tmp 150)), type := 0, pos := "law.go:63", after := #[{ on := 19, ground := Ground.data }, { on := 23, ground := Ground.data }, { on := 18, ground := Ground.guard }], guard := (some (18, true)) }) rfl (by kernel_rfl) (by kernel_rfl) (by kernel_rfl) (fun _ _ _ h => h) (Or.inr ⟨by rfl, rfl⟩) hHeld ?_
                try simp only [Act.put, List.setIfInBounds_toArray, List.set_cons_zero, List.set_cons_succ]
                refine wpAnyH_take (i := 25) (oi := { dst := (some 152), op := (Op.load 3 (Operand.tmp 151)), type := 3, pos := "law.go:63", after := #[{ on := 24, ground := Ground.data }, { on := 18, ground := Ground.guard }], guard := (some (18, true)) }) rfl (by kernel_rfl) (by kernel_rfl) (by kernel_rfl) (fun _ _ _ h => h) (Or.inr ⟨by rfl, rfl⟩) hHeld ?_
                try simp only [Act.put, List.setIfInBounds_toArray, List.set_cons_zero, List.set_cons_succ]
                refine wpAnyH_take (i := 26) (oi := { dst := (some 153), op := (Op.move (Operand.tmp 8)), type := 27, pos := "law.go:63", after := #[{ on := 18, ground := Ground.guard }], guard := (some (18, true)) }) rfl (by kernel_rfl) (by kernel_rfl) (by kernel_rfl) (fun _ _ _ h => h) (Or.inr ⟨by rfl, rfl⟩) hHeld ?_
                try simp only [Act.put, List.setIfInBounds_toArray, List.set_cons_zero, List.set_cons_succ]
                refine wpAnyH_take (i := 27) (oi := { dst := (some 154), op := (Op.move (Operand.tmp 6)), type := 27, pos := "law.go:63", after := #[{ on := 18, ground := Ground.guard }], guard := (some (18, true)) }) rfl (by kernel_rfl) (by kernel_rfl) (by kernel_rfl) (fun _ _ _ h => h) (Or.inr ⟨by rfl, rfl⟩) hHeld ?_
                try simp only [Act.put, List.setIfInBounds_toArray, List.set_cons_zero, List.set_cons_succ]
                refine wpAnyH_take (i := 28) (oi := { dst := (some 155), op := (Op.move (Operand.tmp 13)), type := 3, pos := "law.go:63", after := #[{ on := 18, ground := Ground.guard }], guard := (some (18, true)) }) rfl (by kernel_rfl) (by kernel_rfl) (by kernel_rfl) (fun _ _ _ h => h) (Or.inr ⟨by rfl, rfl⟩) hHeld ?_
                try simp only [Act.put, List.setIfInBounds_toArray, List.set_cons_zero, List.set_cons_succ]
                refine wpAnyH_take (i := 29) (oi := { dst := (some 156), op := (Op.indexAddr 27 (Operand.tmp 154) (Operand.tmp 155)), type := 0, pos := "law.go:63", after := #[{ on := 27, ground := Ground.data }, { on := 28, ground := Ground.data }, { on := 18, ground := Ground.guard }], guard := (some (18, true)) }) rfl (by kernel_rfl) (by kernel_rfl) (by kernel_rfl) (fun _ _ _ h => h) (Or.inr ⟨by rfl, rfl⟩) hHeld ?_
                try simp only [Act.put, List.setIfInBounds_toArray, List.set_cons_zero, List.set_cons_succ]
                refine wpAnyH_take (i := 30) (oi := { dst := (some 157), op := (Op.load 3 (Operand.tmp 156)), type := 3, pos := "law.go:63", after := #[{ on := 29, ground := Ground.data }, { on := 18, ground := Ground.guard }], guard := (some (18, true)) }) rfl (by kernel_rfl) (by kernel_rfl) (by kernel_rfl) (fun _ _ _ h => h) (Or.inr ⟨by rfl, rfl⟩) hHeld ?_
                try simp only [Act.put, List.setIfInBounds_toArray, List.set_cons_zero, List.set_cons_succ]
                refine wpAnyH_take (i := 31) (oi := { dst := (some 158), op := (Op.indexAddr 27 (Operand.tmp 153) (Operand.tmp 157)), type := 0, pos := "law.go:63", after := #[{ on := 26, ground := Ground.data }, { on := 30, ground := Ground.data }, { on := 18, ground := Ground.guard }], guard := (some (18, true)) }) rfl (by kernel_rfl) (by kernel_rfl) (by kernel_rfl) (fun _ _ _ h => h) (Or.inr ⟨by rfl, rfl⟩) hHeld ?_
                try simp only [Act.put, List.setIfInBounds_toArray, List.set_cons_zero, List.set_cons_succ]
                refine wpAnyH_take (i := 32) (oi := { dst := (some 159), op := (Op.load 3 (Operand.tmp 158)), type := 3, pos := "law.go:63", after := #[{ on := 31, ground := Ground.data }, { on := 18, ground := Ground.guard }], guard := (some (18, true)) }) rfl (by kernel_rfl) (by kernel_rfl) (by kernel_rfl) (fun _ _ _ h => h) (Or.inr ⟨by rfl, rfl⟩) hHeld ?_
                try simp only [Act.put, List.setIfInBounds_toArray, List.set_cons_zero, List.set_cons_succ]
                refine wpAnyH_take (i := 33) (oi := { dst := (some 160), op := (Op.binOp BinOp.gtr 3 (Operand.tmp 152) (Operand.tmp 159) 3), type := 4, pos := "law.go:63", after := #[{ on := 25, ground := Ground.data }, { on := 32, ground := Ground.data }, { on := 18, ground := Ground.guard }], guard := (some (18, true)) }) rfl (by kernel_rfl) (by kernel_rfl) (by kernel_rfl) (fun _ _ _ h => h) (Or.inr ⟨by rfl, rfl⟩) hHeld ?_
                try simp only [Act.put, List.setIfInBounds_toArray, List.set_cons_zero, List.set_cons_succ]
                refine wpAnyH_take (i := 34) (oi := { dst := (some 161), op := (Op.pick (Operand.tmp 145) (Operand.tmp 160) (Operand.const (Value.bool false))), type := 4, pos := "law.go:63", after := #[{ on := 18, ground := Ground.data }, { on := 33, ground := Ground.data }], guard := none }) (v := ?_) rfl (by kernel_rfl) (by kernel_rfl) (by kernel_rfl) (fun _ _ _ h => h) (Or.inl ⟨by rfl, ?_⟩) hHeld ?_
                rotate_left
                · intro w hSw; (try dsimp only at hSw); go_simp; try with_reducible rfl
                try simp only [Act.put, List.setIfInBounds_toArray, List.set_cons_zero, List.set_cons_succ]
                refine wpAnyH_done (by kernel_rfl) ?_ _
                have HWN := Aside0.mk hHeld
                go_wp2_with fail
                go_roundw
                case rel => exact ⟨j + 1, by omega, by go_num, HWN.out⟩
                case measure => simp [intOf]; omega
              have k2 : decide (fa < (r.length : Int)) = true := decide_eq_true (by omega)
              by_cases d3 : fb < 0
              · have k3 : decide (0 ≤ fb) = false := decide_eq_false (by omega)
                clear hok hfa hfb d1 d2 d3
                go_upto_region 22 with (fail)
                refine wp_region_held_drew (S := fun w' => AtW w6 w' AT) (by kernel_rfl) HW.out.drew (fun hHeld => ?_)
                refine wpAnyH_take (i := 0) (oi := { dst := (some 127), op := (Op.move (Operand.tmp 12)), type := 3, pos := "law.go:63", after := #[], guard := none }) (v := ?_) rfl (by kernel_rfl) (by kernel_rfl) (by kernel_rfl) (fun _ _ _ h => h) (Or.inl ⟨by rfl, ?_⟩) hHeld ?_
                rotate_left
                · intro w hSw; (try dsimp only at hSw); go_simp; try with_reducible rfl
                try simp only [Act.put, List.setIfInBounds_toArray, List.set_cons_zero, List.set_cons_succ]
                refine wpAnyH_take (i := 1) (oi := { dst := (some 128), op := (Op.binOp BinOp.geq 3 (Operand.tmp 127) (Operand.const (Value.int IntKind.i64 0)) 3), type := 4, pos := "law.go:63", after := #[{ on := 0, ground := Ground.data }], guard := none }) (v := ?_) rfl (by kernel_rfl) (by kernel_rfl) (by kernel_rfl) (fun _ _ _ h => h) (Or.inl ⟨by rfl, ?_⟩) hHeld ?_
                rotate_left
                · intro w hSw; (try dsimp only at hSw); go_simp; try with_reducible rfl
                try simp only [Act.put, List.setIfInBounds_toArray, List.set_cons_zero, List.set_cons_succ]
                refine wpAnyH_take (i := 2) (oi := { dst := (some 129), op := (Op.move (Operand.tmp 128)), type := 4, pos := "law.go:63", after := #[{ on := 1, ground := Ground.data }], guard := none }) (v := ?_) rfl (by kernel_rfl) (by kernel_rfl) (by kernel_rfl) (fun _ _ _ h => h) (Or.inl ⟨by rfl, ?_⟩) hHeld ?_
                rotate_left
                · intro w hSw; (try dsimp only at hSw); go_simp; try with_reducible rfl
                try simp only [Act.put, List.setIfInBounds_toArray, List.set_cons_zero, List.set_cons_succ]
                refine wpAnyH_take (i := 3) (oi := { dst := (some 130), op := (Op.move (Operand.tmp 12)), type := 3, pos := "law.go:63", after := #[{ on := 2, ground := Ground.guard }], guard := (some (2, true)) }) (v := ?_) rfl (by kernel_rfl) (by kernel_rfl) (by kernel_rfl) (fun _ _ _ h => h) (Or.inl ⟨by rfl, ?_⟩) hHeld ?_
                rotate_left
                · intro w hSw; (try dsimp only at hSw); go_simp; try with_reducible rfl
                try simp only [Act.put, List.setIfInBounds_toArray, List.set_cons_zero, List.set_cons_succ]
                refine wpAnyH_take (i := 4) (oi := { dst := (some 131), op := (Op.move (Operand.tmp 6)), type := 27, pos := "law.go:63", after := #[{ on := 2, ground := Ground.guard }], guard := (some (2, true)) }) (v := ?_) rfl (by kernel_rfl) (by kernel_rfl) (by kernel_rfl) (fun _ _ _ h => h) (Or.inl ⟨by rfl, ?_⟩) hHeld ?_
                rotate_left
                · intro w hSw; (try dsimp only at hSw); go_simp; try with_reducible rfl
                try simp only [Act.put, List.setIfInBounds_toArray, List.set_cons_zero, List.set_cons_succ]
                refine wpAnyH_take (i := 5) (oi := { dst := (some 132), op := (Op.call { callee := (Callee.builtin Builtin.len), args := #[(Operand.tmp 131)], argTypes := #[27] }), type := 3, pos := "law.go:63", after := #[{ on := 4, ground := Ground.data }, { on := 2, ground := Ground.guard }], guard := (some (2, true)) }) (v := ?_) rfl (by kernel_rfl) (by kernel_rfl) (by kernel_rfl) (fun _ _ _ h => h) (Or.inl ⟨by rfl, ?_⟩) hHeld ?_
                rotate_left
                · intro w hSw; (try dsimp only at hSw); go_simp; try with_reducible rfl
                try simp only [Act.put, List.setIfInBounds_toArray, List.set_cons_zero, List.set_cons_succ]
                refine wpAnyH_take (i := 6) (oi := { dst := (some 133), op := (Op.binOp BinOp.lss 3 (Operand.tmp 130) (Operand.tmp 132) 3), type := 4, pos := "law.go:63", after := #[{ on := 3, ground := Ground.data }, { on := 5, ground := Ground.data }, { on := 2, ground := Ground.guard }], guard := (some (2, true)) }) (v := ?_) rfl (by kernel_rfl) (by kernel_rfl) (by kernel_rfl) (fun _ _ _ h => h) (Or.inl ⟨by rfl, ?_⟩) hHeld ?_
                rotate_left
                · intro w hSw; (try dsimp only at hSw); go_simp; try with_reducible rfl
                try simp only [Act.put, List.setIfInBounds_toArray, List.set_cons_zero, List.set_cons_succ]
                refine wpAnyH_take (i := 7) (oi := { dst := (some 134), op := (Op.pick (Operand.tmp 129) (Operand.tmp 133) (Operand.const (Value.bool false))), type := 4, pos := "law.go:63", after := #[{ on := 2, ground := Ground.data }, { on := 6, ground := Ground.data }], guard := none }) (v := ?_) rfl (by kernel_rfl) (by kernel_rfl) (by kernel_rfl) (fun _ _ _ h => h) (Or.inl ⟨by rfl, ?_⟩) hHeld ?_
                rotate_left
                · intro w hSw; (try dsimp only at hSw); go_simp; try with_reducible rfl
                try simp only [Act.put, List.setIfInBounds_toArray, List.set_cons_zero, List.set_cons_succ]
                refine wpAnyH_take (i := 8) (oi := { dst := (some 135), op := (Op.move (Operand.tmp 134)), type := 4, pos := "law.go:63", after := #[{ on := 7, ground := Ground.data }, { on := 2, ground := Ground.chain }], guard := none }) (v := ?_) rfl (by kernel_rfl) (by kernel_rfl) (by kernel_rfl) (fun _ _ _ h => h) (Or.inl ⟨by rfl, ?_⟩) hHeld ?_
                rotate_left
                · intro w hSw; (try dsimp only at hSw); go_simp; try with_reducible rfl
                try simp only [Act.put, List.setIfInBounds_toArray, List.set_cons_zero, List.set_cons_succ]
                refine wpAnyH_take (i := 9) (oi := { dst := (some 136), op := (Op.move (Operand.tmp 13)), type := 3, pos := "law.go:63", after := #[{ on := 8, ground := Ground.guard }], guard := (some (8, true)) }) (v := ?_) rfl (by kernel_rfl) (by kernel_rfl) (by kernel_rfl) (fun _ _ _ h => h) (Or.inl ⟨by rfl, ?_⟩) hHeld ?_
                rotate_left
                · intro w hSw; (try dsimp only at hSw); go_simp; try with_reducible rfl
                try simp only [Act.put, List.setIfInBounds_toArray, List.set_cons_zero, List.set_cons_succ]
                refine wpAnyH_take (i := 10) (oi := { dst := (some 137), op := (Op.binOp BinOp.geq 3 (Operand.tmp 136) (Operand.const (Value.int IntKind.i64 0)) 3), type := 4, pos := "law.go:63", after := #[{ on := 9, ground := Ground.data }, { on := 8, ground := Ground.guard }], guard := (some (8, true)) }) (v := ?_) rfl (by kernel_rfl) (by kernel_rfl) (by kernel_rfl) (fun _ _ _ h => h) (Or.inl ⟨by rfl, ?_⟩) hHeld ?_
                rotate_left
                · intro w hSw; (try dsimp only at hSw); go_simp; try with_reducible rfl
                try simp only [Act.put, List.setIfInBounds_toArray, List.set_cons_zero, List.set_cons_succ]
                refine wpAnyH_take (i := 11) (oi := { dst := (some 138), op := (Op.pick (Operand.tmp 135) (Operand.tmp 137) (Operand.const (Value.bool false))), type := 4, pos := "law.go:63", after := #[{ on := 8, ground := Ground.data }, { on := 10, ground := Ground.data }], guard := none }) (v := ?_) rfl (by kernel_rfl) (by kernel_rfl) (by kernel_rfl) (fun _ _ _ h => h) (Or.inl ⟨by rfl, ?_⟩) hHeld ?_
                rotate_left
                · intro w hSw; (try dsimp only at hSw); go_simp; try with_reducible rfl
                try simp only [Act.put, List.setIfInBounds_toArray, List.set_cons_zero, List.set_cons_succ]
                refine wpAnyH_take (i := 12) (oi := { dst := (some 139), op := (Op.move (Operand.tmp 138)), type := 4, pos := "law.go:63", after := #[{ on := 11, ground := Ground.data }, { on := 8, ground := Ground.chain }], guard := none }) (v := ?_) rfl (by kernel_rfl) (by kernel_rfl) (by kernel_rfl) (fun _ _ _ h => h) (Or.inl ⟨by rfl, ?_⟩) hHeld ?_
                rotate_left
                · intro w hSw; (try dsimp only at hSw); go_simp; try with_reducible rfl
                try simp only [Act.put, List.setIfInBounds_toArray, List.set_cons_zero, List.set_cons_succ]
                refine wpAnyH_take (i := 13) (oi := { dst := (some 140), op := (Op.move (Operand.tmp 13)), type := 3, pos := "law.go:63", after := #[{ on := 12, ground := Ground.guard }], guard := (some (12, true)) }) rfl (by kernel_rfl) (by kernel_rfl) (by kernel_rfl) (fun _ _ _ h => h) (Or.inr ⟨by rfl, rfl⟩) hHeld ?_
                try simp only [Act.put, List.setIfInBounds_toArray, List.set_cons_zero, List.set_cons_succ]
                refine wpAnyH_take (i := 14) (oi := { dst := (some 141), op := (Op.move (Operand.tmp 6)), type := 27, pos := "law.go:63", after := #[{ on := 12, ground := Ground.guard }], guard := (some (12, true)) }) rfl (by kernel_rfl) (by kernel_rfl) (by kernel_rfl) (fun _ _ _ h => h) (Or.inr ⟨by rfl, rfl⟩) hHeld ?_
                try simp only [Act.put, List.setIfInBounds_toArray, List.set_cons_zero, List.set_cons_succ]
                refine wpAnyH_take (i := 15) (oi := { dst := (some 142), op := (Op.call { callee := (Callee.builtin Builtin.len), args := #[(Operand.tmp 141)], argTypes := #[27] }), type := 3, pos := "law.go:63", after := #[{ on := 14, ground := Ground.data }, { on := 12, ground := Ground.guard }], guard := (some (12, true)) }) rfl (by kernel_rfl) (by kernel_rfl) (by kernel_rfl) (fun _ _ _ h => h) (Or.inr ⟨by rfl, rfl⟩) hHeld ?_
                try simp only [Act.put, List.setIfInBounds_toArray, List.set_cons_zero, List.set_cons_succ]
                refine wpAnyH_take (i := 16) (oi := { dst := (some 143), op := (Op.binOp BinOp.lss 3 (Operand.tmp 140) (Operand.tmp 142) 3), type := 4, pos := "law.go:63", after := #[{ on := 13, ground := Ground.data }, { on := 15, ground := Ground.data }, { on := 12, ground := Ground.guard }], guard := (some (12, true)) }) rfl (by kernel_rfl) (by kernel_rfl) (by kernel_rfl) (fun _ _ _ h => h) (Or.inr ⟨by rfl, rfl⟩) hHeld ?_
                try simp only [Act.put, List.setIfInBounds_toArray, List.set_cons_zero, List.set_cons_succ]
                refine wpAnyH_take (i := 17) (oi := { dst := (some 144), op := (Op.pick (Operand.tmp 139) (Operand.tmp 143) (Operand.const (Value.bool false))), type := 4, pos := "law.go:63", after := #[{ on := 12, ground := Ground.data }, { on := 16, ground := Ground.data }], guard := none }) (v := ?_) rfl (by kernel_rfl) (by kernel_rfl) (by kernel_rfl) (fun _ _ _ h => h) (Or.inl ⟨by rfl, ?_⟩) hHeld ?_
                rotate_left
                · intro w hSw; (try dsimp only at hSw); go_simp; try with_reducible rfl
                try simp only [Act.put, List.setIfInBounds_toArray, List.set_cons_zero, List.set_cons_succ]
                refine wpAnyH_take (i := 18) (oi := { dst := (some 145), op := (Op.move (Operand.tmp 144)), type := 4, pos := "law.go:63", after := #[{ on := 17, ground := Ground.data }, { on := 12, ground := Ground.chain }], guard := none }) (v := ?_) rfl (by kernel_rfl) (by kernel_rfl) (by kernel_rfl) (fun _ _ _ h => h) (Or.inl ⟨by rfl, ?_⟩) hHeld ?_
                rotate_left
                · intro w hSw; (try dsimp only at hSw); go_simp; try with_reducible rfl
                try simp only [Act.put, List.setIfInBounds_toArray, List.set_cons_zero, List.set_cons_succ]
                refine wpAnyH_take (i := 19) (oi := { dst := (some 146), op := (Op.move (Operand.tmp 8)), type := 27, pos := "law.go:63", after := #[{ on := 18, ground := Ground.guard }], guard := (some (18, true)) }) rfl (by kernel_rfl) (by kernel_rfl) (by kernel_rfl) (fun _ _ _ h => h) (Or.inr ⟨by rfl, rfl⟩) hHeld ?_
                try simp only [Act.put, List.setIfInBounds_toArray, List.set_cons_zero, List.set_cons_succ]
                refine wpAnyH_take (i := 20) (oi := { dst := (some 147), op := (Op.move (Operand.tmp 6)), type := 27, pos := "law.go:63", after := #[{ on := 18, ground := Ground.guard }], guard := (some (18, true)) }) rfl (by kernel_rfl) (by kernel_rfl) (by kernel_rfl) (fun _ _ _ h => h) (Or.inr ⟨by rfl, rfl⟩) hHeld ?_
                try simp only [Act.put, List.setIfInBounds_toArray, List.set_cons_zero, List.set_cons_succ]
                refine wpAnyH_take (i := 21) (oi := { dst := (some 148), op := (Op.move (Operand.tmp 12)), type := 3, pos := "law.go:63", after := #[{ on := 18, ground := Ground.guard }], guard := (some (18, true)) }) rfl (by kernel_rfl) (by kernel_rfl) (by kernel_rfl) (fun _ _ _ h => h) (Or.inr ⟨by rfl, rfl⟩) hHeld ?_
                try simp only [Act.put, List.setIfInBounds_toArray, List.set_cons_zero, List.set_cons_succ]
                refine wpAnyH_take (i := 22) (oi := { dst := (some 149), op := (Op.indexAddr 27 (Operand.tmp 147) (Operand.tmp 148)), type := 0, pos := "law.go:63", after := #[{ on := 20, ground := Ground.data }, { on := 21, ground := Ground.data }, { on := 18, ground := Ground.guard }], guard := (some (18, true)) }) rfl (by kernel_rfl) (by kernel_rfl) (by kernel_rfl) (fun _ _ _ h => h) (Or.inr ⟨by rfl, rfl⟩) hHeld ?_
                try simp only [Act.put, List.setIfInBounds_toArray, List.set_cons_zero, List.set_cons_succ]
                refine wpAnyH_take (i := 23) (oi := { dst := (some 150), op := (Op.load 3 (Operand.tmp 149)), type := 3, pos := "law.go:63", after := #[{ on := 22, ground := Ground.data }, { on := 18, ground := Ground.guard }], guard := (some (18, true)) }) rfl (by kernel_rfl) (by kernel_rfl) (by kernel_rfl) (fun _ _ _ h => h) (Or.inr ⟨by rfl, rfl⟩) hHeld ?_
                try simp only [Act.put, List.setIfInBounds_toArray, List.set_cons_zero, List.set_cons_succ]
                refine wpAnyH_take (i := 24) (oi := { dst := (some 151), op := (Op.indexAddr 27 (Operand.tmp 146) (Operand.tmp 150)), type := 0, pos := "law.go:63", after := #[{ on := 19, ground := Ground.data }, { on := 23, ground := Ground.data }, { on := 18, ground := Ground.guard }], guard := (some (18, true)) }) rfl (by kernel_rfl) (by kernel_rfl) (by kernel_rfl) (fun _ _ _ h => h) (Or.inr ⟨by rfl, rfl⟩) hHeld ?_
                try simp only [Act.put, List.setIfInBounds_toArray, List.set_cons_zero, List.set_cons_succ]
                refine wpAnyH_take (i := 25) (oi := { dst := (some 152), op := (Op.load 3 (Operand.tmp 151)), type := 3, pos := "law.go:63", after := #[{ on := 24, ground := Ground.data }, { on := 18, ground := Ground.guard }], guard := (some (18, true)) }) rfl (by kernel_rfl) (by kernel_rfl) (by kernel_rfl) (fun _ _ _ h => h) (Or.inr ⟨by rfl, rfl⟩) hHeld ?_
                try simp only [Act.put, List.setIfInBounds_toArray, List.set_cons_zero, List.set_cons_succ]
                refine wpAnyH_take (i := 26) (oi := { dst := (some 153), op := (Op.move (Operand.tmp 8)), type := 27, pos := "law.go:63", after := #[{ on := 18, ground := Ground.guard }], guard := (some (18, true)) }) rfl (by kernel_rfl) (by kernel_rfl) (by kernel_rfl) (fun _ _ _ h => h) (Or.inr ⟨by rfl, rfl⟩) hHeld ?_
                try simp only [Act.put, List.setIfInBounds_toArray, List.set_cons_zero, List.set_cons_succ]
                refine wpAnyH_take (i := 27) (oi := { dst := (some 154), op := (Op.move (Operand.tmp 6)), type := 27, pos := "law.go:63", after := #[{ on := 18, ground := Ground.guard }], guard := (some (18, true)) }) rfl (by kernel_rfl) (by kernel_rfl) (by kernel_rfl) (fun _ _ _ h => h) (Or.inr ⟨by rfl, rfl⟩) hHeld ?_
                try simp only [Act.put, List.setIfInBounds_toArray, List.set_cons_zero, List.set_cons_succ]
                refine wpAnyH_take (i := 28) (oi := { dst := (some 155), op := (Op.move (Operand.tmp 13)), type := 3, pos := "law.go:63", after := #[{ on := 18, ground := Ground.guard }], guard := (some (18, true)) }) rfl (by kernel_rfl) (by kernel_rfl) (by kernel_rfl) (fun _ _ _ h => h) (Or.inr ⟨by rfl, rfl⟩) hHeld ?_
                try simp only [Act.put, List.setIfInBounds_toArray, List.set_cons_zero, List.set_cons_succ]
                refine wpAnyH_take (i := 29) (oi := { dst := (some 156), op := (Op.indexAddr 27 (Operand.tmp 154) (Operand.tmp 155)), type := 0, pos := "law.go:63", after := #[{ on := 27, ground := Ground.data }, { on := 28, ground := Ground.data }, { on := 18, ground := Ground.guard }], guard := (some (18, true)) }) rfl (by kernel_rfl) (by kernel_rfl) (by kernel_rfl) (fun _ _ _ h => h) (Or.inr ⟨by rfl, rfl⟩) hHeld ?_
                try simp only [Act.put, List.setIfInBounds_toArray, List.set_cons_zero, List.set_cons_succ]
                refine wpAnyH_take (i := 30) (oi := { dst := (some 157), op := (Op.load 3 (Operand.tmp 156)), type := 3, pos := "law.go:63", after := #[{ on := 29, ground := Ground.data }, { on := 18, ground := Ground.guard }], guard := (some (18, true)) }) rfl (by kernel_rfl) (by kernel_rfl) (by kernel_rfl) (fun _ _ _ h => h) (Or.inr ⟨by rfl, rfl⟩) hHeld ?_
                try simp only [Act.put, List.setIfInBounds_toArray, List.set_cons_zero, List.set_cons_succ]
                refine wpAnyH_take (i := 31) (oi := { dst := (some 158), op := (Op.indexAddr 27 (Operand.tmp 153) (Operand.tmp 157)), type := 0, pos := "law.go:63", after := #[{ on := 26, ground := Ground.data }, { on := 30, ground := Ground.data }, { on := 18, ground := Ground.guard }], guard := (some (18, true)) }) rfl (by kernel_rfl) (by kernel_rfl) (by kernel_rfl) (fun _ _ _ h => h) (Or.inr ⟨by rfl, rfl⟩) hHeld ?_
                try simp only [Act.put, List.setIfInBounds_toArray, List.set_cons_zero, List.set_cons_succ]
                refine wpAnyH_take (i := 32) (oi := { dst := (some 159), op := (Op.load 3 (Operand.tmp 158)), type := 3, pos := "law.go:63", after := #[{ on := 31, ground := Ground.data }, { on := 18, ground := Ground.guard }], guard := (some (18, true)) }) rfl (by kernel_rfl) (by kernel_rfl) (by kernel_rfl) (fun _ _ _ h => h) (Or.inr ⟨by rfl, rfl⟩) hHeld ?_
                try simp only [Act.put, List.setIfInBounds_toArray, List.set_cons_zero, List.set_cons_succ]
                refine wpAnyH_take (i := 33) (oi := { dst := (some 160), op := (Op.binOp BinOp.gtr 3 (Operand.tmp 152) (Operand.tmp 159) 3), type := 4, pos := "law.go:63", after := #[{ on := 25, ground := Ground.data }, { on := 32, ground := Ground.data }, { on := 18, ground := Ground.guard }], guard := (some (18, true)) }) rfl (by kernel_rfl) (by kernel_rfl) (by kernel_rfl) (fun _ _ _ h => h) (Or.inr ⟨by rfl, rfl⟩) hHeld ?_
                try simp only [Act.put, List.setIfInBounds_toArray, List.set_cons_zero, List.set_cons_succ]
                refine wpAnyH_take (i := 34) (oi := { dst := (some 161), op := (Op.pick (Operand.tmp 145) (Operand.tmp 160) (Operand.const (Value.bool false))), type := 4, pos := "law.go:63", after := #[{ on := 18, ground := Ground.data }, { on := 33, ground := Ground.data }], guard := none }) (v := ?_) rfl (by kernel_rfl) (by kernel_rfl) (by kernel_rfl) (fun _ _ _ h => h) (Or.inl ⟨by rfl, ?_⟩) hHeld ?_
                rotate_left
                · intro w hSw; (try dsimp only at hSw); go_simp; try with_reducible rfl
                try simp only [Act.put, List.setIfInBounds_toArray, List.set_cons_zero, List.set_cons_succ]
                refine wpAnyH_done (by kernel_rfl) ?_ _
                have HWN := Aside0.mk hHeld
                go_wp2_with fail
                go_roundw
                case rel => exact ⟨j + 1, by omega, by go_num, HWN.out⟩
                case measure => simp [intOf]; omega
              have k3 : decide (0 ≤ fb) = true := decide_eq_true (by omega)
              by_cases d4 : (r.length : Int) ≤ fb
              · have k4 : decide (fb < (r.length : Int)) = false := decide_eq_false (by omega)
                clear hok hfa hfb d1 d2 d3 d4
                go_upto_region 22 with (fail)
                refine wp_region_held_drew (S := fun w' => AtW w6 w' AT) (by kernel_rfl) HW.out.drew (fun hHeld => ?_)
                refine wpAnyH_take (i := 0) (oi := { dst := (some 127), op := (Op.move (Operand.tmp 12)), type := 3, pos := "law.go:63", after := #[], guard := none }) (v := ?_) rfl (by kernel_rfl) (by kernel_rfl) (by kernel_rfl) (fun _ _ _ h => h) (Or.inl ⟨by rfl, ?_⟩) hHeld ?_
                rotate_left
                · intro w hSw; (try dsimp only at hSw); go_simp; try with_reducible rfl
                try simp only [Act.put, List.setIfInBounds_toArray, List.set_cons_zero, List.set_cons_succ]
                refine wpAnyH_take (i := 1) (oi := { dst := (some 128), op := (Op.binOp BinOp.geq 3 (Operand.tmp 127) (Operand.const (Value.int IntKind.i64 0)) 3), type := 4, pos := "law.go:63", after := #[{ on := 0, ground := Ground.data }], guard := none }) (v := ?_) rfl (by kernel_rfl) (by kernel_rfl) (by kernel_rfl) (fun _ _ _ h => h) (Or.inl ⟨by rfl, ?_⟩) hHeld ?_
                rotate_left
                · intro w hSw; (try dsimp only at hSw); go_simp; try with_reducible rfl
                try simp only [Act.put, List.setIfInBounds_toArray, List.set_cons_zero, List.set_cons_succ]
                refine wpAnyH_take (i := 2) (oi := { dst := (some 129), op := (Op.move (Operand.tmp 128)), type := 4, pos := "law.go:63", after := #[{ on := 1, ground := Ground.data }], guard := none }) (v := ?_) rfl (by kernel_rfl) (by kernel_rfl) (by kernel_rfl) (fun _ _ _ h => h) (Or.inl ⟨by rfl, ?_⟩) hHeld ?_
                rotate_left
                · intro w hSw; (try dsimp only at hSw); go_simp; try with_reducible rfl
                try simp only [Act.put, List.setIfInBounds_toArray, List.set_cons_zero, List.set_cons_succ]
                refine wpAnyH_take (i := 3) (oi := { dst := (some 130), op := (Op.move (Operand.tmp 12)), type := 3, pos := "law.go:63", after := #[{ on := 2, ground := Ground.guard }], guard := (some (2, true)) }) (v := ?_) rfl (by kernel_rfl) (by kernel_rfl) (by kernel_rfl) (fun _ _ _ h => h) (Or.inl ⟨by rfl, ?_⟩) hHeld ?_
                rotate_left
                · intro w hSw; (try dsimp only at hSw); go_simp; try with_reducible rfl
                try simp only [Act.put, List.setIfInBounds_toArray, List.set_cons_zero, List.set_cons_succ]
                refine wpAnyH_take (i := 4) (oi := { dst := (some 131), op := (Op.move (Operand.tmp 6)), type := 27, pos := "law.go:63", after := #[{ on := 2, ground := Ground.guard }], guard := (some (2, true)) }) (v := ?_) rfl (by kernel_rfl) (by kernel_rfl) (by kernel_rfl) (fun _ _ _ h => h) (Or.inl ⟨by rfl, ?_⟩) hHeld ?_
                rotate_left
                · intro w hSw; (try dsimp only at hSw); go_simp; try with_reducible rfl
                try simp only [Act.put, List.setIfInBounds_toArray, List.set_cons_zero, List.set_cons_succ]
                refine wpAnyH_take (i := 5) (oi := { dst := (some 132), op := (Op.call { callee := (Callee.builtin Builtin.len), args := #[(Operand.tmp 131)], argTypes := #[27] }), type := 3, pos := "law.go:63", after := #[{ on := 4, ground := Ground.data }, { on := 2, ground := Ground.guard }], guard := (some (2, true)) }) (v := ?_) rfl (by kernel_rfl) (by kernel_rfl) (by kernel_rfl) (fun _ _ _ h => h) (Or.inl ⟨by rfl, ?_⟩) hHeld ?_
                rotate_left
                · intro w hSw; (try dsimp only at hSw); go_simp; try with_reducible rfl
                try simp only [Act.put, List.setIfInBounds_toArray, List.set_cons_zero, List.set_cons_succ]
                refine wpAnyH_take (i := 6) (oi := { dst := (some 133), op := (Op.binOp BinOp.lss 3 (Operand.tmp 130) (Operand.tmp 132) 3), type := 4, pos := "law.go:63", after := #[{ on := 3, ground := Ground.data }, { on := 5, ground := Ground.data }, { on := 2, ground := Ground.guard }], guard := (some (2, true)) }) (v := ?_) rfl (by kernel_rfl) (by kernel_rfl) (by kernel_rfl) (fun _ _ _ h => h) (Or.inl ⟨by rfl, ?_⟩) hHeld ?_
                rotate_left
                · intro w hSw; (try dsimp only at hSw); go_simp; try with_reducible rfl
                try simp only [Act.put, List.setIfInBounds_toArray, List.set_cons_zero, List.set_cons_succ]
                refine wpAnyH_take (i := 7) (oi := { dst := (some 134), op := (Op.pick (Operand.tmp 129) (Operand.tmp 133) (Operand.const (Value.bool false))), type := 4, pos := "law.go:63", after := #[{ on := 2, ground := Ground.data }, { on := 6, ground := Ground.data }], guard := none }) (v := ?_) rfl (by kernel_rfl) (by kernel_rfl) (by kernel_rfl) (fun _ _ _ h => h) (Or.inl ⟨by rfl, ?_⟩) hHeld ?_
                rotate_left
                · intro w hSw; (try dsimp only at hSw); go_simp; try with_reducible rfl
                try simp only [Act.put, List.setIfInBounds_toArray, List.set_cons_zero, List.set_cons_succ]
                refine wpAnyH_take (i := 8) (oi := { dst := (some 135), op := (Op.move (Operand.tmp 134)), type := 4, pos := "law.go:63", after := #[{ on := 7, ground := Ground.data }, { on := 2, ground := Ground.chain }], guard := none }) (v := ?_) rfl (by kernel_rfl) (by kernel_rfl) (by kernel_rfl) (fun _ _ _ h => h) (Or.inl ⟨by rfl, ?_⟩) hHeld ?_
                rotate_left
                · intro w hSw; (try dsimp only at hSw); go_simp; try with_reducible rfl
                try simp only [Act.put, List.setIfInBounds_toArray, List.set_cons_zero, List.set_cons_succ]
                refine wpAnyH_take (i := 9) (oi := { dst := (some 136), op := (Op.move (Operand.tmp 13)), type := 3, pos := "law.go:63", after := #[{ on := 8, ground := Ground.guard }], guard := (some (8, true)) }) (v := ?_) rfl (by kernel_rfl) (by kernel_rfl) (by kernel_rfl) (fun _ _ _ h => h) (Or.inl ⟨by rfl, ?_⟩) hHeld ?_
                rotate_left
                · intro w hSw; (try dsimp only at hSw); go_simp; try with_reducible rfl
                try simp only [Act.put, List.setIfInBounds_toArray, List.set_cons_zero, List.set_cons_succ]
                refine wpAnyH_take (i := 10) (oi := { dst := (some 137), op := (Op.binOp BinOp.geq 3 (Operand.tmp 136) (Operand.const (Value.int IntKind.i64 0)) 3), type := 4, pos := "law.go:63", after := #[{ on := 9, ground := Ground.data }, { on := 8, ground := Ground.guard }], guard := (some (8, true)) }) (v := ?_) rfl (by kernel_rfl) (by kernel_rfl) (by kernel_rfl) (fun _ _ _ h => h) (Or.inl ⟨by rfl, ?_⟩) hHeld ?_
                rotate_left
                · intro w hSw; (try dsimp only at hSw); go_simp; try with_reducible rfl
                try simp only [Act.put, List.setIfInBounds_toArray, List.set_cons_zero, List.set_cons_succ]
                refine wpAnyH_take (i := 11) (oi := { dst := (some 138), op := (Op.pick (Operand.tmp 135) (Operand.tmp 137) (Operand.const (Value.bool false))), type := 4, pos := "law.go:63", after := #[{ on := 8, ground := Ground.data }, { on := 10, ground := Ground.data }], guard := none }) (v := ?_) rfl (by kernel_rfl) (by kernel_rfl) (by kernel_rfl) (fun _ _ _ h => h) (Or.inl ⟨by rfl, ?_⟩) hHeld ?_
                rotate_left
                · intro w hSw; (try dsimp only at hSw); go_simp; try with_reducible rfl
                try simp only [Act.put, List.setIfInBounds_toArray, List.set_cons_zero, List.set_cons_succ]
                refine wpAnyH_take (i := 12) (oi := { dst := (some 139), op := (Op.move (Operand.tmp 138)), type := 4, pos := "law.go:63", after := #[{ on := 11, ground := Ground.data }, { on := 8, ground := Ground.chain }], guard := none }) (v := ?_) rfl (by kernel_rfl) (by kernel_rfl) (by kernel_rfl) (fun _ _ _ h => h) (Or.inl ⟨by rfl, ?_⟩) hHeld ?_
                rotate_left
                · intro w hSw; (try dsimp only at hSw); go_simp; try with_reducible rfl
                try simp only [Act.put, List.setIfInBounds_toArray, List.set_cons_zero, List.set_cons_succ]
                refine wpAnyH_take (i := 13) (oi := { dst := (some 140), op := (Op.move (Operand.tmp 13)), type := 3, pos := "law.go:63", after := #[{ on := 12, ground := Ground.guard }], guard := (some (12, true)) }) (v := ?_) rfl (by kernel_rfl) (by kernel_rfl) (by kernel_rfl) (fun _ _ _ h => h) (Or.inl ⟨by rfl, ?_⟩) hHeld ?_
                rotate_left
                · intro w hSw; (try dsimp only at hSw); go_simp; try with_reducible rfl
                try simp only [Act.put, List.setIfInBounds_toArray, List.set_cons_zero, List.set_cons_succ]
                refine wpAnyH_take (i := 14) (oi := { dst := (some 141), op := (Op.move (Operand.tmp 6)), type := 27, pos := "law.go:63", after := #[{ on := 12, ground := Ground.guard }], guard := (some (12, true)) }) (v := ?_) rfl (by kernel_rfl) (by kernel_rfl) (by kernel_rfl) (fun _ _ _ h => h) (Or.inl ⟨by rfl, ?_⟩) hHeld ?_
                rotate_left
                · intro w hSw; (try dsimp only at hSw); go_simp; try with_reducible rfl
                try simp only [Act.put, List.setIfInBounds_toArray, List.set_cons_zero, List.set_cons_succ]
                refine wpAnyH_take (i := 15) (oi := { dst := (some 142), op := (Op.call { callee := (Callee.builtin Builtin.len), args := #[(Operand.tmp 141)], argTypes := #[27] }), type := 3, pos := "law.go:63", after := #[{ on := 14, ground := Ground.data }, { on := 12, ground := Ground.guard }], guard := (some (12, true)) }) (v := ?_) rfl (by kernel_rfl) (by kernel_rfl) (by kernel_rfl) (fun _ _ _ h => h) (Or.inl ⟨by rfl, ?_⟩) hHeld ?_
                rotate_left
                · intro w hSw; (try dsimp only at hSw); go_simp; try with_reducible rfl
                try simp only [Act.put, List.setIfInBounds_toArray, List.set_cons_zero, List.set_cons_succ]
                refine wpAnyH_take (i := 16) (oi := { dst := (some 143), op := (Op.binOp BinOp.lss 3 (Operand.tmp 140) (Operand.tmp 142) 3), type := 4, pos := "law.go:63", after := #[{ on := 13, ground := Ground.data }, { on := 15, ground := Ground.data }, { on := 12, ground := Ground.guard }], guard := (some (12, true)) }) (v := ?_) rfl (by kernel_rfl) (by kernel_rfl) (by kernel_rfl) (fun _ _ _ h => h) (Or.inl ⟨by rfl, ?_⟩) hHeld ?_
                rotate_left
                · intro w hSw; (try dsimp only at hSw); go_simp; try with_reducible rfl
                try simp only [Act.put, List.setIfInBounds_toArray, List.set_cons_zero, List.set_cons_succ]
                refine wpAnyH_take (i := 17) (oi := { dst := (some 144), op := (Op.pick (Operand.tmp 139) (Operand.tmp 143) (Operand.const (Value.bool false))), type := 4, pos := "law.go:63", after := #[{ on := 12, ground := Ground.data }, { on := 16, ground := Ground.data }], guard := none }) (v := ?_) rfl (by kernel_rfl) (by kernel_rfl) (by kernel_rfl) (fun _ _ _ h => h) (Or.inl ⟨by rfl, ?_⟩) hHeld ?_
                rotate_left
                · intro w hSw; (try dsimp only at hSw); go_simp; try with_reducible rfl
                try simp only [Act.put, List.setIfInBounds_toArray, List.set_cons_zero, List.set_cons_succ]
                refine wpAnyH_take (i := 18) (oi := { dst := (some 145), op := (Op.move (Operand.tmp 144)), type := 4, pos := "law.go:63", after := #[{ on := 17, ground := Ground.data }, { on := 12, ground := Ground.chain }], guard := none }) (v := ?_) rfl (by kernel_rfl) (by kernel_rfl) (by kernel_rfl) (fun _ _ _ h => h) (Or.inl ⟨by rfl, ?_⟩) hHeld ?_
                rotate_left
                · intro w hSw; (try dsimp only at hSw); go_simp; try with_reducible rfl
                try simp only [Act.put, List.setIfInBounds_toArray, List.set_cons_zero, List.set_cons_succ]
                refine wpAnyH_take (i := 19) (oi := { dst := (some 146), op := (Op.move (Operand.tmp 8)), type := 27, pos := "law.go:63", after := #[{ on := 18, ground := Ground.guard }], guard := (some (18, true)) }) rfl (by kernel_rfl) (by kernel_rfl) (by kernel_rfl) (fun _ _ _ h => h) (Or.inr ⟨by rfl, rfl⟩) hHeld ?_
                try simp only [Act.put, List.setIfInBounds_toArray, List.set_cons_zero, List.set_cons_succ]
                refine wpAnyH_take (i := 20) (oi := { dst := (some 147), op := (Op.move (Operand.tmp 6)), type := 27, pos := "law.go:63", after := #[{ on := 18, ground := Ground.guard }], guard := (some (18, true)) }) rfl (by kernel_rfl) (by kernel_rfl) (by kernel_rfl) (fun _ _ _ h => h) (Or.inr ⟨by rfl, rfl⟩) hHeld ?_
                try simp only [Act.put, List.setIfInBounds_toArray, List.set_cons_zero, List.set_cons_succ]
                refine wpAnyH_take (i := 21) (oi := { dst := (some 148), op := (Op.move (Operand.tmp 12)), type := 3, pos := "law.go:63", after := #[{ on := 18, ground := Ground.guard }], guard := (some (18, true)) }) rfl (by kernel_rfl) (by kernel_rfl) (by kernel_rfl) (fun _ _ _ h => h) (Or.inr ⟨by rfl, rfl⟩) hHeld ?_
                try simp only [Act.put, List.setIfInBounds_toArray, List.set_cons_zero, List.set_cons_succ]
                refine wpAnyH_take (i := 22) (oi := { dst := (some 149), op := (Op.indexAddr 27 (Operand.tmp 147) (Operand.tmp 148)), type := 0, pos := "law.go:63", after := #[{ on := 20, ground := Ground.data }, { on := 21, ground := Ground.data }, { on := 18, ground := Ground.guard }], guard := (some (18, true)) }) rfl (by kernel_rfl) (by kernel_rfl) (by kernel_rfl) (fun _ _ _ h => h) (Or.inr ⟨by rfl, rfl⟩) hHeld ?_
                try simp only [Act.put, List.setIfInBounds_toArray, List.set_cons_zero, List.set_cons_succ]
                refine wpAnyH_take (i := 23) (oi := { dst := (some 150), op := (Op.load 3 (Operand.tmp 149)), type := 3, pos := "law.go:63", after := #[{ on := 22, ground := Ground.data }, { on := 18, ground := Ground.guard }], guard := (some (18, true)) }) rfl (by kernel_rfl) (by kernel_rfl) (by kernel_rfl) (fun _ _ _ h => h) (Or.inr ⟨by rfl, rfl⟩) hHeld ?_
                try simp only [Act.put, List.setIfInBounds_toArray, List.set_cons_zero, List.set_cons_succ]
                refine wpAnyH_take (i := 24) (oi := { dst := (some 151), op := (Op.indexAddr 27 (Operand.tmp 146) (Operand.tmp 150)), type := 0, pos := "law.go:63", after := #[{ on := 19, ground := Ground.data }, { on := 23, ground := Ground.data }, { on := 18, ground := Ground.guard }], guard := (some (18, true)) }) rfl (by kernel_rfl) (by kernel_rfl) (by kernel_rfl) (fun _ _ _ h => h) (Or.inr ⟨by rfl, rfl⟩) hHeld ?_
                try simp only [Act.put, List.setIfInBounds_toArray, List.set_cons_zero, List.set_cons_succ]
                refine wpAnyH_take (i := 25) (oi := { dst := (some 152), op := (Op.load 3 (Operand.tmp 151)), type := 3, pos := "law.go:63", after := #[{ on := 24, ground := Ground.data }, { on := 18, ground := Ground.guard }], guard := (some (18, true)) }) rfl (by kernel_rfl) (by kernel_rfl) (by kernel_rfl) (fun _ _ _ h => h) (Or.inr ⟨by rfl, rfl⟩) hHeld ?_
                try simp only [Act.put, List.setIfInBounds_toArray, List.set_cons_zero, List.set_cons_succ]
                refine wpAnyH_take (i := 26) (oi := { dst := (some 153), op := (Op.move (Operand.tmp 8)), type := 27, pos := "law.go:63", after := #[{ on := 18, ground := Ground.guard }], guard := (some (18, true)) }) rfl (by kernel_rfl) (by kernel_rfl) (by kernel_rfl) (fun _ _ _ h => h) (Or.inr ⟨by rfl, rfl⟩) hHeld ?_
                try simp only [Act.put, List.setIfInBounds_toArray, List.set_cons_zero, List.set_cons_succ]
                refine wpAnyH_take (i := 27) (oi := { dst := (some 154), op := (Op.move (Operand.tmp 6)), type := 27, pos := "law.go:63", after := #[{ on := 18, ground := Ground.guard }], guard := (some (18, true)) }) rfl (by kernel_rfl) (by kernel_rfl) (by kernel_rfl) (fun _ _ _ h => h) (Or.inr ⟨by rfl, rfl⟩) hHeld ?_
                try simp only [Act.put, List.setIfInBounds_toArray, List.set_cons_zero, List.set_cons_succ]
                refine wpAnyH_take (i := 28) (oi := { dst := (some 155), op := (Op.move (Operand.tmp 13)), type := 3, pos := "law.go:63", after := #[{ on := 18, ground := Ground.guard }], guard := (some (18, true)) }) rfl (by kernel_rfl) (by kernel_rfl) (by kernel_rfl) (fun _ _ _ h => h) (Or.inr ⟨by rfl, rfl⟩) hHeld ?_
                try simp only [Act.put, List.setIfInBounds_toArray, List.set_cons_zero, List.set_cons_succ]
                refine wpAnyH_take (i := 29) (oi := { dst := (some 156), op := (Op.indexAddr 27 (Operand.tmp 154) (Operand.tmp 155)), type := 0, pos := "law.go:63", after := #[{ on := 27, ground := Ground.data }, { on := 28, ground := Ground.data }, { on := 18, ground := Ground.guard }], guard := (some (18, true)) }) rfl (by kernel_rfl) (by kernel_rfl) (by kernel_rfl) (fun _ _ _ h => h) (Or.inr ⟨by rfl, rfl⟩) hHeld ?_
                try simp only [Act.put, List.setIfInBounds_toArray, List.set_cons_zero, List.set_cons_succ]
                refine wpAnyH_take (i := 30) (oi := { dst := (some 157), op := (Op.load 3 (Operand.tmp 156)), type := 3, pos := "law.go:63", after := #[{ on := 29, ground := Ground.data }, { on := 18, ground := Ground.guard }], guard := (some (18, true)) }) rfl (by kernel_rfl) (by kernel_rfl) (by kernel_rfl) (fun _ _ _ h => h) (Or.inr ⟨by rfl, rfl⟩) hHeld ?_
                try simp only [Act.put, List.setIfInBounds_toArray, List.set_cons_zero, List.set_cons_succ]
                refine wpAnyH_take (i := 31) (oi := { dst := (some 158), op := (Op.indexAddr 27 (Operand.tmp 153) (Operand.tmp 157)), type := 0, pos := "law.go:63", after := #[{ on := 26, ground := Ground.data }, { on := 30, ground := Ground.data }, { on := 18, ground := Ground.guard }], guard := (some (18, true)) }) rfl (by kernel_rfl) (by kernel_rfl) (by kernel_rfl) (fun _ _ _ h => h) (Or.inr ⟨by rfl, rfl⟩) hHeld ?_
                try simp only [Act.put, List.setIfInBounds_toArray, List.set_cons_zero, List.set_cons_succ]
                refine wpAnyH_take (i := 32) (oi := { dst := (some 159), op := (Op.load 3 (Operand.tmp 158)), type := 3, pos := "law.go:63", after := #[{ on := 31, ground := Ground.data }, { on := 18, ground := Ground.guard }], guard := (some (18, true)) }) rfl (by kernel_rfl) (by kernel_rfl) (by kernel_rfl) (fun _ _ _ h => h) (Or.inr ⟨by rfl, rfl⟩) hHeld ?_
                try simp only [Act.put, List.setIfInBounds_toArray, List.set_cons_zero, List.set_cons_succ]
                refine wpAnyH_take (i := 33) (oi := { dst := (some 160), op := (Op.binOp BinOp.gtr 3 (Operand.tmp 152) (Operand.tmp 159) 3), type := 4, pos := "law.go:63", after := #[{ on := 25, ground := Ground.data }, { on := 32, ground := Ground.data }, { on := 18, ground := Ground.guard }], guard := (some (18, true)) }) rfl (by kernel_rfl) (by kernel_rfl) (by kernel_rfl) (fun _ _ _ h => h) (Or.inr ⟨by rfl, rfl⟩) hHeld ?_
                try simp only [Act.put, List.setIfInBounds_toArray, List.set_cons_zero, List.set_cons_succ]
                refine wpAnyH_take (i := 34) (oi := { dst := (some 161), op := (Op.pick (Operand.tmp 145) (Operand.tmp 160) (Operand.const (Value.bool false))), type := 4, pos := "law.go:63", after := #[{ on := 18, ground := Ground.data }, { on := 33, ground := Ground.data }], guard := none }) (v := ?_) rfl (by kernel_rfl) (by kernel_rfl) (by kernel_rfl) (fun _ _ _ h => h) (Or.inl ⟨by rfl, ?_⟩) hHeld ?_
                rotate_left
                · intro w hSw; (try dsimp only at hSw); go_simp; try with_reducible rfl
                try simp only [Act.put, List.setIfInBounds_toArray, List.set_cons_zero, List.set_cons_succ]
                refine wpAnyH_done (by kernel_rfl) ?_ _
                have HWN := Aside0.mk hHeld
                go_wp2_with fail
                go_roundw
                case rel => exact ⟨j + 1, by omega, by go_num, HWN.out⟩
                case measure => simp [intOf]; omega
              have k4 : decide (fb < (r.length : Int)) = true := decide_eq_true (by omega)
              have hle := hok ⟨by omega, by omega, by omega, by omega⟩
              obtain ⟨a, rfl⟩ : ∃ a : Nat, fa = a := ⟨fa.toNat, by omega⟩
              obtain ⟨b, rfl⟩ : ∃ b : Nat, fb = b := ⟨fb.toNat, by omega⟩
              rw [Int.toNat_natCast, Int.toNat_natCast] at hle
              have ha1 : a < r.length := by omega
              have hb1 : b < r.length := by omega
              have ha2 := (HLT.out a ha1).1
              have hb2 := (HLT.out b hb1).1
              obtain ⟨ad3, e3, g1⟩ := (HA3'.out.below HW.out.below).at_ a ha1
              obtain ⟨ad3', e3', g2⟩ := (HA3'.out.below HW.out.below).at_ b hb1
              obtain rfl : ad3 = ad3' := by rw [e3] at e3'; injection e3'
              clear e3' hok hfa hfb d1 d2 d3 d4
              subst e3
              generalize r.getD a 0 = ga at hle g1 ha2
              generalize r.getD b 0 = gb at hle g2 hb2
              have c1 := HW.out.cell ga (by rw [HATL.out]; exact ha2)
              have c2 := HW.out.cell gb (by rw [HATL.out]; exact hb2)
              generalize AT.getD ga 0 = X at c1 hle
              generalize AT.getD gb 0 = Y at c2 hle
              have k5 : decide ((Y : Int) < (X : Int)) = false := decide_eq_false (by omega)
              have k6 : decide (Y < X) = false := decide_eq_false (by omega)
              have n1 : (0 : Int) ≤ (a : Int) := Int.natCast_nonneg a
              have n2 : (a : Int) < (r.length : Int) := by omega
              have n3 : (0 : Int) ≤ (b : Int) := Int.natCast_nonneg b
              have n4 : (b : Int) < (r.length : Int) := by omega
              have n5 : (0 : Int) ≤ (ga : Int) := Int.natCast_nonneg ga
              have n6 : (ga : Int) < (r.length : Int) := by omega
              have n7 : (0 : Int) ≤ (gb : Int) := Int.natCast_nonneg gb
              have n8 : (gb : Int) < (r.length : Int) := by omega
              clear hle ha1 hb1 ha2 hb2
              go_upto_region 22 with (fail)
              go_still (by kernel_rfl)
              generalize hwn : ({ heap := wr.heap, tape := wr.tape, drawn := wr.drawn + 1, os := wr.os, output := wr.output } : World) = wn
              replace HW : Aside0 (AtW w6 wn AT) := Aside0.mk (by rw [← hwn]; exact HW.out.drew)
              clear hwn
              go_wp2_with fail
              go_roundw
              case rel => exact ⟨j + 1, by omega, by go_num, HW.out⟩
              case measure => simp [intOf]; omega
            · have hM := HM.out
              by_cases hm0 : m < 0
              · have k1 : decide (m < 0) = true := decide_eq_true hm0
                clear hm0 hM
                go_wp2_with fail
                go_ret
                exact ⟨rfl, below_step HB6.out HW.out.below⟩
              · have k1 : decide (m < 0) = false := decide_eq_false hm0
                have hmr : m = (r.length : Int) := by have := HG.out.1; unfold sizeN at this; omega
                have k2 : ((r.length : Int) == m) = true := beq_iff_eq.mpr hmr.symm
                clear hm0 hM hmr
                go_wp2_with fail
                go_ret
                exact ⟨rfl, below_step HB6.out HW.out.below⟩
end Go.Proofs.Ytdobjmbfkdfdcaa.G
