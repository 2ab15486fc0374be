/- The law MemParts of mem is true: its walk. No condition. -/
import Derived.Test.YteogfjhmjlelnaaMu
import Derived.Test.YteogfjhmjlelnaaMx
set_option linter.unusedVariables false
set_option linter.unusedSimpArgs false
namespace Go.Proofs.Yteogfjhmjlelnaa.G
open Go.RowKit Go.Proofs.Yteogfjhmjlelnaa.B Go.Proofs.YteogfjhmjlelnaaW.PrintWords Go.Proofs.YteogfjhmjlelnaaW.PrintLast Go.Proofs.YteogfjhmjlelnaaW.PrintMore

theorem pw_box0 {W : World} {g t : Nat} {a b c : Value} (h : W.heap[g]? = some (.cells #[a, b, c] t (0, 0))) : W.cell? ⟨g, 0, none⟩ = some a := (cell3 h).1
theorem pw_box1 {W : World} {g t : Nat} {a b c : Value} (h : W.heap[g]? = some (.cells #[a, b, c] t (0, 0))) : W.cell? ⟨g, 1, none⟩ = some b := (cell3 h).2.1
theorem pw_box2 {W : World} {g t : Nat} {a b c : Value} (h : W.heap[g]? = some (.cells #[a, b, c] t (0, 0))) : W.cell? ⟨g, 2, none⟩ = some c := (cell3 h).2.2
set_option maxRecDepth 100000 in
set_option maxHeartbeats 32000000 in
theorem MemParts_same (p : Vl) (T S b1 a b : Nat) (hT : T ≤ 255) (hS : S ≤ 255) (hb1 : T % 5 = b1) (ha : S % 8 = a) (hb : S / 8 % 8 = b) (hab : a = b) (w : World) :
    Calls Try.prog 4 #[.agg #[.int .i64 p.n, .int .i64 p.b, .int .i64 p.f], .int .u8 T, .int .u8 S] w fun e w' => e = .returned (.bool true) ∧ Below w.heap.size w w' := by
  have HB := Aside0.mk (below_alloc (Below.refl w.heap.size w) (.cells #[.int .i64 p.n, .int .i64 p.b, .int .i64 p.f] 23))
  have HX := Aside0.mk (blk_new w (.cells #[.int .i64 p.n, .int .i64 p.b, .int .i64 p.f] 23))
  have HTS := Aside0.mk (show T % 5 = b1 ∧ S % 8 = a ∧ S / 8 % 8 = b from ⟨hb1, ha, hb⟩)
  have HAB := Aside0.mk hab
  have hT2 : (T : Int) ≤ 255 := by omega
  have hb15 : b1 < 5 := by omega
  have ha8 : a < 8 := by omega
  have hb8 : b < 8 := by omega
  clear hb1 ha hb hab hT hS
  go_enter Try.func4, Try.ntmps4
  go_upto_region 1 with (fail)
  generalize w.alloc (.cells #[.int .i64 p.n, .int .i64 p.b, .int .i64 p.f] 23) = wn at HB HX ⊢
  go_upto_region 4 with (first | (go_at_call 10; refine (shown_calls _).mono ?_; rintro e w1 ⟨rfl, hk⟩; replace HX := Aside0.mk (blk_below HX.out hk); replace HB := Aside0.mk (below_step HB.out hk); clear hk) | (go_at_call 11; refine (Live.new _ HB.out).mono ?_; rintro e wn ⟨rfl, hL, hk⟩; replace HX := Aside0.mk (blk_below HX.out hk); have HL := Aside0.mk hL; clear hL hk) | (go_at_call 12; refine (HL.out.alloc (by decide) 0 32 true _ pa_a).mono ?_; rintro e wn ⟨rfl, gs1, hL, hk⟩; replace HX := Aside0.mk (HL.out.box HX.out hk); replace HL := Aside0.mk hL; clear hL hk))
  clear HB
  have hx := cell3 HX.out
  go_upto_region 5 with (fail)
  rw [show (T : Int) % 5 = ((T % 5 : Nat) : Int) by omega, HTS.out.1]
  clear hx HX
  obtain ⟨v, hv⟩ : ∃ v : Vl, v = ⟨p.n, 1 + (b1 : Int), 0⟩ := ⟨_, rfl⟩
  have hvn : p.n = v.n := by rw [hv]
  have hvb : 1 + (b1 : Int) = v.b := by rw [hv]
  have hvf : (0 : Int) = v.f := by rw [hv]
  have HVB := Aside0.mk (show 0 < v.b by rw [← hvb]; omega)
  have HVF := Aside0.mk hvf.symm
  have hk := below_alloc (Below.refl wn.heap.size wn) (.cells #[.int .i64 v.n, .int .i64 v.b, .int .i64 v.f] 23)
  have HV := Aside0.mk (blk_new wn (.cells #[.int .i64 v.n, .int .i64 v.b, .int .i64 v.f] 23))
  replace HL := Aside0.mk (HL.out.low hk)
  clear hk
  rw [show (Obj.cells #[.int .i64 p.n, .int .i64 (1 + (b1 : Int)), .int .i64 0] 23) = .cells #[.int .i64 v.n, .int .i64 v.b, .int .i64 v.f] 23 by rw [← hvn, ← hvb, ← hvf], show (Value.agg #[.int .i64 p.n, .int .i64 (1 + (b1 : Int)), .int .i64 0]) = .agg #[.int .i64 v.n, .int .i64 v.b, .int .i64 v.f] by rw [← hvn, ← hvb, ← hvf]]
  clear hv hvn hvb hvf hb15
  generalize wn.heap.size = g11 at HV ⊢
  generalize wn.alloc (.cells #[.int .i64 v.n, .int .i64 v.b, .int .i64 v.f] 23) = wn at HL HV ⊢
  have HLD := Aside0.mk (HL.out.low (below_drew (Below.refl _ _)))
  have HVD : Aside0 (wn.drew.heap[g11]? = some (.cells #[.int .i64 v.n, .int .i64 v.b, .int .i64 v.f] 23)) := HV
  have hx := cell3 HV.out
  have hS : (wn.cell? ⟨g11, 0, none⟩ = some (.int .i64 v.n) ∧ wn.cell? ⟨g11, 1, none⟩ = some (.int .i64 v.b) ∧ wn.cell? ⟨g11, 2, none⟩ = some (.int .i64 v.f)) := ⟨hx.1, hx.2.1, hx.2.2⟩
  clear hx
  have HK := Aside0.mk (show ∀ Wa Wb : World, Below Wa.heap.size Wa Wb → (Wa.cell? ⟨g11, 0, none⟩ = some (.int .i64 v.n) ∧ Wa.cell? ⟨g11, 1, none⟩ = some (.int .i64 v.b) ∧ Wa.cell? ⟨g11, 2, none⟩ = some (.int .i64 v.f)) → (Wb.cell? ⟨g11, 0, none⟩ = some (.int .i64 v.n) ∧ Wb.cell? ⟨g11, 1, none⟩ = some (.int .i64 v.b) ∧ Wb.cell? ⟨g11, 2, none⟩ = some (.int .i64 v.f)) from fun _ _ hb h => ⟨pw_cell_below hb h.1, pw_cell_below hb h.2.1, pw_cell_below hb h.2.2⟩)
  refine wp_region_held_drew (S := fun w' => w'.cell? ⟨g11, 0, none⟩ = some (.int .i64 v.n) ∧ w'.cell? ⟨g11, 1, none⟩ = some (.int .i64 v.b) ∧ w'.cell? ⟨g11, 2, none⟩ = some (.int .i64 v.f)) (by kernel_rfl) ⟨hS.1, hS.2.1, hS.2.2⟩ (fun hHeld => ?_)
  refine wpAnyH_take (i := 0) (oi := { dst := (some 40), op := (Op.move (Operand.tmp 10)), type := 27, pos := "law.go:136", after := #[], guard := none }) (v := ?_) rfl (by kernel_rfl) (by kernel_rfl) (by kernel_rfl) (fun _ _ _ h => h) (Or.inl ⟨by rfl, ?_⟩) hHeld ?_
  rotate_left
  · intro w hSw; (try dsimp only at hSw); go_simp; try with_reducible rfl
  try simp only [Act.put, List.setIfInBounds_toArray, List.set_cons_zero, List.set_cons_succ]
  refine wpAnyH_take (i := 1) (oi := { dst := (some 41), op := (Op.binOp BinOp.neq 27 (Operand.tmp 40) (Operand.const (Value.int IntKind.i64 0)) 27), type := 4, pos := "law.go:136", after := #[{ on := 0, ground := Ground.data }], guard := none }) (v := ?_) rfl (by kernel_rfl) (by kernel_rfl) (by kernel_rfl) (fun _ _ _ h => h) (Or.inl ⟨by rfl, ?_⟩) hHeld ?_
  rotate_left
  · intro w hSw; (try dsimp only at hSw); go_simp; try with_reducible rfl
  try simp only [Act.put, List.setIfInBounds_toArray, List.set_cons_zero, List.set_cons_succ]
  refine wpAnyH_take (i := 2) (oi := { dst := (some 42), op := (Op.move (Operand.tmp 41)), type := 4, pos := "law.go:136", after := #[{ on := 1, ground := Ground.data }], guard := none }) (v := ?_) rfl (by kernel_rfl) (by kernel_rfl) (by kernel_rfl) (fun _ _ _ h => h) (Or.inl ⟨by rfl, ?_⟩) hHeld ?_
  rotate_left
  · intro w hSw; (try dsimp only at hSw); go_simp; try with_reducible rfl
  try simp only [Act.put, List.setIfInBounds_toArray, List.set_cons_zero, List.set_cons_succ]
  refine wpAnyH_take (i := 3) (oi := { dst := (some 43), op := (Op.move (Operand.tmp 8)), type := 25, pos := "law.go:136", after := #[{ on := 2, ground := Ground.guard }], guard := (some (2, false)) }) (v := ?_) rfl (by kernel_rfl) (by kernel_rfl) (by kernel_rfl) (fun _ _ _ h => h) (Or.inl ⟨by rfl, ?_⟩) hHeld ?_
  rotate_left
  · intro w hSw; (try dsimp only at hSw); go_simp; try with_reducible rfl
  try simp only [Act.put, List.setIfInBounds_toArray, List.set_cons_zero, List.set_cons_succ]
  refine wpAnyH_take (i := 5) (oi := { dst := (some 45), op := (Op.load 23 (Operand.tmp 11)), type := 23, pos := "law.go:136", after := #[{ on := 2, ground := Ground.guard }], guard := (some (2, false)) }) (v := ?_) rfl (by kernel_rfl) (by kernel_rfl) (by kernel_rfl) (fun _ _ _ h => h) (Or.inl ⟨by rfl, ?_⟩) hHeld ?_
  rotate_left
  · intro w hSw; (try dsimp only at hSw); go_simp; try with_reducible rfl
  try simp only [Act.put, List.setIfInBounds_toArray, List.set_cons_zero, List.set_cons_succ]
  refine wpAnyH_ready (rs := [4]) (by kernel_rfl) (by simp) ?_
  refine AllReadyH.cons (o := { dst := (some 44), op := (Op.call { callee := (Callee.value (Operand.func 15)), args := #[(Operand.const (Value.int IntKind.i64 3))], argTypes := #[2] }), type := 23, pos := "law.go:136", after := #[{ on := 2, ground := Ground.chain }, { on := 2, ground := Ground.guard }], guard := (some (2, false)) }) rfl (fun K hK => ?_) AllReadyH.nil
  go_simp
  refine (at_calls _ _).mono ?_
  rintro e w5 ⟨rfl, hb2⟩
  refine hK.out _ _ (HK.out _ _ hb2 hHeld) (fun hHeld => ?_)
  clear hK K
  try simp only [Act.put, List.setIfInBounds_toArray, List.set_cons_zero, List.set_cons_succ]
  refine wpAnyH_ready (rs := [6]) (by kernel_rfl) (by simp) ?_
  refine AllReadyH.cons (o := { dst := (some 46), op := (Op.call { callee := (Callee.value (Operand.func 16)), args := #[(Operand.tmp 43), (Operand.tmp 44), (Operand.const (Value.int IntKind.i64 8)), (Operand.tmp 45)], argTypes := #[25, 23, 3, 23] }), type := 27, pos := "law.go:136", after := #[{ on := 3, ground := Ground.data }, { on := 4, ground := Ground.data }, { on := 5, ground := Ground.data }, { on := 4, ground := Ground.chain }, { on := 2, ground := Ground.guard }], guard := (some (2, false)) }) rfl (fun K hK => ?_) AllReadyH.nil
  go_simp
  refine ((HLD.out.low hb2).store (vat 3) 8 v _ (pa_s HVB.out HVF.out)).mono ?_
  rintro e w6 ⟨rfl, hL6, hk6⟩
  refine hK.out _ _ (⟨pw_box0 ((HLD.out.low hb2).box (blk_below HVD.out hb2) hk6), pw_box1 ((HLD.out.low hb2).box (blk_below HVD.out hb2) hk6), pw_box2 ((HLD.out.low hb2).box (blk_below HVD.out hb2) hk6)⟩) (fun hHeld => ?_)
  clear hK K
  try simp only [Act.put, List.setIfInBounds_toArray, List.set_cons_zero, List.set_cons_succ]
  refine wpAnyH_take (i := 7) (oi := { dst := (some 47), op := (Op.binOp BinOp.neq 27 (Operand.tmp 46) (Operand.const (Value.int IntKind.i64 0)) 27), type := 4, pos := "law.go:136", after := #[{ on := 6, ground := Ground.data }, { on := 2, ground := Ground.guard }], guard := (some (2, false)) }) (v := ?_) rfl (by kernel_rfl) (by kernel_rfl) (by kernel_rfl) (fun _ _ _ h => h) (Or.inl ⟨by rfl, ?_⟩) hHeld ?_
  rotate_left
  · intro w hSw; (try dsimp only at hSw); go_simp; try with_reducible rfl
  try simp only [Act.put, List.setIfInBounds_toArray, List.set_cons_zero, List.set_cons_succ]
  refine wpAnyH_take (i := 8) (oi := { dst := (some 48), op := (Op.pick (Operand.tmp 42) (Operand.const (Value.bool true)) (Operand.tmp 47)), type := 4, pos := "law.go:136", after := #[{ on := 2, ground := Ground.data }, { on := 7, ground := Ground.data }], guard := none }) (v := ?_) rfl (by kernel_rfl) (by kernel_rfl) (by kernel_rfl) (fun _ _ _ h => h) (Or.inl ⟨by rfl, ?_⟩) hHeld ?_
  rotate_left
  · intro w hSw; (try dsimp only at hSw); go_simp; try with_reducible rfl
  try simp only [Act.put, List.setIfInBounds_toArray, List.set_cons_zero, List.set_cons_succ]
  refine wpAnyH_done (by kernel_rfl) ?_ _
  have HV6 := Aside0.mk ((HLD.out.low hb2).box (blk_below HVD.out hb2) hk6)
  have HL6 := Aside0.mk hL6
  clear hHeld hL6 hk6 hb2 HLD HL hS HK HV HVD
  have HL := HL6
  have HV := HV6
  clear HL6 HV6
  go_upto_block 0 with (fail)
  go_wp2_with fail
  go_loopw [12] (fun i wx => ∃ j : Nat, j ≤ 8 ∧ i = .int .i64 j ∧ Hid (∃ l, Live w wx w1.heap.size gs1 (one 0 l) ∧ PInv v T l j) ∧ Hid (wx.heap[g11]? = some (.cells #[.int .i64 v.n, .int .i64 v.b, .int .i64 v.f] 23))) (fun i _ => 8 - (intOf i).toNat)
  case atStart => exact ⟨0, Nat.zero_le _, rfl, ⟨_, HL.out, pinv0 v T⟩, HV.out⟩
  case round =>
    clear HL HV
    obtain ⟨j, hj, rfl, hL, hV⟩ := hrel
    have HV := Aside0.mk hV
    obtain ⟨l, hL, hP⟩ := hL
    have HL := Aside0.mk hL
    have HP := Aside0.mk hP
    clear hV hL hP
    by_cases hlt : j < 8
    · obtain ⟨i, hi⟩ : ∃ i, i = (j + T) % 8 := ⟨_, rfl⟩
      have HI := Aside0.mk hi
      have hi8 : i < 8 := by omega
      have hjl : ((j : Int) < 8) := by omega
      have hwj : IntKind.i64.wrap ((j : Int) + 1) = (j : Int) + 1 := by rw [IntKind.wrap_i64]; omega
      clear hi
      go_upto_region 11 with (fail)
      rw [show ((j : Int) + (T : Int)) % 8 = (((j + T) % 8 : Nat) : Int) by omega, ← HI.out]
      go_upto_region 12 with (first | (go_at_call 15; refine (at_calls _ _).mono ?_; rintro e wn ⟨rfl, hk⟩; replace HV := Aside0.mk (blk_below HV.out hk); replace HL := Aside0.mk (HL.out.low hk); clear hk) | (go_at_call 14; refine (HL.out.load (vat (3 + (i : Int))) 1 _ (pa_load HP.out.len (HP.out.old i hi8) _ (by omega))).mono ?_; rintro e wn ⟨rfl, hL, hk⟩; replace HV := Aside0.mk (blk_below HV.out hk); replace HL := Aside0.mk hL; clear hL hk))
      have hk := below_alloc (Below.refl wn.heap.size wn) (.cells #[.int .i64 (pv v i).n, .int .i64 (pv v i).b, .int .i64 (pv v i).f] 23)
      replace HV := Aside0.mk (blk_below HV.out hk)
      have HX := Aside0.mk (blk_new wn (.cells #[.int .i64 (pv v i).n, .int .i64 (pv v i).b, .int .i64 (pv v i).f] 23))
      replace HL := Aside0.mk (HL.out.low hk)
      clear hk
      generalize wn.heap.size = g14 at HX ⊢
      generalize wn.alloc (.cells #[.int .i64 (pv v i).n, .int .i64 (pv v i).b, .int .i64 (pv v i).f] 23) = wn at HL HV HX ⊢
      have hpf : (pv v i).f = (i : Int) + 1 := rfl
      have hwi : IntKind.i64.wrap ((i : Int) + 1) = (i : Int) + 1 := by rw [IntKind.wrap_i64]; omega
      have hw20 : IntKind.i64.wrap (20 + (i : Int)) = 20 + (i : Int) := by rw [IntKind.wrap_i64]; omega
      have HLD := Aside0.mk (HL.out.low (below_drew (Below.refl _ _)))
      have HXD : Aside0 (wn.drew.heap[g14]? = some (.cells #[.int .i64 (pv v i).n, .int .i64 (pv v i).b, .int .i64 (pv v i).f] 23)) := HX
      have HVD : Aside0 (wn.drew.heap[g11]? = some (.cells #[.int .i64 v.n, .int .i64 v.b, .int .i64 v.f] 23)) := HV
      have hx := cell3 HX.out
      have hS : (wn.cell? ⟨g14, 0, none⟩ = some (.int .i64 (pv v i).n) ∧ wn.cell? ⟨g14, 1, none⟩ = some (.int .i64 (pv v i).b) ∧ wn.cell? ⟨g14, 2, none⟩ = some (.int .i64 (pv v i).f)) := ⟨hx.1, hx.2.1, hx.2.2⟩
      clear hx
      have HK := Aside0.mk (show ∀ Wa Wb : World, Below Wa.heap.size Wa Wb → (Wa.cell? ⟨g14, 0, none⟩ = some (.int .i64 (pv v i).n) ∧ Wa.cell? ⟨g14, 1, none⟩ = some (.int .i64 (pv v i).b) ∧ Wa.cell? ⟨g14, 2, none⟩ = some (.int .i64 (pv v i).f)) → (Wb.cell? ⟨g14, 0, none⟩ = some (.int .i64 (pv v i).n) ∧ Wb.cell? ⟨g14, 1, none⟩ = some (.int .i64 (pv v i).b) ∧ Wb.cell? ⟨g14, 2, none⟩ = some (.int .i64 (pv v i).f)) from fun _ _ hb h => ⟨pw_cell_below hb h.1, pw_cell_below hb h.2.1, pw_cell_below hb h.2.2⟩)
      refine wp_region_held_drew (S := fun w' => w'.cell? ⟨g14, 0, none⟩ = some (.int .i64 (pv v i).n) ∧ w'.cell? ⟨g14, 1, none⟩ = some (.int .i64 (pv v i).b) ∧ w'.cell? ⟨g14, 2, none⟩ = some (.int .i64 (pv v i).f)) (by kernel_rfl) ⟨hS.1, hS.2.1, hS.2.2⟩ (fun hHeld => ?_)
      refine wpAnyH_take (i := 0) (oi := { dst := (some 66), op := (Op.move (Operand.tmp 15)), type := 27, pos := "law.go:142", after := #[], guard := none }) (v := ?_) rfl (by kernel_rfl) (by kernel_rfl) (by kernel_rfl) (fun _ _ _ h => h) (Or.inl ⟨by rfl, ?_⟩) hHeld ?_
      rotate_left
      · intro w hSw; (try dsimp only at hSw); go_simp; try with_reducible rfl
      try simp only [Act.put, List.setIfInBounds_toArray, List.set_cons_zero, List.set_cons_succ]
      refine wpAnyH_take (i := 1) (oi := { dst := (some 67), op := (Op.binOp BinOp.neq 27 (Operand.tmp 66) (Operand.const (Value.int IntKind.i64 0)) 27), type := 4, pos := "law.go:142", after := #[{ on := 0, ground := Ground.data }], guard := none }) (v := ?_) rfl (by kernel_rfl) (by kernel_rfl) (by kernel_rfl) (fun _ _ _ h => h) (Or.inl ⟨by rfl, ?_⟩) hHeld ?_
      rotate_left
      · intro w hSw; (try dsimp only at hSw); go_simp; try with_reducible rfl
      try simp only [Act.put, List.setIfInBounds_toArray, List.set_cons_zero, List.set_cons_succ]
      refine wpAnyH_take (i := 2) (oi := { dst := (some 68), op := (Op.move (Operand.tmp 67)), type := 4, pos := "law.go:142", after := #[{ on := 1, ground := Ground.data }], guard := none }) (v := ?_) rfl (by kernel_rfl) (by kernel_rfl) (by kernel_rfl) (fun _ _ _ h => h) (Or.inl ⟨by rfl, ?_⟩) hHeld ?_
      rotate_left
      · intro w hSw; (try dsimp only at hSw); go_simp; try with_reducible rfl
      try simp only [Act.put, List.setIfInBounds_toArray, List.set_cons_zero, List.set_cons_succ]
      refine wpAnyH_take (i := 3) (oi := { dst := (some 69), op := (Op.fieldAddr 23 (Operand.tmp 14) 2), type := 0, pos := "law.go:142", after := #[{ on := 2, ground := Ground.guard }], guard := (some (2, false)) }) (v := ?_) rfl (by kernel_rfl) (by kernel_rfl) (by kernel_rfl) (fun _ _ _ h => h) (Or.inl ⟨by rfl, ?_⟩) hHeld ?_
      rotate_left
      · intro w hSw; (try dsimp only at hSw); go_simp; try with_reducible rfl
      try simp only [Act.put, List.setIfInBounds_toArray, List.set_cons_zero, List.set_cons_succ]
      refine wpAnyH_take (i := 4) (oi := { dst := (some 70), op := (Op.load 3 (Operand.tmp 69)), type := 3, pos := "law.go:142", after := #[{ on := 3, ground := Ground.data }, { on := 2, ground := Ground.guard }], guard := (some (2, false)) }) (v := ?_) rfl (by kernel_rfl) (by kernel_rfl) (by kernel_rfl) (fun _ _ _ h => h) (Or.inl ⟨by rfl, ?_⟩) hHeld ?_
      rotate_left
      · intro w hSw; (try dsimp only at hSw); go_simp; try with_reducible rfl
      try simp only [Act.put, List.setIfInBounds_toArray, List.set_cons_zero, List.set_cons_succ]
      refine wpAnyH_take (i := 5) (oi := { dst := (some 71), op := (Op.move (Operand.tmp 13)), type := 2, pos := "law.go:142", after := #[{ on := 2, ground := Ground.guard }], guard := (some (2, false)) }) (v := ?_) rfl (by kernel_rfl) (by kernel_rfl) (by kernel_rfl) (fun _ _ _ h => h) (Or.inl ⟨by rfl, ?_⟩) hHeld ?_
      rotate_left
      · intro w hSw; (try dsimp only at hSw); go_simp; try with_reducible rfl
      try simp only [Act.put, List.setIfInBounds_toArray, List.set_cons_zero, List.set_cons_succ]
      refine wpAnyH_take (i := 6) (oi := { dst := (some 72), op := (Op.binOp BinOp.add 3 (Operand.tmp 71) (Operand.const (Value.int IntKind.i64 1)) 3), type := 3, pos := "law.go:142", after := #[{ on := 5, ground := Ground.data }, { on := 2, ground := Ground.guard }], guard := (some (2, false)) }) (v := .int .i64 ((i : Int) + 1)) rfl (by kernel_rfl) (by kernel_rfl) (by kernel_rfl) (fun _ _ _ h => h) (Or.inl ⟨by rfl, ?_⟩) hHeld ?_
      · intro w hSw; (try dsimp only at hSw); go_simp; done
      try simp only [Act.put, List.setIfInBounds_toArray, List.set_cons_zero, List.set_cons_succ]
      refine wpAnyH_take (i := 7) (oi := { dst := (some 73), op := (Op.binOp BinOp.neq 3 (Operand.tmp 70) (Operand.tmp 72) 3), type := 4, pos := "law.go:142", after := #[{ on := 4, ground := Ground.data }, { on := 6, ground := Ground.data }, { on := 2, ground := Ground.guard }], guard := (some (2, false)) }) (v := .bool false) rfl (by kernel_rfl) (by kernel_rfl) (by kernel_rfl) (fun _ _ _ h => h) (Or.inl ⟨by rfl, ?_⟩) hHeld ?_
      · intro w hSw; (try dsimp only at hSw); go_simp; done
      try simp only [Act.put, List.setIfInBounds_toArray, List.set_cons_zero, List.set_cons_succ]
      refine wpAnyH_take (i := 8) (oi := { dst := (some 74), op := (Op.pick (Operand.tmp 68) (Operand.const (Value.bool true)) (Operand.tmp 73)), type := 4, pos := "law.go:142", after := #[{ on := 2, ground := Ground.data }, { on := 7, ground := Ground.data }], guard := none }) (v := ?_) rfl (by kernel_rfl) (by kernel_rfl) (by kernel_rfl) (fun _ _ _ h => h) (Or.inl ⟨by rfl, ?_⟩) hHeld ?_
      rotate_left
      · intro w hSw; (try dsimp only at hSw); go_simp; try with_reducible rfl
      try simp only [Act.put, List.setIfInBounds_toArray, List.set_cons_zero, List.set_cons_succ]
      refine wpAnyH_take (i := 9) (oi := { dst := (some 75), op := (Op.move (Operand.tmp 74)), type := 4, pos := "law.go:142", after := #[{ on := 8, ground := Ground.data }, { on := 2, ground := Ground.chain }], guard := none }) (v := ?_) rfl (by kernel_rfl) (by kernel_rfl) (by kernel_rfl) (fun _ _ _ h => h) (Or.inl ⟨by rfl, ?_⟩) hHeld ?_
      rotate_left
      · intro w hSw; (try dsimp only at hSw); go_simp; try with_reducible rfl
      try simp only [Act.put, List.setIfInBounds_toArray, List.set_cons_zero, List.set_cons_succ]
      refine wpAnyH_take (i := 10) (oi := { dst := (some 76), op := (Op.move (Operand.tmp 8)), type := 25, pos := "law.go:142", after := #[{ on := 9, ground := Ground.guard }], guard := (some (9, false)) }) (v := ?_) rfl (by kernel_rfl) (by kernel_rfl) (by kernel_rfl) (fun _ _ _ h => h) (Or.inl ⟨by rfl, ?_⟩) hHeld ?_
      rotate_left
      · intro w hSw; (try dsimp only at hSw); go_simp; try with_reducible rfl
      try simp only [Act.put, List.setIfInBounds_toArray, List.set_cons_zero, List.set_cons_succ]
      refine wpAnyH_take (i := 11) (oi := { dst := (some 77), op := (Op.move (Operand.tmp 13)), type := 2, pos := "law.go:142", after := #[{ on := 9, ground := Ground.guard }], guard := (some (9, false)) }) (v := ?_) rfl (by kernel_rfl) (by kernel_rfl) (by kernel_rfl) (fun _ _ _ h => h) (Or.inl ⟨by rfl, ?_⟩) hHeld ?_
      rotate_left
      · intro w hSw; (try dsimp only at hSw); go_simp; try with_reducible rfl
      try simp only [Act.put, List.setIfInBounds_toArray, List.set_cons_zero, List.set_cons_succ]
      refine wpAnyH_take (i := 12) (oi := { dst := (some 78), op := (Op.binOp BinOp.add 2 (Operand.const (Value.int IntKind.i64 20)) (Operand.tmp 77) 2), type := 2, pos := "law.go:142", after := #[{ on := 11, ground := Ground.data }, { on := 9, ground := Ground.guard }], guard := (some (9, false)) }) (v := .int .i64 (20 + (i : Int))) rfl (by kernel_rfl) (by kernel_rfl) (by kernel_rfl) (fun _ _ _ h => h) (Or.inl ⟨by rfl, ?_⟩) hHeld ?_
      · intro w hSw; (try dsimp only at hSw); go_simp; done
      try simp only [Act.put, List.setIfInBounds_toArray, List.set_cons_zero, List.set_cons_succ]
      refine wpAnyH_take (i := 14) (oi := { dst := (some 80), op := (Op.load 23 (Operand.tmp 14)), type := 23, pos := "law.go:142", after := #[{ on := 9, ground := Ground.guard }], guard := (some (9, false)) }) (v := ?_) rfl (by kernel_rfl) (by kernel_rfl) (by kernel_rfl) (fun _ _ _ h => h) (Or.inl ⟨by rfl, ?_⟩) hHeld ?_
      rotate_left
      · intro w hSw; (try dsimp only at hSw); go_simp; try with_reducible rfl
      try simp only [Act.put, List.setIfInBounds_toArray, List.set_cons_zero, List.set_cons_succ]
      refine wpAnyH_ready (rs := [13]) (by kernel_rfl) (by simp) ?_
      refine AllReadyH.cons (o := { dst := (some 79), op := (Op.call { callee := (Callee.value (Operand.func 15)), args := #[(Operand.tmp 78)], argTypes := #[2] }), type := 23, pos := "law.go:142", after := #[{ on := 12, ground := Ground.data }, { on := 9, ground := Ground.chain }, { on := 9, ground := Ground.guard }], guard := (some (9, false)) }) rfl (fun K hK => ?_) AllReadyH.nil
      go_simp
      refine (at_calls _ _).mono ?_
      rintro e w5 ⟨rfl, hb2⟩
      refine hK.out _ _ (HK.out _ _ hb2 hHeld) (fun hHeld => ?_)
      clear hK K
      try simp only [Act.put, List.setIfInBounds_toArray, List.set_cons_zero, List.set_cons_succ]
      refine wpAnyH_ready (rs := [15]) (by kernel_rfl) (by simp) ?_
      refine AllReadyH.cons (o := { dst := (some 81), op := (Op.call { callee := (Callee.value (Operand.func 16)), args := #[(Operand.tmp 76), (Operand.tmp 79), (Operand.const (Value.int IntKind.i64 1)), (Operand.tmp 80)], argTypes := #[25, 23, 3, 23] }), type := 27, pos := "law.go:142", after := #[{ on := 10, ground := Ground.data }, { on := 13, ground := Ground.data }, { on := 14, ground := Ground.data }, { on := 13, ground := Ground.chain }, { on := 9, ground := Ground.guard }], guard := (some (9, false)) }) rfl (fun K hK => ?_) AllReadyH.nil
      go_simp
      refine ((HLD.out.low hb2).store (vat (20 + (i : Int))) 1 (pv v i) _ (pa_put HP.out.len hi8 hi8 HVB.out _ (by omega))).mono ?_
      rintro e w6 ⟨rfl, hL6, hk6⟩
      refine hK.out _ _ (⟨pw_box0 ((HLD.out.low hb2).box (blk_below HXD.out hb2) hk6), pw_box1 ((HLD.out.low hb2).box (blk_below HXD.out hb2) hk6), pw_box2 ((HLD.out.low hb2).box (blk_below HXD.out hb2) hk6)⟩) (fun hHeld => ?_)
      clear hK K
      try simp only [Act.put, List.setIfInBounds_toArray, List.set_cons_zero, List.set_cons_succ]
      refine wpAnyH_take (i := 16) (oi := { dst := (some 82), op := (Op.binOp BinOp.neq 27 (Operand.tmp 81) (Operand.const (Value.int IntKind.i64 0)) 27), type := 4, pos := "law.go:142", after := #[{ on := 15, ground := Ground.data }, { on := 9, ground := Ground.guard }], guard := (some (9, false)) }) (v := ?_) rfl (by kernel_rfl) (by kernel_rfl) (by kernel_rfl) (fun _ _ _ h => h) (Or.inl ⟨by rfl, ?_⟩) hHeld ?_
      rotate_left
      · intro w hSw; (try dsimp only at hSw); go_simp; try with_reducible rfl
      try simp only [Act.put, List.setIfInBounds_toArray, List.set_cons_zero, List.set_cons_succ]
      refine wpAnyH_take (i := 17) (oi := { dst := (some 83), op := (Op.pick (Operand.tmp 75) (Operand.const (Value.bool true)) (Operand.tmp 82)), type := 4, pos := "law.go:142", after := #[{ on := 9, ground := Ground.data }, { on := 16, ground := Ground.data }], guard := none }) (v := ?_) rfl (by kernel_rfl) (by kernel_rfl) (by kernel_rfl) (fun _ _ _ h => h) (Or.inl ⟨by rfl, ?_⟩) hHeld ?_
      rotate_left
      · intro w hSw; (try dsimp only at hSw); go_simp; try with_reducible rfl
      try simp only [Act.put, List.setIfInBounds_toArray, List.set_cons_zero, List.set_cons_succ]
      refine wpAnyH_done (by kernel_rfl) ?_ _
      have HX6 := Aside0.mk ((HLD.out.low hb2).box (blk_below HXD.out hb2) hk6)
      have HV6 := Aside0.mk ((HLD.out.low hb2).box (blk_below HVD.out hb2) hk6)
      have HL6 := Aside0.mk hL6
      clear hHeld hL6 hk6 hb2 HLD HL hS HK HX HXD HV HVD
      have HL := HL6
      have HX := HX6
      have HV := HV6
      clear HL6 HX6 HV6
      go_wp2_with fail
      go_roundw
      case rel => exact ⟨j + 1, by omega, by go_num, ⟨_, HL.out, HP.out.step HI.out⟩, HV.out⟩
      case measure => simp [intOf]; omega
    · obtain rfl : j = 8 := by omega
      have HPA := Aside0.mk HP.out.all
      have HLN := Aside0.mk HP.out.len
      clear hlt HP
      go_upto_region 15 with (first | (go_at_call 15; refine (at_calls _ _).mono ?_; rintro e wn ⟨rfl, hk⟩; replace HV := Aside0.mk (blk_below HV.out hk); replace HL := Aside0.mk (HL.out.low hk); clear hk) | (go_at_call 14; refine (HL.out.load (vat 20) 8 _ (pa_whole HVF.out HLN.out HPA.out)).mono ?_; rintro e wn ⟨rfl, hL, hk⟩; replace HV := Aside0.mk (blk_below HV.out hk); replace HL := Aside0.mk hL; clear hL hk))
      have hk := below_alloc (Below.refl wn.heap.size wn) (.cells #[.int .i64 v.n, .int .i64 v.b, .int .i64 v.f] 23)
      replace HV := Aside0.mk (blk_below HV.out hk)
      have HZ := Aside0.mk (blk_new wn (.cells #[.int .i64 v.n, .int .i64 v.b, .int .i64 v.f] 23))
      replace HL := Aside0.mk (HL.out.low hk)
      clear hk
      generalize wn.heap.size = g16 at HZ ⊢
      generalize wn.alloc (.cells #[.int .i64 v.n, .int .i64 v.b, .int .i64 v.f] 23) = wn at HL HV HZ ⊢
      go_upto_region 17 with (fail)
      rw [show (S : Int) % 8 = ((S % 8 : Nat) : Int) by omega, show (S : Int) / 8 % 8 = ((S / 8 % 8 : Nat) : Int) by omega, HTS.out.2.1, HTS.out.2.2]
      have hwa : IntKind.i64.wrap (20 + (a : Int)) = 20 + (a : Int) := by rw [IntKind.wrap_i64]; omega
      have hwb : IntKind.i64.wrap (20 + (b : Int)) = 20 + (b : Int) := by rw [IntKind.wrap_i64]; omega
      go_upto_region 18 with (first | (go_at_call 15; refine (at_calls _ _).mono ?_; rintro e wn ⟨rfl, hk⟩; replace HV := Aside0.mk (blk_below HV.out hk); replace HZ := Aside0.mk (blk_below HZ.out hk); replace HL := Aside0.mk (HL.out.low hk); clear hk) | (go_at_call 14; refine (HL.out.load (vat (20 + (a : Int))) 1 _ (pa_load HLN.out (HPA.out a ha8) _ (by omega))).mono ?_; rintro e wn ⟨rfl, hL, hk⟩; replace HV := Aside0.mk (blk_below HV.out hk); replace HZ := Aside0.mk (blk_below HZ.out hk); replace HL := Aside0.mk hL; clear hL hk))
      have hk := below_alloc (Below.refl wn.heap.size wn) (.cells #[.int .i64 (pv v a).n, .int .i64 (pv v a).b, .int .i64 (pv v a).f] 23)
      replace HV := Aside0.mk (blk_below HV.out hk)
      replace HZ := Aside0.mk (blk_below HZ.out hk)
      have HY := Aside0.mk (blk_new wn (.cells #[.int .i64 (pv v a).n, .int .i64 (pv v a).b, .int .i64 (pv v a).f] 23))
      replace HL := Aside0.mk (HL.out.low hk)
      clear hk
      generalize wn.heap.size = g20 at HY ⊢
      generalize wn.alloc (.cells #[.int .i64 (pv v a).n, .int .i64 (pv v a).b, .int .i64 (pv v a).f] 23) = wn at HL HV HZ HY ⊢
      go_upto_region 19 with (first | (go_at_call 15; refine (at_calls _ _).mono ?_; rintro e wn ⟨rfl, hk⟩; replace HV := Aside0.mk (blk_below HV.out hk); replace HZ := Aside0.mk (blk_below HZ.out hk); replace HY := Aside0.mk (blk_below HY.out hk); replace HL := Aside0.mk (HL.out.low hk); clear hk) | (go_at_call 14; refine (HL.out.load (vat (20 + (b : Int))) 1 _ (pa_load HLN.out (HPA.out b hb8) _ (by omega))).mono ?_; rintro e wn ⟨rfl, hL, hk⟩; replace HV := Aside0.mk (blk_below HV.out hk); replace HZ := Aside0.mk (blk_below HZ.out hk); replace HY := Aside0.mk (blk_below HY.out hk); replace HL := Aside0.mk hL; clear hL hk))
      have hk := below_alloc (Below.refl wn.heap.size wn) (.cells #[.int .i64 (pv v b).n, .int .i64 (pv v b).b, .int .i64 (pv v b).f] 23)
      replace HV := Aside0.mk (blk_below HV.out hk)
      replace HZ := Aside0.mk (blk_below HZ.out hk)
      replace HY := Aside0.mk (blk_below HY.out hk)
      have HX := Aside0.mk (blk_new wn (.cells #[.int .i64 (pv v b).n, .int .i64 (pv v b).b, .int .i64 (pv v b).f] 23))
      replace HL := Aside0.mk (HL.out.low hk)
      clear hk
      generalize wn.heap.size = g22 at HX ⊢
      generalize wn.alloc (.cells #[.int .i64 (pv v b).n, .int .i64 (pv v b).b, .int .i64 (pv v b).f] 23) = wn at HL HV HZ HY HX ⊢
      have HLD := Aside0.mk (HL.out.low (below_drew (Below.refl _ _)))
      have HXD : Aside0 (wn.drew.heap[g22]? = some (.cells #[.int .i64 (pv v b).n, .int .i64 (pv v b).b, .int .i64 (pv v b).f] 23)) := HX
      have HVD : Aside0 (wn.drew.heap[g11]? = some (.cells #[.int .i64 v.n, .int .i64 v.b, .int .i64 v.f] 23)) := HV
      have HZD : Aside0 (wn.drew.heap[g16]? = some (.cells #[.int .i64 v.n, .int .i64 v.b, .int .i64 v.f] 23)) := HZ
      have HYD : Aside0 (wn.drew.heap[g20]? = some (.cells #[.int .i64 (pv v a).n, .int .i64 (pv v a).b, .int .i64 (pv v a).f] 23)) := HY
      have hx := cell3 HX.out
      have hS : (wn.cell? ⟨g22, 0, none⟩ = some (.int .i64 (pv v b).n) ∧ wn.cell? ⟨g22, 1, none⟩ = some (.int .i64 (pv v b).b) ∧ wn.cell? ⟨g22, 2, none⟩ = some (.int .i64 (pv v b).f)) := ⟨hx.1, hx.2.1, hx.2.2⟩
      clear hx
      have HK := Aside0.mk (show ∀ Wa Wb : World, Below Wa.heap.size Wa Wb → (Wa.cell? ⟨g22, 0, none⟩ = some (.int .i64 (pv v b).n) ∧ Wa.cell? ⟨g22, 1, none⟩ = some (.int .i64 (pv v b).b) ∧ Wa.cell? ⟨g22, 2, none⟩ = some (.int .i64 (pv v b).f)) → (Wb.cell? ⟨g22, 0, none⟩ = some (.int .i64 (pv v b).n) ∧ Wb.cell? ⟨g22, 1, none⟩ = some (.int .i64 (pv v b).b) ∧ Wb.cell? ⟨g22, 2, none⟩ = some (.int .i64 (pv v b).f)) from fun _ _ hb h => ⟨pw_cell_below hb h.1, pw_cell_below hb h.2.1, pw_cell_below hb h.2.2⟩)
      refine wp_region_held_drew (S := fun w' => w'.cell? ⟨g22, 0, none⟩ = some (.int .i64 (pv v b).n) ∧ w'.cell? ⟨g22, 1, none⟩ = some (.int .i64 (pv v b).b) ∧ w'.cell? ⟨g22, 2, none⟩ = some (.int .i64 (pv v b).f)) (by kernel_rfl) ⟨hS.1, hS.2.1, hS.2.2⟩ (fun hHeld => ?_)
      refine wpAnyH_take (i := 0) (oi := { dst := (some 113), op := (Op.move (Operand.tmp 8)), type := 25, pos := "law.go:151", after := #[], guard := none }) (v := ?_) rfl (by kernel_rfl) (by kernel_rfl) (by kernel_rfl) (fun _ _ _ h => h) (Or.inl ⟨by rfl, ?_⟩) hHeld ?_
      rotate_left
      · intro w hSw; (try dsimp only at hSw); go_simp; try with_reducible rfl
      try simp only [Act.put, List.setIfInBounds_toArray, List.set_cons_zero, List.set_cons_succ]
      refine wpAnyH_take (i := 1) (oi := { dst := (some 114), op := (Op.move (Operand.tmp 18)), type := 2, pos := "law.go:151", after := #[], guard := none }) (v := ?_) rfl (by kernel_rfl) (by kernel_rfl) (by kernel_rfl) (fun _ _ _ h => h) (Or.inl ⟨by rfl, ?_⟩) hHeld ?_
      rotate_left
      · intro w hSw; (try dsimp only at hSw); go_simp; try with_reducible rfl
      try simp only [Act.put, List.setIfInBounds_toArray, List.set_cons_zero, List.set_cons_succ]
      refine wpAnyH_take (i := 2) (oi := { dst := (some 115), op := (Op.binOp BinOp.add 2 (Operand.const (Value.int IntKind.i64 20)) (Operand.tmp 114) 2), type := 2, pos := "law.go:151", after := #[{ on := 1, ground := Ground.data }], guard := none }) (v := .int .i64 (20 + (a : Int))) rfl (by kernel_rfl) (by kernel_rfl) (by kernel_rfl) (fun _ _ _ h => h) (Or.inl ⟨by rfl, ?_⟩) hHeld ?_
      · intro w hSw; (try dsimp only at hSw); go_simp; done
      try simp only [Act.put, List.setIfInBounds_toArray, List.set_cons_zero, List.set_cons_succ]
      refine wpAnyH_take (i := 4) (oi := { dst := (some 117), op := (Op.load 23 (Operand.tmp 22)), type := 23, pos := "law.go:151", after := #[], guard := none }) (v := ?_) rfl (by kernel_rfl) (by kernel_rfl) (by kernel_rfl) (fun _ _ _ h => h) (Or.inl ⟨by rfl, ?_⟩) hHeld ?_
      rotate_left
      · intro w hSw; (try dsimp only at hSw); go_simp; try with_reducible rfl
      try simp only [Act.put, List.setIfInBounds_toArray, List.set_cons_zero, List.set_cons_succ]
      refine wpAnyH_ready (rs := [3]) (by kernel_rfl) (by simp) ?_
      refine AllReadyH.cons (o := { dst := (some 116), op := (Op.call { callee := (Callee.value (Operand.func 15)), args := #[(Operand.tmp 115)], argTypes := #[2] }), type := 23, pos := "law.go:151", after := #[{ on := 2, ground := Ground.data }], guard := none }) rfl (fun K hK => ?_) AllReadyH.nil
      go_simp
      refine (at_calls _ _).mono ?_
      rintro e w5 ⟨rfl, hb2⟩
      refine hK.out _ _ (HK.out _ _ hb2 hHeld) (fun hHeld => ?_)
      clear hK K
      try simp only [Act.put, List.setIfInBounds_toArray, List.set_cons_zero, List.set_cons_succ]
      refine wpAnyH_ready (rs := [5]) (by kernel_rfl) (by simp) ?_
      refine AllReadyH.cons (o := { dst := (some 118), op := (Op.call { callee := (Callee.value (Operand.func 16)), args := #[(Operand.tmp 113), (Operand.tmp 116), (Operand.const (Value.int IntKind.i64 1)), (Operand.tmp 117)], argTypes := #[25, 23, 3, 23] }), type := 27, pos := "law.go:151", after := #[{ on := 0, ground := Ground.data }, { on := 3, ground := Ground.data }, { on := 4, ground := Ground.data }, { on := 3, ground := Ground.chain }], guard := none }) rfl (fun K hK => ?_) AllReadyH.nil
      go_simp
      refine ((HLD.out.low hb2).store (vat (20 + (a : Int))) 1 (pv v b) _ (pa_put HLN.out hb8 ha8 HVB.out _ (by omega))).mono ?_
      rintro e w6 ⟨rfl, hL6, hk6⟩
      refine hK.out _ _ (⟨pw_box0 ((HLD.out.low hb2).box (blk_below HXD.out hb2) hk6), pw_box1 ((HLD.out.low hb2).box (blk_below HXD.out hb2) hk6), pw_box2 ((HLD.out.low hb2).box (blk_below HXD.out hb2) hk6)⟩) (fun hHeld => ?_)
      clear hK K
      try simp only [Act.put, List.setIfInBounds_toArray, List.set_cons_zero, List.set_cons_succ]
      refine wpAnyH_done (by kernel_rfl) ?_ _
      have HX6 := Aside0.mk ((HLD.out.low hb2).box (blk_below HXD.out hb2) hk6)
      have HV6 := Aside0.mk ((HLD.out.low hb2).box (blk_below HVD.out hb2) hk6)
      have HZ6 := Aside0.mk ((HLD.out.low hb2).box (blk_below HZD.out hb2) hk6)
      have HY6 := Aside0.mk ((HLD.out.low hb2).box (blk_below HYD.out hb2) hk6)
      have HL6 := Aside0.mk hL6
      clear hHeld hL6 hk6 hb2 HLD HL hS HK HX HXD HV HVD HZ HZD HY HYD
      have HL := HL6
      have HX := HX6
      have HV := HV6
      have HZ := HZ6
      have HY := HY6
      clear HL6 HX6 HV6 HZ6 HY6
      clear HX
      go_upto_region 20 with (fail)
      have HLD := Aside0.mk (HL.out.low (below_drew (Below.refl _ _)))
      have HYD : Aside0 (w6.drew.heap[g20]? = some (.cells #[.int .i64 (pv v a).n, .int .i64 (pv v a).b, .int .i64 (pv v a).f] 23)) := HY
      have HVD : Aside0 (w6.drew.heap[g11]? = some (.cells #[.int .i64 v.n, .int .i64 v.b, .int .i64 v.f] 23)) := HV
      have HZD : Aside0 (w6.drew.heap[g16]? = some (.cells #[.int .i64 v.n, .int .i64 v.b, .int .i64 v.f] 23)) := HZ
      have hx := cell3 HY.out
      have hS : (w6.cell? ⟨g20, 0, none⟩ = some (.int .i64 (pv v a).n) ∧ w6.cell? ⟨g20, 1, none⟩ = some (.int .i64 (pv v a).b) ∧ w6.cell? ⟨g20, 2, none⟩ = some (.int .i64 (pv v a).f)) := ⟨hx.1, hx.2.1, hx.2.2⟩
      clear hx
      have HK := Aside0.mk (show ∀ Wa Wb : World, Below Wa.heap.size Wa Wb → (Wa.cell? ⟨g20, 0, none⟩ = some (.int .i64 (pv v a).n) ∧ Wa.cell? ⟨g20, 1, none⟩ = some (.int .i64 (pv v a).b) ∧ Wa.cell? ⟨g20, 2, none⟩ = some (.int .i64 (pv v a).f)) → (Wb.cell? ⟨g20, 0, none⟩ = some (.int .i64 (pv v a).n) ∧ Wb.cell? ⟨g20, 1, none⟩ = some (.int .i64 (pv v a).b) ∧ Wb.cell? ⟨g20, 2, none⟩ = some (.int .i64 (pv v a).f)) from fun _ _ hb h => ⟨pw_cell_below hb h.1, pw_cell_below hb h.2.1, pw_cell_below hb h.2.2⟩)
      refine wp_region_held_drew (S := fun w' => w'.cell? ⟨g20, 0, none⟩ = some (.int .i64 (pv v a).n) ∧ w'.cell? ⟨g20, 1, none⟩ = some (.int .i64 (pv v a).b) ∧ w'.cell? ⟨g20, 2, none⟩ = some (.int .i64 (pv v a).f)) (by kernel_rfl) ⟨hS.1, hS.2.1, hS.2.2⟩ (fun hHeld => ?_)
      refine wpAnyH_take (i := 0) (oi := { dst := (some 119), op := (Op.move (Operand.tmp 8)), type := 25, pos := "law.go:152", after := #[], guard := none }) (v := ?_) rfl (by kernel_rfl) (by kernel_rfl) (by kernel_rfl) (fun _ _ _ h => h) (Or.inl ⟨by rfl, ?_⟩) hHeld ?_
      rotate_left
      · intro w hSw; (try dsimp only at hSw); go_simp; try with_reducible rfl
      try simp only [Act.put, List.setIfInBounds_toArray, List.set_cons_zero, List.set_cons_succ]
      refine wpAnyH_take (i := 1) (oi := { dst := (some 120), op := (Op.move (Operand.tmp 19)), type := 2, pos := "law.go:152", after := #[], guard := none }) (v := ?_) rfl (by kernel_rfl) (by kernel_rfl) (by kernel_rfl) (fun _ _ _ h => h) (Or.inl ⟨by rfl, ?_⟩) hHeld ?_
      rotate_left
      · intro w hSw; (try dsimp only at hSw); go_simp; try with_reducible rfl
      try simp only [Act.put, List.setIfInBounds_toArray, List.set_cons_zero, List.set_cons_succ]
      refine wpAnyH_take (i := 2) (oi := { dst := (some 121), op := (Op.binOp BinOp.add 2 (Operand.const (Value.int IntKind.i64 20)) (Operand.tmp 120) 2), type := 2, pos := "law.go:152", after := #[{ on := 1, ground := Ground.data }], guard := none }) (v := .int .i64 (20 + (b : Int))) rfl (by kernel_rfl) (by kernel_rfl) (by kernel_rfl) (fun _ _ _ h => h) (Or.inl ⟨by rfl, ?_⟩) hHeld ?_
      · intro w hSw; (try dsimp only at hSw); go_simp; done
      try simp only [Act.put, List.setIfInBounds_toArray, List.set_cons_zero, List.set_cons_succ]
      refine wpAnyH_take (i := 4) (oi := { dst := (some 123), op := (Op.load 23 (Operand.tmp 20)), type := 23, pos := "law.go:152", after := #[], guard := none }) (v := ?_) rfl (by kernel_rfl) (by kernel_rfl) (by kernel_rfl) (fun _ _ _ h => h) (Or.inl ⟨by rfl, ?_⟩) hHeld ?_
      rotate_left
      · intro w hSw; (try dsimp only at hSw); go_simp; try with_reducible rfl
      try simp only [Act.put, List.setIfInBounds_toArray, List.set_cons_zero, List.set_cons_succ]
      refine wpAnyH_ready (rs := [3]) (by kernel_rfl) (by simp) ?_
      refine AllReadyH.cons (o := { dst := (some 122), op := (Op.call { callee := (Callee.value (Operand.func 15)), args := #[(Operand.tmp 121)], argTypes := #[2] }), type := 23, pos := "law.go:152", after := #[{ on := 2, ground := Ground.data }], guard := none }) rfl (fun K hK => ?_) AllReadyH.nil
      go_simp
      refine (at_calls _ _).mono ?_
      rintro e w5 ⟨rfl, hb2⟩
      refine hK.out _ _ (HK.out _ _ hb2 hHeld) (fun hHeld => ?_)
      clear hK K
      try simp only [Act.put, List.setIfInBounds_toArray, List.set_cons_zero, List.set_cons_succ]
      refine wpAnyH_ready (rs := [5]) (by kernel_rfl) (by simp) ?_
      refine AllReadyH.cons (o := { dst := (some 124), op := (Op.call { callee := (Callee.value (Operand.func 16)), args := #[(Operand.tmp 119), (Operand.tmp 122), (Operand.const (Value.int IntKind.i64 1)), (Operand.tmp 123)], argTypes := #[25, 23, 3, 23] }), type := 27, pos := "law.go:152", after := #[{ on := 0, ground := Ground.data }, { on := 3, ground := Ground.data }, { on := 4, ground := Ground.data }, { on := 3, ground := Ground.chain }], guard := none }) rfl (fun K hK => ?_) AllReadyH.nil
      go_simp
      refine ((HLD.out.low hb2).store (vat (20 + (b : Int))) 1 (pv v a) _ (pa_put (by rw [List.length_set]; exact HLN.out) ha8 hb8 HVB.out _ (by omega))).mono ?_
      rintro e w6 ⟨rfl, hL6, hk6⟩
      refine hK.out _ _ (⟨pw_box0 ((HLD.out.low hb2).box (blk_below HYD.out hb2) hk6), pw_box1 ((HLD.out.low hb2).box (blk_below HYD.out hb2) hk6), pw_box2 ((HLD.out.low hb2).box (blk_below HYD.out hb2) hk6)⟩) (fun hHeld => ?_)
      clear hK K
      try simp only [Act.put, List.setIfInBounds_toArray, List.set_cons_zero, List.set_cons_succ]
      refine wpAnyH_done (by kernel_rfl) ?_ _
      have HY6 := Aside0.mk ((HLD.out.low hb2).box (blk_below HYD.out hb2) hk6)
      have HV6 := Aside0.mk ((HLD.out.low hb2).box (blk_below HVD.out hb2) hk6)
      have HZ6 := Aside0.mk ((HLD.out.low hb2).box (blk_below HZD.out hb2) hk6)
      have HL6 := Aside0.mk hL6
      clear hHeld hL6 hk6 hb2 HLD HL hS HK HY HYD HV HVD HZ HZD
      have HL := HL6
      have HY := HY6
      have HV := HV6
      have HZ := HZ6
      clear HL6 HY6 HV6 HZ6
      have HFIN := Aside0.mk (pa_whole HVF.out (l := (l.set (20 + a) (pb v b)).set (20 + b) (pb v a)) (by rw [List.length_set, List.length_set]; exact HLN.out) (fun i hi => by
        have := HPA.out i hi
        have he := HAB.out
        subst he
        rw [List.getElem?_set, List.getElem?_set]
        split
        · rename_i hh
          rw [List.length_set, HLN.out, if_pos (by omega)]
          rw [show i = a by omega]
        · exact this))
      have hfin : ((a : Int) == (b : Int)) = true := by rw [HAB.out]; exact beq_self_eq_true _
      clear HY
      go_upto_region 22 with (first | (go_at_call 15; refine (at_calls _ _).mono ?_; rintro e wn ⟨rfl, hk⟩; replace HV := Aside0.mk (blk_below HV.out hk); replace HZ := Aside0.mk (blk_below HZ.out hk); replace HL := Aside0.mk (HL.out.low hk); clear hk) | (go_at_call 14; refine (HL.out.load (vat 20) 8 _ HFIN.out).mono ?_; rintro e wn ⟨rfl, hL, hk⟩; replace HV := Aside0.mk (blk_below HV.out hk); replace HZ := Aside0.mk (blk_below HZ.out hk); replace HL := Aside0.mk hL; clear hL hk))
      have hk := below_alloc (Below.refl wn.heap.size wn) (.cells #[.int .i64 v.n, .int .i64 v.b, .int .i64 v.f] 23)
      replace HV := Aside0.mk (blk_below HV.out hk)
      replace HZ := Aside0.mk (blk_below HZ.out hk)
      have HX := Aside0.mk (blk_new wn (.cells #[.int .i64 v.n, .int .i64 v.b, .int .i64 v.f] 23))
      replace HL := Aside0.mk (HL.out.low hk)
      clear hk
      generalize wn.heap.size = g24 at HX ⊢
      generalize wn.alloc (.cells #[.int .i64 v.n, .int .i64 v.b, .int .i64 v.f] 23) = wn at HL HV HZ HX ⊢
      have hx := cell3 HX.out
      have hv := cell3 HV.out
      have hz := cell3 HZ.out
      go_wp2_with fail
      go_ret
      exact ⟨rfl, HL.out.below⟩
set_option maxRecDepth 100000 in
set_option maxHeartbeats 32000000 in
theorem MemParts_diff (p : Vl) (T S b1 a b : Nat) (hT : T ≤ 255) (hS : S ≤ 255) (hb1 : T % 5 = b1) (ha : S % 8 = a) (hb : S / 8 % 8 = b) (hab : a ≠ b) (w : World) :
    Calls Try.prog 4 #[.agg #[.int .i64 p.n, .int .i64 p.b, .int .i64 p.f], .int .u8 T, .int .u8 S] w fun e w' => e = .returned (.bool true) ∧ Below w.heap.size w w' := by
  have HB := Aside0.mk (below_alloc (Below.refl w.heap.size w) (.cells #[.int .i64 p.n, .int .i64 p.b, .int .i64 p.f] 23))
  have HX := Aside0.mk (blk_new w (.cells #[.int .i64 p.n, .int .i64 p.b, .int .i64 p.f] 23))
  have HTS := Aside0.mk (show T % 5 = b1 ∧ S % 8 = a ∧ S / 8 % 8 = b from ⟨hb1, ha, hb⟩)
  have HAB := Aside0.mk hab
  have hT2 : (T : Int) ≤ 255 := by omega
  have hb15 : b1 < 5 := by omega
  have ha8 : a < 8 := by omega
  have hb8 : b < 8 := by omega
  clear hb1 ha hb hab hT hS
  go_enter Try.func4, Try.ntmps4
  go_upto_region 1 with (fail)
  generalize w.alloc (.cells #[.int .i64 p.n, .int .i64 p.b, .int .i64 p.f] 23) = wn at HB HX ⊢
  go_upto_region 4 with (first | (go_at_call 10; refine (shown_calls _).mono ?_; rintro e w1 ⟨rfl, hk⟩; replace HX := Aside0.mk (blk_below HX.out hk); replace HB := Aside0.mk (below_step HB.out hk); clear hk) | (go_at_call 11; refine (Live.new _ HB.out).mono ?_; rintro e wn ⟨rfl, hL, hk⟩; replace HX := Aside0.mk (blk_below HX.out hk); have HL := Aside0.mk hL; clear hL hk) | (go_at_call 12; refine (HL.out.alloc (by decide) 0 32 true _ pa_a).mono ?_; rintro e wn ⟨rfl, gs1, hL, hk⟩; replace HX := Aside0.mk (HL.out.box HX.out hk); replace HL := Aside0.mk hL; clear hL hk))
  clear HB
  have hx := cell3 HX.out
  go_upto_region 5 with (fail)
  rw [show (T : Int) % 5 = ((T % 5 : Nat) : Int) by omega, HTS.out.1]
  clear hx HX
  obtain ⟨v, hv⟩ : ∃ v : Vl, v = ⟨p.n, 1 + (b1 : Int), 0⟩ := ⟨_, rfl⟩
  have hvn : p.n = v.n := by rw [hv]
  have hvb : 1 + (b1 : Int) = v.b := by rw [hv]
  have hvf : (0 : Int) = v.f := by rw [hv]
  have HVB := Aside0.mk (show 0 < v.b by rw [← hvb]; omega)
  have HVF := Aside0.mk hvf.symm
  have hk := below_alloc (Below.refl wn.heap.size wn) (.cells #[.int .i64 v.n, .int .i64 v.b, .int .i64 v.f] 23)
  have HV := Aside0.mk (blk_new wn (.cells #[.int .i64 v.n, .int .i64 v.b, .int .i64 v.f] 23))
  replace HL := Aside0.mk (HL.out.low hk)
  clear hk
  rw [show (Obj.cells #[.int .i64 p.n, .int .i64 (1 + (b1 : Int)), .int .i64 0] 23) = .cells #[.int .i64 v.n, .int .i64 v.b, .int .i64 v.f] 23 by rw [← hvn, ← hvb, ← hvf], show (Value.agg #[.int .i64 p.n, .int .i64 (1 + (b1 : Int)), .int .i64 0]) = .agg #[.int .i64 v.n, .int .i64 v.b, .int .i64 v.f] by rw [← hvn, ← hvb, ← hvf]]
  clear hv hvn hvb hvf hb15
  generalize wn.heap.size = g11 at HV ⊢
  generalize wn.alloc (.cells #[.int .i64 v.n, .int .i64 v.b, .int .i64 v.f] 23) = wn at HL HV ⊢
  have HLD := Aside0.mk (HL.out.low (below_drew (Below.refl _ _)))
  have HVD : Aside0 (wn.drew.heap[g11]? = some (.cells #[.int .i64 v.n, .int .i64 v.b, .int .i64 v.f] 23)) := HV
  have hx := cell3 HV.out
  have hS : (wn.cell? ⟨g11, 0, none⟩ = some (.int .i64 v.n) ∧ wn.cell? ⟨g11, 1, none⟩ = some (.int .i64 v.b) ∧ wn.cell? ⟨g11, 2, none⟩ = some (.int .i64 v.f)) := ⟨hx.1, hx.2.1, hx.2.2⟩
  clear hx
  have HK := Aside0.mk (show ∀ Wa Wb : World, Below Wa.heap.size Wa Wb → (Wa.cell? ⟨g11, 0, none⟩ = some (.int .i64 v.n) ∧ Wa.cell? ⟨g11, 1, none⟩ = some (.int .i64 v.b) ∧ Wa.cell? ⟨g11, 2, none⟩ = some (.int .i64 v.f)) → (Wb.cell? ⟨g11, 0, none⟩ = some (.int .i64 v.n) ∧ Wb.cell? ⟨g11, 1, none⟩ = some (.int .i64 v.b) ∧ Wb.cell? ⟨g11, 2, none⟩ = some (.int .i64 v.f)) from fun _ _ hb h => ⟨pw_cell_below hb h.1, pw_cell_below hb h.2.1, pw_cell_below hb h.2.2⟩)
  refine wp_region_held_drew (S := fun w' => w'.cell? ⟨g11, 0, none⟩ = some (.int .i64 v.n) ∧ w'.cell? ⟨g11, 1, none⟩ = some (.int .i64 v.b) ∧ w'.cell? ⟨g11, 2, none⟩ = some (.int .i64 v.f)) (by kernel_rfl) ⟨hS.1, hS.2.1, hS.2.2⟩ (fun hHeld => ?_)
  refine wpAnyH_take (i := 0) (oi := { dst := (some 40), op := (Op.move (Operand.tmp 10)), type := 27, pos := "law.go:136", after := #[], guard := none }) (v := ?_) rfl (by kernel_rfl) (by kernel_rfl) (by kernel_rfl) (fun _ _ _ h => h) (Or.inl ⟨by rfl, ?_⟩) hHeld ?_
  rotate_left
  · intro w hSw; (try dsimp only at hSw); go_simp; try with_reducible rfl
  try simp only [Act.put, List.setIfInBounds_toArray, List.set_cons_zero, List.set_cons_succ]
  refine wpAnyH_take (i := 1) (oi := { dst := (some 41), op := (Op.binOp BinOp.neq 27 (Operand.tmp 40) (Operand.const (Value.int IntKind.i64 0)) 27), type := 4, pos := "law.go:136", after := #[{ on := 0, ground := Ground.data }], guard := none }) (v := ?_) rfl (by kernel_rfl) (by kernel_rfl) (by kernel_rfl) (fun _ _ _ h => h) (Or.inl ⟨by rfl, ?_⟩) hHeld ?_
  rotate_left
  · intro w hSw; (try dsimp only at hSw); go_simp; try with_reducible rfl
  try simp only [Act.put, List.setIfInBounds_toArray, List.set_cons_zero, List.set_cons_succ]
  refine wpAnyH_take (i := 2) (oi := { dst := (some 42), op := (Op.move (Operand.tmp 41)), type := 4, pos := "law.go:136", after := #[{ on := 1, ground := Ground.data }], guard := none }) (v := ?_) rfl (by kernel_rfl) (by kernel_rfl) (by kernel_rfl) (fun _ _ _ h => h) (Or.inl ⟨by rfl, ?_⟩) hHeld ?_
  rotate_left
  · intro w hSw; (try dsimp only at hSw); go_simp; try with_reducible rfl
  try simp only [Act.put, List.setIfInBounds_toArray, List.set_cons_zero, List.set_cons_succ]
  refine wpAnyH_take (i := 3) (oi := { dst := (some 43), op := (Op.move (Operand.tmp 8)), type := 25, pos := "law.go:136", after := #[{ on := 2, ground := Ground.guard }], guard := (some (2, false)) }) (v := ?_) rfl (by kernel_rfl) (by kernel_rfl) (by kernel_rfl) (fun _ _ _ h => h) (Or.inl ⟨by rfl, ?_⟩) hHeld ?_
  rotate_left
  · intro w hSw; (try dsimp only at hSw); go_simp; try with_reducible rfl
  try simp only [Act.put, List.setIfInBounds_toArray, List.set_cons_zero, List.set_cons_succ]
  refine wpAnyH_take (i := 5) (oi := { dst := (some 45), op := (Op.load 23 (Operand.tmp 11)), type := 23, pos := "law.go:136", after := #[{ on := 2, ground := Ground.guard }], guard := (some (2, false)) }) (v := ?_) rfl (by kernel_rfl) (by kernel_rfl) (by kernel_rfl) (fun _ _ _ h => h) (Or.inl ⟨by rfl, ?_⟩) hHeld ?_
  rotate_left
  · intro w hSw; (try dsimp only at hSw); go_simp; try with_reducible rfl
  try simp only [Act.put, List.setIfInBounds_toArray, List.set_cons_zero, List.set_cons_succ]
  refine wpAnyH_ready (rs := [4]) (by kernel_rfl) (by simp) ?_
  refine AllReadyH.cons (o := { dst := (some 44), op := (Op.call { callee := (Callee.value (Operand.func 15)), args := #[(Operand.const (Value.int IntKind.i64 3))], argTypes := #[2] }), type := 23, pos := "law.go:136", after := #[{ on := 2, ground := Ground.chain }, { on := 2, ground := Ground.guard }], guard := (some (2, false)) }) rfl (fun K hK => ?_) AllReadyH.nil
  go_simp
  refine (at_calls _ _).mono ?_
  rintro e w5 ⟨rfl, hb2⟩
  refine hK.out _ _ (HK.out _ _ hb2 hHeld) (fun hHeld => ?_)
  clear hK K
  try simp only [Act.put, List.setIfInBounds_toArray, List.set_cons_zero, List.set_cons_succ]
  refine wpAnyH_ready (rs := [6]) (by kernel_rfl) (by simp) ?_
  refine AllReadyH.cons (o := { dst := (some 46), op := (Op.call { callee := (Callee.value (Operand.func 16)), args := #[(Operand.tmp 43), (Operand.tmp 44), (Operand.const (Value.int IntKind.i64 8)), (Operand.tmp 45)], argTypes := #[25, 23, 3, 23] }), type := 27, pos := "law.go:136", after := #[{ on := 3, ground := Ground.data }, { on := 4, ground := Ground.data }, { on := 5, ground := Ground.data }, { on := 4, ground := Ground.chain }, { on := 2, ground := Ground.guard }], guard := (some (2, false)) }) rfl (fun K hK => ?_) AllReadyH.nil
  go_simp
  refine ((HLD.out.low hb2).store (vat 3) 8 v _ (pa_s HVB.out HVF.out)).mono ?_
  rintro e w6 ⟨rfl, hL6, hk6⟩
  refine hK.out _ _ (⟨pw_box0 ((HLD.out.low hb2).box (blk_below HVD.out hb2) hk6), pw_box1 ((HLD.out.low hb2).box (blk_below HVD.out hb2) hk6), pw_box2 ((HLD.out.low hb2).box (blk_below HVD.out hb2) hk6)⟩) (fun hHeld => ?_)
  clear hK K
  try simp only [Act.put, List.setIfInBounds_toArray, List.set_cons_zero, List.set_cons_succ]
  refine wpAnyH_take (i := 7) (oi := { dst := (some 47), op := (Op.binOp BinOp.neq 27 (Operand.tmp 46) (Operand.const (Value.int IntKind.i64 0)) 27), type := 4, pos := "law.go:136", after := #[{ on := 6, ground := Ground.data }, { on := 2, ground := Ground.guard }], guard := (some (2, false)) }) (v := ?_) rfl (by kernel_rfl) (by kernel_rfl) (by kernel_rfl) (fun _ _ _ h => h) (Or.inl ⟨by rfl, ?_⟩) hHeld ?_
  rotate_left
  · intro w hSw; (try dsimp only at hSw); go_simp; try with_reducible rfl
  try simp only [Act.put, List.setIfInBounds_toArray, List.set_cons_zero, List.set_cons_succ]
  refine wpAnyH_take (i := 8) (oi := { dst := (some 48), op := (Op.pick (Operand.tmp 42) (Operand.const (Value.bool true)) (Operand.tmp 47)), type := 4, pos := "law.go:136", after := #[{ on := 2, ground := Ground.data }, { on := 7, ground := Ground.data }], guard := none }) (v := ?_) rfl (by kernel_rfl) (by kernel_rfl) (by kernel_rfl) (fun _ _ _ h => h) (Or.inl ⟨by rfl, ?_⟩) hHeld ?_
  rotate_left
  · intro w hSw; (try dsimp only at hSw); go_simp; try with_reducible rfl
  try simp only [Act.put, List.setIfInBounds_toArray, List.set_cons_zero, List.set_cons_succ]
  refine wpAnyH_done (by kernel_rfl) ?_ _
  have HV6 := Aside0.mk ((HLD.out.low hb2).box (blk_below HVD.out hb2) hk6)
  have HL6 := Aside0.mk hL6
  clear hHeld hL6 hk6 hb2 HLD HL hS HK HV HVD
  have HL := HL6
  have HV := HV6
  clear HL6 HV6
  go_upto_block 0 with (fail)
  go_wp2_with fail
  go_loopw [12] (fun i wx => ∃ j : Nat, j ≤ 8 ∧ i = .int .i64 j ∧ Hid (∃ l, Live w wx w1.heap.size gs1 (one 0 l) ∧ PInv v T l j) ∧ Hid (wx.heap[g11]? = some (.cells #[.int .i64 v.n, .int .i64 v.b, .int .i64 v.f] 23))) (fun i _ => 8 - (intOf i).toNat)
  case atStart => exact ⟨0, Nat.zero_le _, rfl, ⟨_, HL.out, pinv0 v T⟩, HV.out⟩
  case round =>
    clear HL HV
    obtain ⟨j, hj, rfl, hL, hV⟩ := hrel
    have HV := Aside0.mk hV
    obtain ⟨l, hL, hP⟩ := hL
    have HL := Aside0.mk hL
    have HP := Aside0.mk hP
    clear hV hL hP
    by_cases hlt : j < 8
    · obtain ⟨i, hi⟩ : ∃ i, i = (j + T) % 8 := ⟨_, rfl⟩
      have HI := Aside0.mk hi
      have hi8 : i < 8 := by omega
      have hjl : ((j : Int) < 8) := by omega
      have hwj : IntKind.i64.wrap ((j : Int) + 1) = (j : Int) + 1 := by rw [IntKind.wrap_i64]; omega
      clear hi
      go_upto_region 11 with (fail)
      rw [show ((j : Int) + (T : Int)) % 8 = (((j + T) % 8 : Nat) : Int) by omega, ← HI.out]
      go_upto_region 12 with (first | (go_at_call 15; refine (at_calls _ _).mono ?_; rintro e wn ⟨rfl, hk⟩; replace HV := Aside0.mk (blk_below HV.out hk); replace HL := Aside0.mk (HL.out.low hk); clear hk) | (go_at_call 14; refine (HL.out.load (vat (3 + (i : Int))) 1 _ (pa_load HP.out.len (HP.out.old i hi8) _ (by omega))).mono ?_; rintro e wn ⟨rfl, hL, hk⟩; replace HV := Aside0.mk (blk_below HV.out hk); replace HL := Aside0.mk hL; clear hL hk))
      have hk := below_alloc (Below.refl wn.heap.size wn) (.cells #[.int .i64 (pv v i).n, .int .i64 (pv v i).b, .int .i64 (pv v i).f] 23)
      replace HV := Aside0.mk (blk_below HV.out hk)
      have HX := Aside0.mk (blk_new wn (.cells #[.int .i64 (pv v i).n, .int .i64 (pv v i).b, .int .i64 (pv v i).f] 23))
      replace HL := Aside0.mk (HL.out.low hk)
      clear hk
      generalize wn.heap.size = g14 at HX ⊢
      generalize wn.alloc (.cells #[.int .i64 (pv v i).n, .int .i64 (pv v i).b, .int .i64 (pv v i).f] 23) = wn at HL HV HX ⊢
      have hpf : (pv v i).f = (i : Int) + 1 := rfl
      have hwi : IntKind.i64.wrap ((i : Int) + 1) = (i : Int) + 1 := by rw [IntKind.wrap_i64]; omega
      have hw20 : IntKind.i64.wrap (20 + (i : Int)) = 20 + (i : Int) := by rw [IntKind.wrap_i64]; omega
      have HLD := Aside0.mk (HL.out.low (below_drew (Below.refl _ _)))
      have HXD : Aside0 (wn.drew.heap[g14]? = some (.cells #[.int .i64 (pv v i).n, .int .i64 (pv v i).b, .int .i64 (pv v i).f] 23)) := HX
      have HVD : Aside0 (wn.drew.heap[g11]? = some (.cells #[.int .i64 v.n, .int .i64 v.b, .int .i64 v.f] 23)) := HV
      have hx := cell3 HX.out
      have hS : (wn.cell? ⟨g14, 0, none⟩ = some (.int .i64 (pv v i).n) ∧ wn.cell? ⟨g14, 1, none⟩ = some (.int .i64 (pv v i).b) ∧ wn.cell? ⟨g14, 2, none⟩ = some (.int .i64 (pv v i).f)) := ⟨hx.1, hx.2.1, hx.2.2⟩
      clear hx
      have HK := Aside0.mk (show ∀ Wa Wb : World, Below Wa.heap.size Wa Wb → (Wa.cell? ⟨g14, 0, none⟩ = some (.int .i64 (pv v i).n) ∧ Wa.cell? ⟨g14, 1, none⟩ = some (.int .i64 (pv v i).b) ∧ Wa.cell? ⟨g14, 2, none⟩ = some (.int .i64 (pv v i).f)) → (Wb.cell? ⟨g14, 0, none⟩ = some (.int .i64 (pv v i).n) ∧ Wb.cell? ⟨g14, 1, none⟩ = some (.int .i64 (pv v i).b) ∧ Wb.cell? ⟨g14, 2, none⟩ = some (.int .i64 (pv v i).f)) from fun _ _ hb h => ⟨pw_cell_below hb h.1, pw_cell_below hb h.2.1, pw_cell_below hb h.2.2⟩)
      refine wp_region_held_drew (S := fun w' => w'.cell? ⟨g14, 0, none⟩ = some (.int .i64 (pv v i).n) ∧ w'.cell? ⟨g14, 1, none⟩ = some (.int .i64 (pv v i).b) ∧ w'.cell? ⟨g14, 2, none⟩ = some (.int .i64 (pv v i).f)) (by kernel_rfl) ⟨hS.1, hS.2.1, hS.2.2⟩ (fun hHeld => ?_)
      refine wpAnyH_take (i := 0) (oi := { dst := (some 66), op := (Op.move (Operand.tmp 15)), type := 27, pos := "law.go:142", after := #[], guard := none }) (v := ?_) rfl (by kernel_rfl) (by kernel_rfl) (by kernel_rfl) (fun _ _ _ h => h) (Or.inl ⟨by rfl, ?_⟩) hHeld ?_
      rotate_left
      · intro w hSw; (try dsimp only at hSw); go_simp; try with_reducible rfl
      try simp only [Act.put, List.setIfInBounds_toArray, List.set_cons_zero, List.set_cons_succ]
      refine wpAnyH_take (i := 1) (oi := { dst := (some 67), op := (Op.binOp BinOp.neq 27 (Operand.tmp 66) (Operand.const (Value.int IntKind.i64 0)) 27), type := 4, pos := "law.go:142", after := #[{ on := 0, ground := Ground.data }], guard := none }) (v := ?_) rfl (by kernel_rfl) (by kernel_rfl) (by kernel_rfl) (fun _ _ _ h => h) (Or.inl ⟨by rfl, ?_⟩) hHeld ?_
      rotate_left
      · intro w hSw; (try dsimp only at hSw); go_simp; try with_reducible rfl
      try simp only [Act.put, List.setIfInBounds_toArray, List.set_cons_zero, List.set_cons_succ]
      refine wpAnyH_take (i := 2) (oi := { dst := (some 68), op := (Op.move (Operand.tmp 67)), type := 4, pos := "law.go:142", after := #[{ on := 1, ground := Ground.data }], guard := none }) (v := ?_) rfl (by kernel_rfl) (by kernel_rfl) (by kernel_rfl) (fun _ _ _ h => h) (Or.inl ⟨by rfl, ?_⟩) hHeld ?_
      rotate_left
      · intro w hSw; (try dsimp only at hSw); go_simp; try with_reducible rfl
      try simp only [Act.put, List.setIfInBounds_toArray, List.set_cons_zero, List.set_cons_succ]
      refine wpAnyH_take (i := 3) (oi := { dst := (some 69), op := (Op.fieldAddr 23 (Operand.tmp 14) 2), type := 0, pos := "law.go:142", after := #[{ on := 2, ground := Ground.guard }], guard := (some (2, false)) }) (v := ?_) rfl (by kernel_rfl) (by kernel_rfl) (by kernel_rfl) (fun _ _ _ h => h) (Or.inl ⟨by rfl, ?_⟩) hHeld ?_
      rotate_left
      · intro w hSw; (try dsimp only at hSw); go_simp; try with_reducible rfl
      try simp only [Act.put, List.setIfInBounds_toArray, List.set_cons_zero, List.set_cons_succ]
      refine wpAnyH_take (i := 4) (oi := { dst := (some 70), op := (Op.load 3 (Operand.tmp 69)), type := 3, pos := "law.go:142", after := #[{ on := 3, ground := Ground.data }, { on := 2, ground := Ground.guard }], guard := (some (2, false)) }) (v := ?_) rfl (by kernel_rfl) (by kernel_rfl) (by kernel_rfl) (fun _ _ _ h => h) (Or.inl ⟨by rfl, ?_⟩) hHeld ?_
      rotate_left
      · intro w hSw; (try dsimp only at hSw); go_simp; try with_reducible rfl
      try simp only [Act.put, List.setIfInBounds_toArray, List.set_cons_zero, List.set_cons_succ]
      refine wpAnyH_take (i := 5) (oi := { dst := (some 71), op := (Op.move (Operand.tmp 13)), type := 2, pos := "law.go:142", after := #[{ on := 2, ground := Ground.guard }], guard := (some (2, false)) }) (v := ?_) rfl (by kernel_rfl) (by kernel_rfl) (by kernel_rfl) (fun _ _ _ h => h) (Or.inl ⟨by rfl, ?_⟩) hHeld ?_
      rotate_left
      · intro w hSw; (try dsimp only at hSw); go_simp; try with_reducible rfl
      try simp only [Act.put, List.setIfInBounds_toArray, List.set_cons_zero, List.set_cons_succ]
      refine wpAnyH_take (i := 6) (oi := { dst := (some 72), op := (Op.binOp BinOp.add 3 (Operand.tmp 71) (Operand.const (Value.int IntKind.i64 1)) 3), type := 3, pos := "law.go:142", after := #[{ on := 5, ground := Ground.data }, { on := 2, ground := Ground.guard }], guard := (some (2, false)) }) (v := .int .i64 ((i : Int) + 1)) rfl (by kernel_rfl) (by kernel_rfl) (by kernel_rfl) (fun _ _ _ h => h) (Or.inl ⟨by rfl, ?_⟩) hHeld ?_
      · intro w hSw; (try dsimp only at hSw); go_simp; done
      try simp only [Act.put, List.setIfInBounds_toArray, List.set_cons_zero, List.set_cons_succ]
      refine wpAnyH_take (i := 7) (oi := { dst := (some 73), op := (Op.binOp BinOp.neq 3 (Operand.tmp 70) (Operand.tmp 72) 3), type := 4, pos := "law.go:142", after := #[{ on := 4, ground := Ground.data }, { on := 6, ground := Ground.data }, { on := 2, ground := Ground.guard }], guard := (some (2, false)) }) (v := .bool false) rfl (by kernel_rfl) (by kernel_rfl) (by kernel_rfl) (fun _ _ _ h => h) (Or.inl ⟨by rfl, ?_⟩) hHeld ?_
      · intro w hSw; (try dsimp only at hSw); go_simp; done
      try simp only [Act.put, List.setIfInBounds_toArray, List.set_cons_zero, List.set_cons_succ]
      refine wpAnyH_take (i := 8) (oi := { dst := (some 74), op := (Op.pick (Operand.tmp 68) (Operand.const (Value.bool true)) (Operand.tmp 73)), type := 4, pos := "law.go:142", after := #[{ on := 2, ground := Ground.data }, { on := 7, ground := Ground.data }], guard := none }) (v := ?_) rfl (by kernel_rfl) (by kernel_rfl) (by kernel_rfl) (fun _ _ _ h => h) (Or.inl ⟨by rfl, ?_⟩) hHeld ?_
      rotate_left
      · intro w hSw; (try dsimp only at hSw); go_simp; try with_reducible rfl
      try simp only [Act.put, List.setIfInBounds_toArray, List.set_cons_zero, List.set_cons_succ]
      refine wpAnyH_take (i := 9) (oi := { dst := (some 75), op := (Op.move (Operand.tmp 74)), type := 4, pos := "law.go:142", after := #[{ on := 8, ground := Ground.data }, { on := 2, ground := Ground.chain }], guard := none }) (v := ?_) rfl (by kernel_rfl) (by kernel_rfl) (by kernel_rfl) (fun _ _ _ h => h) (Or.inl ⟨by rfl, ?_⟩) hHeld ?_
      rotate_left
      · intro w hSw; (try dsimp only at hSw); go_simp; try with_reducible rfl
      try simp only [Act.put, List.setIfInBounds_toArray, List.set_cons_zero, List.set_cons_succ]
      refine wpAnyH_take (i := 10) (oi := { dst := (some 76), op := (Op.move (Operand.tmp 8)), type := 25, pos := "law.go:142", after := #[{ on := 9, ground := Ground.guard }], guard := (some (9, false)) }) (v := ?_) rfl (by kernel_rfl) (by kernel_rfl) (by kernel_rfl) (fun _ _ _ h => h) (Or.inl ⟨by rfl, ?_⟩) hHeld ?_
      rotate_left
      · intro w hSw; (try dsimp only at hSw); go_simp; try with_reducible rfl
      try simp only [Act.put, List.setIfInBounds_toArray, List.set_cons_zero, List.set_cons_succ]
      refine wpAnyH_take (i := 11) (oi := { dst := (some 77), op := (Op.move (Operand.tmp 13)), type := 2, pos := "law.go:142", after := #[{ on := 9, ground := Ground.guard }], guard := (some (9, false)) }) (v := ?_) rfl (by kernel_rfl) (by kernel_rfl) (by kernel_rfl) (fun _ _ _ h => h) (Or.inl ⟨by rfl, ?_⟩) hHeld ?_
      rotate_left
      · intro w hSw; (try dsimp only at hSw); go_simp; try with_reducible rfl
      try simp only [Act.put, List.setIfInBounds_toArray, List.set_cons_zero, List.set_cons_succ]
      refine wpAnyH_take (i := 12) (oi := { dst := (some 78), op := (Op.binOp BinOp.add 2 (Operand.const (Value.int IntKind.i64 20)) (Operand.tmp 77) 2), type := 2, pos := "law.go:142", after := #[{ on := 11, ground := Ground.data }, { on := 9, ground := Ground.guard }], guard := (some (9, false)) }) (v := .int .i64 (20 + (i : Int))) rfl (by kernel_rfl) (by kernel_rfl) (by kernel_rfl) (fun _ _ _ h => h) (Or.inl ⟨by rfl, ?_⟩) hHeld ?_
      · intro w hSw; (try dsimp only at hSw); go_simp; done
      try simp only [Act.put, List.setIfInBounds_toArray, List.set_cons_zero, List.set_cons_succ]
      refine wpAnyH_take (i := 14) (oi := { dst := (some 80), op := (Op.load 23 (Operand.tmp 14)), type := 23, pos := "law.go:142", after := #[{ on := 9, ground := Ground.guard }], guard := (some (9, false)) }) (v := ?_) rfl (by kernel_rfl) (by kernel_rfl) (by kernel_rfl) (fun _ _ _ h => h) (Or.inl ⟨by rfl, ?_⟩) hHeld ?_
      rotate_left
      · intro w hSw; (try dsimp only at hSw); go_simp; try with_reducible rfl
      try simp only [Act.put, List.setIfInBounds_toArray, List.set_cons_zero, List.set_cons_succ]
      refine wpAnyH_ready (rs := [13]) (by kernel_rfl) (by simp) ?_
      refine AllReadyH.cons (o := { dst := (some 79), op := (Op.call { callee := (Callee.value (Operand.func 15)), args := #[(Operand.tmp 78)], argTypes := #[2] }), type := 23, pos := "law.go:142", after := #[{ on := 12, ground := Ground.data }, { on := 9, ground := Ground.chain }, { on := 9, ground := Ground.guard }], guard := (some (9, false)) }) rfl (fun K hK => ?_) AllReadyH.nil
      go_simp
      refine (at_calls _ _).mono ?_
      rintro e w5 ⟨rfl, hb2⟩
      refine hK.out _ _ (HK.out _ _ hb2 hHeld) (fun hHeld => ?_)
      clear hK K
      try simp only [Act.put, List.setIfInBounds_toArray, List.set_cons_zero, List.set_cons_succ]
      refine wpAnyH_ready (rs := [15]) (by kernel_rfl) (by simp) ?_
      refine AllReadyH.cons (o := { dst := (some 81), op := (Op.call { callee := (Callee.value (Operand.func 16)), args := #[(Operand.tmp 76), (Operand.tmp 79), (Operand.const (Value.int IntKind.i64 1)), (Operand.tmp 80)], argTypes := #[25, 23, 3, 23] }), type := 27, pos := "law.go:142", after := #[{ on := 10, ground := Ground.data }, { on := 13, ground := Ground.data }, { on := 14, ground := Ground.data }, { on := 13, ground := Ground.chain }, { on := 9, ground := Ground.guard }], guard := (some (9, false)) }) rfl (fun K hK => ?_) AllReadyH.nil
      go_simp
      refine ((HLD.out.low hb2).store (vat (20 + (i : Int))) 1 (pv v i) _ (pa_put HP.out.len hi8 hi8 HVB.out _ (by omega))).mono ?_
      rintro e w6 ⟨rfl, hL6, hk6⟩
      refine hK.out _ _ (⟨pw_box0 ((HLD.out.low hb2).box (blk_below HXD.out hb2) hk6), pw_box1 ((HLD.out.low hb2).box (blk_below HXD.out hb2) hk6), pw_box2 ((HLD.out.low hb2).box (blk_below HXD.out hb2) hk6)⟩) (fun hHeld => ?_)
      clear hK K
      try simp only [Act.put, List.setIfInBounds_toArray, List.set_cons_zero, List.set_cons_succ]
      refine wpAnyH_take (i := 16) (oi := { dst := (some 82), op := (Op.binOp BinOp.neq 27 (Operand.tmp 81) (Operand.const (Value.int IntKind.i64 0)) 27), type := 4, pos := "law.go:142", after := #[{ on := 15, ground := Ground.data }, { on := 9, ground := Ground.guard }], guard := (some (9, false)) }) (v := ?_) rfl (by kernel_rfl) (by kernel_rfl) (by kernel_rfl) (fun _ _ _ h => h) (Or.inl ⟨by rfl, ?_⟩) hHeld ?_
      rotate_left
      · intro w hSw; (try dsimp only at hSw); go_simp; try with_reducible rfl
      try simp only [Act.put, List.setIfInBounds_toArray, List.set_cons_zero, List.set_cons_succ]
      refine wpAnyH_take (i := 17) (oi := { dst := (some 83), op := (Op.pick (Operand.tmp 75) (Operand.const (Value.bool true)) (Operand.tmp 82)), type := 4, pos := "law.go:142", after := #[{ on := 9, ground := Ground.data }, { on := 16, ground := Ground.data }], guard := none }) (v := ?_) rfl (by kernel_rfl) (by kernel_rfl) (by kernel_rfl) (fun _ _ _ h => h) (Or.inl ⟨by rfl, ?_⟩) hHeld ?_
      rotate_left
      · intro w hSw; (try dsimp only at hSw); go_simp; try with_reducible rfl
      try simp only [Act.put, List.setIfInBounds_toArray, List.set_cons_zero, List.set_cons_succ]
      refine wpAnyH_done (by kernel_rfl) ?_ _
      have HX6 := Aside0.mk ((HLD.out.low hb2).box (blk_below HXD.out hb2) hk6)
      have HV6 := Aside0.mk ((HLD.out.low hb2).box (blk_below HVD.out hb2) hk6)
      have HL6 := Aside0.mk hL6
      clear hHeld hL6 hk6 hb2 HLD HL hS HK HX HXD HV HVD
      have HL := HL6
      have HX := HX6
      have HV := HV6
      clear HL6 HX6 HV6
      go_wp2_with fail
      go_roundw
      case rel => exact ⟨j + 1, by omega, by go_num, ⟨_, HL.out, HP.out.step HI.out⟩, HV.out⟩
      case measure => simp [intOf]; omega
    · obtain rfl : j = 8 := by omega
      have HPA := Aside0.mk HP.out.all
      have HLN := Aside0.mk HP.out.len
      clear hlt HP
      go_upto_region 15 with (first | (go_at_call 15; refine (at_calls _ _).mono ?_; rintro e wn ⟨rfl, hk⟩; replace HV := Aside0.mk (blk_below HV.out hk); replace HL := Aside0.mk (HL.out.low hk); clear hk) | (go_at_call 14; refine (HL.out.load (vat 20) 8 _ (pa_whole HVF.out HLN.out HPA.out)).mono ?_; rintro e wn ⟨rfl, hL, hk⟩; replace HV := Aside0.mk (blk_below HV.out hk); replace HL := Aside0.mk hL; clear hL hk))
      have hk := below_alloc (Below.refl wn.heap.size wn) (.cells #[.int .i64 v.n, .int .i64 v.b, .int .i64 v.f] 23)
      replace HV := Aside0.mk (blk_below HV.out hk)
      have HZ := Aside0.mk (blk_new wn (.cells #[.int .i64 v.n, .int .i64 v.b, .int .i64 v.f] 23))
      replace HL := Aside0.mk (HL.out.low hk)
      clear hk
      generalize wn.heap.size = g16 at HZ ⊢
      generalize wn.alloc (.cells #[.int .i64 v.n, .int .i64 v.b, .int .i64 v.f] 23) = wn at HL HV HZ ⊢
      go_upto_region 17 with (fail)
      rw [show (S : Int) % 8 = ((S % 8 : Nat) : Int) by omega, show (S : Int) / 8 % 8 = ((S / 8 % 8 : Nat) : Int) by omega, HTS.out.2.1, HTS.out.2.2]
      have hwa : IntKind.i64.wrap (20 + (a : Int)) = 20 + (a : Int) := by rw [IntKind.wrap_i64]; omega
      have hwb : IntKind.i64.wrap (20 + (b : Int)) = 20 + (b : Int) := by rw [IntKind.wrap_i64]; omega
      go_upto_region 18 with (first | (go_at_call 15; refine (at_calls _ _).mono ?_; rintro e wn ⟨rfl, hk⟩; replace HV := Aside0.mk (blk_below HV.out hk); replace HZ := Aside0.mk (blk_below HZ.out hk); replace HL := Aside0.mk (HL.out.low hk); clear hk) | (go_at_call 14; refine (HL.out.load (vat (20 + (a : Int))) 1 _ (pa_load HLN.out (HPA.out a ha8) _ (by omega))).mono ?_; rintro e wn ⟨rfl, hL, hk⟩; replace HV := Aside0.mk (blk_below HV.out hk); replace HZ := Aside0.mk (blk_below HZ.out hk); replace HL := Aside0.mk hL; clear hL hk))
      have hk := below_alloc (Below.refl wn.heap.size wn) (.cells #[.int .i64 (pv v a).n, .int .i64 (pv v a).b, .int .i64 (pv v a).f] 23)
      replace HV := Aside0.mk (blk_below HV.out hk)
      replace HZ := Aside0.mk (blk_below HZ.out hk)
      have HY := Aside0.mk (blk_new wn (.cells #[.int .i64 (pv v a).n, .int .i64 (pv v a).b, .int .i64 (pv v a).f] 23))
      replace HL := Aside0.mk (HL.out.low hk)
      clear hk
      generalize wn.heap.size = g20 at HY ⊢
      generalize wn.alloc (.cells #[.int .i64 (pv v a).n, .int .i64 (pv v a).b, .int .i64 (pv v a).f] 23) = wn at HL HV HZ HY ⊢
      go_upto_region 19 with (first | (go_at_call 15; refine (at_calls _ _).mono ?_; rintro e wn ⟨rfl, hk⟩; replace HV := Aside0.mk (blk_below HV.out hk); replace HZ := Aside0.mk (blk_below HZ.out hk); replace HY := Aside0.mk (blk_below HY.out hk); replace HL := Aside0.mk (HL.out.low hk); clear hk) | (go_at_call 14; refine (HL.out.load (vat (20 + (b : Int))) 1 _ (pa_load HLN.out (HPA.out b hb8) _ (by omega))).mono ?_; rintro e wn ⟨rfl, hL, hk⟩; replace HV := Aside0.mk (blk_below HV.out hk); replace HZ := Aside0.mk (blk_below HZ.out hk); replace HY := Aside0.mk (blk_below HY.out hk); replace HL := Aside0.mk hL; clear hL hk))
      have hk := below_alloc (Below.refl wn.heap.size wn) (.cells #[.int .i64 (pv v b).n, .int .i64 (pv v b).b, .int .i64 (pv v b).f] 23)
      replace HV := Aside0.mk (blk_below HV.out hk)
      replace HZ := Aside0.mk (blk_below HZ.out hk)
      replace HY := Aside0.mk (blk_below HY.out hk)
      have HX := Aside0.mk (blk_new wn (.cells #[.int .i64 (pv v b).n, .int .i64 (pv v b).b, .int .i64 (pv v b).f] 23))
      replace HL := Aside0.mk (HL.out.low hk)
      clear hk
      generalize wn.heap.size = g22 at HX ⊢
      generalize wn.alloc (.cells #[.int .i64 (pv v b).n, .int .i64 (pv v b).b, .int .i64 (pv v b).f] 23) = wn at HL HV HZ HY HX ⊢
      have HLD := Aside0.mk (HL.out.low (below_drew (Below.refl _ _)))
      have HXD : Aside0 (wn.drew.heap[g22]? = some (.cells #[.int .i64 (pv v b).n, .int .i64 (pv v b).b, .int .i64 (pv v b).f] 23)) := HX
      have HVD : Aside0 (wn.drew.heap[g11]? = some (.cells #[.int .i64 v.n, .int .i64 v.b, .int .i64 v.f] 23)) := HV
      have HZD : Aside0 (wn.drew.heap[g16]? = some (.cells #[.int .i64 v.n, .int .i64 v.b, .int .i64 v.f] 23)) := HZ
      have HYD : Aside0 (wn.drew.heap[g20]? = some (.cells #[.int .i64 (pv v a).n, .int .i64 (pv v a).b, .int .i64 (pv v a).f] 23)) := HY
      have hx := cell3 HX.out
      have hS : (wn.cell? ⟨g22, 0, none⟩ = some (.int .i64 (pv v b).n) ∧ wn.cell? ⟨g22, 1, none⟩ = some (.int .i64 (pv v b).b) ∧ wn.cell? ⟨g22, 2, none⟩ = some (.int .i64 (pv v b).f)) := ⟨hx.1, hx.2.1, hx.2.2⟩
      clear hx
      have HK := Aside0.mk (show ∀ Wa Wb : World, Below Wa.heap.size Wa Wb → (Wa.cell? ⟨g22, 0, none⟩ = some (.int .i64 (pv v b).n) ∧ Wa.cell? ⟨g22, 1, none⟩ = some (.int .i64 (pv v b).b) ∧ Wa.cell? ⟨g22, 2, none⟩ = some (.int .i64 (pv v b).f)) → (Wb.cell? ⟨g22, 0, none⟩ = some (.int .i64 (pv v b).n) ∧ Wb.cell? ⟨g22, 1, none⟩ = some (.int .i64 (pv v b).b) ∧ Wb.cell? ⟨g22, 2, none⟩ = some (.int .i64 (pv v b).f)) from fun _ _ hb h => ⟨pw_cell_below hb h.1, pw_cell_below hb h.2.1, pw_cell_below hb h.2.2⟩)
      refine wp_region_held_drew (S := fun w' => w'.cell? ⟨g22, 0, none⟩ = some (.int .i64 (pv v b).n) ∧ w'.cell? ⟨g22, 1, none⟩ = some (.int .i64 (pv v b).b) ∧ w'.cell? ⟨g22, 2, none⟩ = some (.int .i64 (pv v b).f)) (by kernel_rfl) ⟨hS.1, hS.2.1, hS.2.2⟩ (fun hHeld => ?_)
      refine wpAnyH_take (i := 0) (oi := { dst := (some 113), op := (Op.move (Operand.tmp 8)), type := 25, pos := "law.go:151", after := #[], guard := none }) (v := ?_) rfl (by kernel_rfl) (by kernel_rfl) (by kernel_rfl) (fun _ _ _ h => h) (Or.inl ⟨by rfl, ?_⟩) hHeld ?_
      rotate_left
      · intro w hSw; (try dsimp only at hSw); go_simp; try with_reducible rfl
      try simp only [Act.put, List.setIfInBounds_toArray, List.set_cons_zero, List.set_cons_succ]
      refine wpAnyH_take (i := 1) (oi := { dst := (some 114), op := (Op.move (Operand.tmp 18)), type := 2, pos := "law.go:151", after := #[], guard := none }) (v := ?_) rfl (by kernel_rfl) (by kernel_rfl) (by kernel_rfl) (fun _ _ _ h => h) (Or.inl ⟨by rfl, ?_⟩) hHeld ?_
      rotate_left
      · intro w hSw; (try dsimp only at hSw); go_simp; try with_reducible rfl
      try simp only [Act.put, List.setIfInBounds_toArray, List.set_cons_zero, List.set_cons_succ]
      refine wpAnyH_take (i := 2) (oi := { dst := (some 115), op := (Op.binOp BinOp.add 2 (Operand.const (Value.int IntKind.i64 20)) (Operand.tmp 114) 2), type := 2, pos := "law.go:151", after := #[{ on := 1, ground := Ground.data }], guard := none }) (v := .int .i64 (20 + (a : Int))) rfl (by kernel_rfl) (by kernel_rfl) (by kernel_rfl) (fun _ _ _ h => h) (Or.inl ⟨by rfl, ?_⟩) hHeld ?_
      · intro w hSw; (try dsimp only at hSw); go_simp; done
      try simp only [Act.put, List.setIfInBounds_toArray, List.set_cons_zero, List.set_cons_succ]
      refine wpAnyH_take (i := 4) (oi := { dst := (some 117), op := (Op.load 23 (Operand.tmp 22)), type := 23, pos := "law.go:151", after := #[], guard := none }) (v := ?_) rfl (by kernel_rfl) (by kernel_rfl) (by kernel_rfl) (fun _ _ _ h => h) (Or.inl ⟨by rfl, ?_⟩) hHeld ?_
      rotate_left
      · intro w hSw; (try dsimp only at hSw); go_simp; try with_reducible rfl
      try simp only [Act.put, List.setIfInBounds_toArray, List.set_cons_zero, List.set_cons_succ]
      refine wpAnyH_ready (rs := [3]) (by kernel_rfl) (by simp) ?_
      refine AllReadyH.cons (o := { dst := (some 116), op := (Op.call { callee := (Callee.value (Operand.func 15)), args := #[(Operand.tmp 115)], argTypes := #[2] }), type := 23, pos := "law.go:151", after := #[{ on := 2, ground := Ground.data }], guard := none }) rfl (fun K hK => ?_) AllReadyH.nil
      go_simp
      refine (at_calls _ _).mono ?_
      rintro e w5 ⟨rfl, hb2⟩
      refine hK.out _ _ (HK.out _ _ hb2 hHeld) (fun hHeld => ?_)
      clear hK K
      try simp only [Act.put, List.setIfInBounds_toArray, List.set_cons_zero, List.set_cons_succ]
      refine wpAnyH_ready (rs := [5]) (by kernel_rfl) (by simp) ?_
      refine AllReadyH.cons (o := { dst := (some 118), op := (Op.call { callee := (Callee.value (Operand.func 16)), args := #[(Operand.tmp 113), (Operand.tmp 116), (Operand.const (Value.int IntKind.i64 1)), (Operand.tmp 117)], argTypes := #[25, 23, 3, 23] }), type := 27, pos := "law.go:151", after := #[{ on := 0, ground := Ground.data }, { on := 3, ground := Ground.data }, { on := 4, ground := Ground.data }, { on := 3, ground := Ground.chain }], guard := none }) rfl (fun K hK => ?_) AllReadyH.nil
      go_simp
      refine ((HLD.out.low hb2).store (vat (20 + (a : Int))) 1 (pv v b) _ (pa_put HLN.out hb8 ha8 HVB.out _ (by omega))).mono ?_
      rintro e w6 ⟨rfl, hL6, hk6⟩
      refine hK.out _ _ (⟨pw_box0 ((HLD.out.low hb2).box (blk_below HXD.out hb2) hk6), pw_box1 ((HLD.out.low hb2).box (blk_below HXD.out hb2) hk6), pw_box2 ((HLD.out.low hb2).box (blk_below HXD.out hb2) hk6)⟩) (fun hHeld => ?_)
      clear hK K
      try simp only [Act.put, List.setIfInBounds_toArray, List.set_cons_zero, List.set_cons_succ]
      refine wpAnyH_done (by kernel_rfl) ?_ _
      have HX6 := Aside0.mk ((HLD.out.low hb2).box (blk_below HXD.out hb2) hk6)
      have HV6 := Aside0.mk ((HLD.out.low hb2).box (blk_below HVD.out hb2) hk6)
      have HZ6 := Aside0.mk ((HLD.out.low hb2).box (blk_below HZD.out hb2) hk6)
      have HY6 := Aside0.mk ((HLD.out.low hb2).box (blk_below HYD.out hb2) hk6)
      have HL6 := Aside0.mk hL6
      clear hHeld hL6 hk6 hb2 HLD HL hS HK HX HXD HV HVD HZ HZD HY HYD
      have HL := HL6
      have HX := HX6
      have HV := HV6
      have HZ := HZ6
      have HY := HY6
      clear HL6 HX6 HV6 HZ6 HY6
      clear HX
      go_upto_region 20 with (fail)
      have HLD := Aside0.mk (HL.out.low (below_drew (Below.refl _ _)))
      have HYD : Aside0 (w6.drew.heap[g20]? = some (.cells #[.int .i64 (pv v a).n, .int .i64 (pv v a).b, .int .i64 (pv v a).f] 23)) := HY
      have HVD : Aside0 (w6.drew.heap[g11]? = some (.cells #[.int .i64 v.n, .int .i64 v.b, .int .i64 v.f] 23)) := HV
      have HZD : Aside0 (w6.drew.heap[g16]? = some (.cells #[.int .i64 v.n, .int .i64 v.b, .int .i64 v.f] 23)) := HZ
      have hx := cell3 HY.out
      have hS : (w6.cell? ⟨g20, 0, none⟩ = some (.int .i64 (pv v a).n) ∧ w6.cell? ⟨g20, 1, none⟩ = some (.int .i64 (pv v a).b) ∧ w6.cell? ⟨g20, 2, none⟩ = some (.int .i64 (pv v a).f)) := ⟨hx.1, hx.2.1, hx.2.2⟩
      clear hx
      have HK := Aside0.mk (show ∀ Wa Wb : World, Below Wa.heap.size Wa Wb → (Wa.cell? ⟨g20, 0, none⟩ = some (.int .i64 (pv v a).n) ∧ Wa.cell? ⟨g20, 1, none⟩ = some (.int .i64 (pv v a).b) ∧ Wa.cell? ⟨g20, 2, none⟩ = some (.int .i64 (pv v a).f)) → (Wb.cell? ⟨g20, 0, none⟩ = some (.int .i64 (pv v a).n) ∧ Wb.cell? ⟨g20, 1, none⟩ = some (.int .i64 (pv v a).b) ∧ Wb.cell? ⟨g20, 2, none⟩ = some (.int .i64 (pv v a).f)) from fun _ _ hb h => ⟨pw_cell_below hb h.1, pw_cell_below hb h.2.1, pw_cell_below hb h.2.2⟩)
      refine wp_region_held_drew (S := fun w' => w'.cell? ⟨g20, 0, none⟩ = some (.int .i64 (pv v a).n) ∧ w'.cell? ⟨g20, 1, none⟩ = some (.int .i64 (pv v a).b) ∧ w'.cell? ⟨g20, 2, none⟩ = some (.int .i64 (pv v a).f)) (by kernel_rfl) ⟨hS.1, hS.2.1, hS.2.2⟩ (fun hHeld => ?_)
      refine wpAnyH_take (i := 0) (oi := { dst := (some 119), op := (Op.move (Operand.tmp 8)), type := 25, pos := "law.go:152", after := #[], guard := none }) (v := ?_) rfl (by kernel_rfl) (by kernel_rfl) (by kernel_rfl) (fun _ _ _ h => h) (Or.inl ⟨by rfl, ?_⟩) hHeld ?_
      rotate_left
      · intro w hSw; (try dsimp only at hSw); go_simp; try with_reducible rfl
      try simp only [Act.put, List.setIfInBounds_toArray, List.set_cons_zero, List.set_cons_succ]
      refine wpAnyH_take (i := 1) (oi := { dst := (some 120), op := (Op.move (Operand.tmp 19)), type := 2, pos := "law.go:152", after := #[], guard := none }) (v := ?_) rfl (by kernel_rfl) (by kernel_rfl) (by kernel_rfl) (fun _ _ _ h => h) (Or.inl ⟨by rfl, ?_⟩) hHeld ?_
      rotate_left
      · intro w hSw; (try dsimp only at hSw); go_simp; try with_reducible rfl
      try simp only [Act.put, List.setIfInBounds_toArray, List.set_cons_zero, List.set_cons_succ]
      refine wpAnyH_take (i := 2) (oi := { dst := (some 121), op := (Op.binOp BinOp.add 2 (Operand.const (Value.int IntKind.i64 20)) (Operand.tmp 120) 2), type := 2, pos := "law.go:152", after := #[{ on := 1, ground := Ground.data }], guard := none }) (v := .int .i64 (20 + (b : Int))) rfl (by kernel_rfl) (by kernel_rfl) (by kernel_rfl) (fun _ _ _ h => h) (Or.inl ⟨by rfl, ?_⟩) hHeld ?_
      · intro w hSw; (try dsimp only at hSw); go_simp; done
      try simp only [Act.put, List.setIfInBounds_toArray, List.set_cons_zero, List.set_cons_succ]
      refine wpAnyH_take (i := 4) (oi := { dst := (some 123), op := (Op.load 23 (Operand.tmp 20)), type := 23, pos := "law.go:152", after := #[], guard := none }) (v := ?_) rfl (by kernel_rfl) (by kernel_rfl) (by kernel_rfl) (fun _ _ _ h => h) (Or.inl ⟨by rfl, ?_⟩) hHeld ?_
      rotate_left
      · intro w hSw; (try dsimp only at hSw); go_simp; try with_reducible rfl
      try simp only [Act.put, List.setIfInBounds_toArray, List.set_cons_zero, List.set_cons_succ]
      refine wpAnyH_ready (rs := [3]) (by kernel_rfl) (by simp) ?_
      refine AllReadyH.cons (o := { dst := (some 122), op := (Op.call { callee := (Callee.value (Operand.func 15)), args := #[(Operand.tmp 121)], argTypes := #[2] }), type := 23, pos := "law.go:152", after := #[{ on := 2, ground := Ground.data }], guard := none }) rfl (fun K hK => ?_) AllReadyH.nil
      go_simp
      refine (at_calls _ _).mono ?_
      rintro e w5 ⟨rfl, hb2⟩
      refine hK.out _ _ (HK.out _ _ hb2 hHeld) (fun hHeld => ?_)
      clear hK K
      try simp only [Act.put, List.setIfInBounds_toArray, List.set_cons_zero, List.set_cons_succ]
      refine wpAnyH_ready (rs := [5]) (by kernel_rfl) (by simp) ?_
      refine AllReadyH.cons (o := { dst := (some 124), op := (Op.call { callee := (Callee.value (Operand.func 16)), args := #[(Operand.tmp 119), (Operand.tmp 122), (Operand.const (Value.int IntKind.i64 1)), (Operand.tmp 123)], argTypes := #[25, 23, 3, 23] }), type := 27, pos := "law.go:152", after := #[{ on := 0, ground := Ground.data }, { on := 3, ground := Ground.data }, { on := 4, ground := Ground.data }, { on := 3, ground := Ground.chain }], guard := none }) rfl (fun K hK => ?_) AllReadyH.nil
      go_simp
      refine ((HLD.out.low hb2).store (vat (20 + (b : Int))) 1 (pv v a) _ (pa_put (by rw [List.length_set]; exact HLN.out) ha8 hb8 HVB.out _ (by omega))).mono ?_
      rintro e w6 ⟨rfl, hL6, hk6⟩
      refine hK.out _ _ (⟨pw_box0 ((HLD.out.low hb2).box (blk_below HYD.out hb2) hk6), pw_box1 ((HLD.out.low hb2).box (blk_below HYD.out hb2) hk6), pw_box2 ((HLD.out.low hb2).box (blk_below HYD.out hb2) hk6)⟩) (fun hHeld => ?_)
      clear hK K
      try simp only [Act.put, List.setIfInBounds_toArray, List.set_cons_zero, List.set_cons_succ]
      refine wpAnyH_done (by kernel_rfl) ?_ _
      have HY6 := Aside0.mk ((HLD.out.low hb2).box (blk_below HYD.out hb2) hk6)
      have HV6 := Aside0.mk ((HLD.out.low hb2).box (blk_below HVD.out hb2) hk6)
      have HZ6 := Aside0.mk ((HLD.out.low hb2).box (blk_below HZD.out hb2) hk6)
      have HL6 := Aside0.mk hL6
      clear hHeld hL6 hk6 hb2 HLD HL hS HK HY HYD HV HVD HZ HZD
      have HL := HL6
      have HY := HY6
      have HV := HV6
      have HZ := HZ6
      clear HL6 HY6 HV6 HZ6
      have HFIN := Aside0.mk (pa_swapped HLN.out HPA.out ha8 hb8 HAB.out)
      have hfin : ((a : Int) == (b : Int)) = false := beq_eq_false_iff_ne.mpr (fun h => HAB.out (by omega))
      have hfin2 : ((a : Int) != (b : Int)) = true := bne_iff_ne.mpr (fun h => HAB.out (by omega))
      clear HY
      go_upto_region 22 with (first | (go_at_call 15; refine (at_calls _ _).mono ?_; rintro e wn ⟨rfl, hk⟩; replace HV := Aside0.mk (blk_below HV.out hk); replace HZ := Aside0.mk (blk_below HZ.out hk); replace HL := Aside0.mk (HL.out.low hk); clear hk) | (go_at_call 14; refine (HL.out.load (vat 20) 8 _ HFIN.out).mono ?_; rintro e wn ⟨rfl, hL, hk⟩; replace HV := Aside0.mk (blk_below HV.out hk); replace HZ := Aside0.mk (blk_below HZ.out hk); replace HL := Aside0.mk hL; clear hL hk))
      have hk := below_alloc (Below.refl wn.heap.size wn) (.cells #[.int .i64 0, .int .i64 0, .int .i64 0] 23)
      replace HV := Aside0.mk (blk_below HV.out hk)
      replace HZ := Aside0.mk (blk_below HZ.out hk)
      have HX := Aside0.mk (blk_new wn (.cells #[.int .i64 0, .int .i64 0, .int .i64 0] 23))
      replace HL := Aside0.mk (HL.out.low hk)
      clear hk
      generalize wn.heap.size = g24 at HX ⊢
      generalize wn.alloc (.cells #[.int .i64 0, .int .i64 0, .int .i64 0] 23) = wn at HL HV HZ HX ⊢
      have hx := cell3 HX.out
      have hv := cell3 HV.out
      have hz := cell3 HZ.out
      go_wp2_with fail
      go_ret
      exact ⟨rfl, HL.out.below⟩
theorem MemParts_row (p : Vl) (T S : Int) (hT : 0 ≤ T ∧ T ≤ 255) (hS : 0 ≤ S ∧ S ≤ 255) (w : World) :
    Calls Try.prog 4 #[.agg #[.int .i64 p.n, .int .i64 p.b, .int .i64 p.f], .int .u8 T, .int .u8 S] w fun e w' => e = .returned (.bool true) ∧ Below w.heap.size w w' := by
  obtain ⟨T, rfl⟩ := Int.eq_ofNat_of_zero_le hT.1
  obtain ⟨S, rfl⟩ := Int.eq_ofNat_of_zero_le hS.1
  by_cases h : S % 8 = S / 8 % 8
  · exact MemParts_same p T S _ _ _ (by omega) (by omega) rfl rfl rfl h w
  · exact MemParts_diff p T S _ _ _ (by omega) (by omega) rfl rfl rfl h w
end Go.Proofs.Yteogfjhmjlelnaa.G
