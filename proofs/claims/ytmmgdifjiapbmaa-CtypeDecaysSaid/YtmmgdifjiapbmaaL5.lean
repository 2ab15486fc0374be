/- The law CtypeDecays returns true. The arguments read as types. -/
import Derived.Test.YtmmgdifjiapbmaaHl
import Derived.Test.YtmmgdifjiapbmaaHm
import Derived.Test.YtmmgdifjiapbmaaHn
import Derived.Test.YtmmgdifjiapbmaaHj
import Derived.Test.YtmmgdifjiapbmaaHo
import Derived.Test.YtmmgdifjiapbmaaL1
set_option linter.unusedVariables false
set_option linter.unusedSimpArgs false
namespace Go.Proofs.Ytmmgdifjiapbmaa.G
open Go.RowKit Go.Proofs.Ytmmgdifjiapbmaa.B Go.Proofs.YtmmgdifjiapbmaaW.PrintWords Go.Proofs.YtmmgdifjiapbmaaW.PrintLast Go.Proofs.YtmmgdifjiapbmaaW.PrintMore
set_option maxRecDepth 100000 in
set_option maxHeartbeats 8000000 in
theorem CtypeDecays_calls (x : S24) (A : Option Addr) (c : Nat)  (w : World) (hCx : Kd.C k24 w A x.f3.length x.f3) (hlx : x.f3.length ≤ c)  :
    Calls Try.prog 7 #[.agg #[.int .i64 x.f0, .int .i64 x.f1, .string x.f2, .slice A x.f3.length c]] w fun e w' => e = .returned (.bool true) ∧ Below w.heap.size w w' := by
  have HCx := Aside0.mk hCx
  have HLx := Aside0.mk hlx
  clear hCx hlx
  go_enter Try.func7, Try.ntmps7
  go_wp2_with fail
  have Gx := Aside0.mk (blk_at_ (W := w) (n := w.heap.size) (Obj.cells #[.int .i64 x.f0, .int .i64 x.f1, .string x.f2, .slice A x.f3.length c] 24) (by simp))
  have GB := Aside0.mk (show Below w.heap.size w (w.alloc (Obj.cells #[.int .i64 x.f0, .int .i64 x.f1, .string x.f2, .slice A x.f3.length c] 24)) from ((Below.refl _ _).alloc (by simp) _))
  generalize (w.alloc (Obj.cells #[.int .i64 x.f0, .int .i64 x.f1, .string x.f2, .slice A x.f3.length c] 24)) = W at Gx GB ⊢
  refine (shown_calls W).mono ?_
  rintro e w1 ⟨rfl, hb1⟩
  have hSx := cell4 (blk_below Gx.out hb1)
  have hSB := below_step GB.out hb1
  have G1x := Aside0.mk (blk_below Gx.out hb1)
  clear Gx GB hb1
  go_wp2_with fail
  refine (decayC x A c _ (Kd.C_below HCx.out hSB) HLx.out).mono ?_
  rintro e w2 ⟨A1, c1, rfl, hl1, hC1, hb2⟩
  have HL1 := Aside0.mk hl1
  have G2x := Aside0.mk (blk_alloc (blk_below G1x.out hb2) (Obj.cells #[.int .i64 (decayT x).f0, .int .i64 (decayT x).f1, .string (decayT x).f2, .slice A1 (decayT x).f3.length c1] 24))
  have G2y := Aside0.mk (blk_new w2 (Obj.cells #[.int .i64 (decayT x).f0, .int .i64 (decayT x).f1, .string (decayT x).f2, .slice A1 (decayT x).f3.length c1] 24))
  have G2B := Aside0.mk (show Below w.heap.size w (w2.alloc (Obj.cells #[.int .i64 (decayT x).f0, .int .i64 (decayT x).f1, .string (decayT x).f2, .slice A1 (decayT x).f3.length c1] 24)) from below_alloc (below_step hSB hb2) _)
  have HC1 := Aside0.mk (Kd.C_below hC1 (show Below w2.heap.size w2 (w2.alloc (Obj.cells #[.int .i64 (decayT x).f0, .int .i64 (decayT x).f1, .string (decayT x).f2, .slice A1 (decayT x).f3.length c1] 24)) from below_alloc (Below.refl _ _) _))
  clear hSx hSB G1x hb2 hl1 hC1
  go_wp2_with fail
  generalize hg : w2.heap.size = g at G2y ⊢
  clear hg
  generalize w2.alloc (Obj.cells #[.int .i64 (decayT x).f0, .int .i64 (decayT x).f1, .string (decayT x).f2, .slice A1 (decayT x).f3.length c1] 24) = W2 at G2x G2y G2B HC1 ⊢
  have hS2x := cell4 G2x.out
  have hS2y := cell4 G2y.out
  have hS2B := G2B.out
  clear G2x G2y G2B
  have HK := Aside0.mk (show ∀ Wa Wb : World, Below Wa.heap.size Wa Wb → ((Wa.cell? ⟨w.heap.size, 0, none⟩ = some (.int .i64 x.f0) ∧ Wa.cell? ⟨w.heap.size, 1, none⟩ = some (.int .i64 x.f1) ∧ Wa.cell? ⟨w.heap.size, 2, none⟩ = some (.string x.f2) ∧ Wa.cell? ⟨w.heap.size, 3, none⟩ = some (.slice A x.f3.length c)) ∧ (Wa.cell? ⟨g, 0, none⟩ = some (.int .i64 (decayT x).f0) ∧ Wa.cell? ⟨g, 1, none⟩ = some (.int .i64 (decayT x).f1) ∧ Wa.cell? ⟨g, 2, none⟩ = some (.string (decayT x).f2) ∧ Wa.cell? ⟨g, 3, none⟩ = some (.slice A1 (decayT x).f3.length c1)) ∧ Below w.heap.size w Wa ∧ Below W2.heap.size W2 Wa) → ((Wb.cell? ⟨w.heap.size, 0, none⟩ = some (.int .i64 x.f0) ∧ Wb.cell? ⟨w.heap.size, 1, none⟩ = some (.int .i64 x.f1) ∧ Wb.cell? ⟨w.heap.size, 2, none⟩ = some (.string x.f2) ∧ Wb.cell? ⟨w.heap.size, 3, none⟩ = some (.slice A x.f3.length c)) ∧ (Wb.cell? ⟨g, 0, none⟩ = some (.int .i64 (decayT x).f0) ∧ Wb.cell? ⟨g, 1, none⟩ = some (.int .i64 (decayT x).f1) ∧ Wb.cell? ⟨g, 2, none⟩ = some (.string (decayT x).f2) ∧ Wb.cell? ⟨g, 3, none⟩ = some (.slice A1 (decayT x).f3.length c1)) ∧ Below w.heap.size w Wb ∧ Below W2.heap.size W2 Wb) from fun _ _ hb h => ⟨box_step h.1 hb, box_step h.2.1 hb, below_step h.2.2.1 hb, below_step h.2.2.2 hb⟩)
  have HQ := Aside0.mk (show ∀ Wa : World, ((Wa.cell? ⟨w.heap.size, 0, none⟩ = some (.int .i64 x.f0) ∧ Wa.cell? ⟨w.heap.size, 1, none⟩ = some (.int .i64 x.f1) ∧ Wa.cell? ⟨w.heap.size, 2, none⟩ = some (.string x.f2) ∧ Wa.cell? ⟨w.heap.size, 3, none⟩ = some (.slice A x.f3.length c)) ∧ (Wa.cell? ⟨g, 0, none⟩ = some (.int .i64 (decayT x).f0) ∧ Wa.cell? ⟨g, 1, none⟩ = some (.int .i64 (decayT x).f1) ∧ Wa.cell? ⟨g, 2, none⟩ = some (.string (decayT x).f2) ∧ Wa.cell? ⟨g, 3, none⟩ = some (.slice A1 (decayT x).f3.length c1)) ∧ Below w.heap.size w Wa ∧ Below W2.heap.size W2 Wa) → Below w.heap.size w Wa from fun _ h => h.2.2.1)
  have HQ1 := Aside0.mk (show ∀ Wa : World, ((Wa.cell? ⟨w.heap.size, 0, none⟩ = some (.int .i64 x.f0) ∧ Wa.cell? ⟨w.heap.size, 1, none⟩ = some (.int .i64 x.f1) ∧ Wa.cell? ⟨w.heap.size, 2, none⟩ = some (.string x.f2) ∧ Wa.cell? ⟨w.heap.size, 3, none⟩ = some (.slice A x.f3.length c)) ∧ (Wa.cell? ⟨g, 0, none⟩ = some (.int .i64 (decayT x).f0) ∧ Wa.cell? ⟨g, 1, none⟩ = some (.int .i64 (decayT x).f1) ∧ Wa.cell? ⟨g, 2, none⟩ = some (.string (decayT x).f2) ∧ Wa.cell? ⟨g, 3, none⟩ = some (.slice A1 (decayT x).f3.length c1)) ∧ Below w.heap.size w Wa ∧ Below W2.heap.size W2 Wa) → Below W2.heap.size W2 Wa from fun _ h => h.2.2.2)
  have hd := sameT_refl (decayT x)
  cases h9 : (x.f0 == 9) with
  | true =>
    have hs9 : isSc (decayT x).f0 = true := by
      have e := beq_iff_eq.mp h9
      unfold decayT
      rw [if_neg (by omega), if_pos e]; rfl
    have h6 : (x.f0 == 6) = false := beq_eq_false_iff_ne.mpr (by have := beq_iff_eq.mp h9; omega)
    go_wp2_with fail
    refine wp_region_held_drew (S := fun w' => (w'.cell? ⟨w.heap.size, 0, none⟩ = some (.int .i64 x.f0) ∧ w'.cell? ⟨w.heap.size, 1, none⟩ = some (.int .i64 x.f1) ∧ w'.cell? ⟨w.heap.size, 2, none⟩ = some (.string x.f2) ∧ w'.cell? ⟨w.heap.size, 3, none⟩ = some (.slice A x.f3.length c)) ∧ (w'.cell? ⟨g, 0, none⟩ = some (.int .i64 (decayT x).f0) ∧ w'.cell? ⟨g, 1, none⟩ = some (.int .i64 (decayT x).f1) ∧ w'.cell? ⟨g, 2, none⟩ = some (.string (decayT x).f2) ∧ w'.cell? ⟨g, 3, none⟩ = some (.slice A1 (decayT x).f3.length c1)) ∧ Below w.heap.size w w' ∧ Below W2.heap.size W2 w') (by kernel_rfl) ⟨hS2x, hS2y, below_drew hS2B, below_drew (Below.refl _ _)⟩ (fun hHeld => ?_)
    refine wpAnyH_take (i := 0) (oi := { dst := (some 8), op := (Op.load 24 (Operand.tmp 4)), type := 24, pos := "law.go:47", after := #[], guard := none }) (v := ?_) rfl (by kernel_rfl) (by kernel_rfl) (by kernel_rfl) (fun _ _ _ h => h) (Or.inl ⟨by rfl, ?_⟩) hHeld ?_
    rotate_left
    · intro w hSw; (try dsimp only at hSw); go_simp; try with_reducible rfl
    try simp only [Act.put, List.setIfInBounds_toArray, List.set_cons_zero, List.set_cons_succ]
    refine wpAnyH_take (i := 2) (oi := { dst := (some 10), op := (Op.load 24 (Operand.tmp 4)), type := 24, pos := "law.go:47", after := #[], guard := none }) (v := ?_) rfl (by kernel_rfl) (by kernel_rfl) (by kernel_rfl) (fun _ _ _ h => h) (Or.inl ⟨by rfl, ?_⟩) hHeld ?_
    rotate_left
    · intro w hSw; (try dsimp only at hSw); go_simp; try with_reducible rfl
    try simp only [Act.put, List.setIfInBounds_toArray, List.set_cons_zero, List.set_cons_succ]
    refine wpAnyH_ready (rs := [1]) (by kernel_rfl) (by simp) ?_
    refine AllReadyH.cons (o := { dst := (some 9), op := (Op.call { callee := (Callee.value (Operand.func 19)), args := #[(Operand.tmp 8)], argTypes := #[24] }), type := 24, pos := "law.go:47", after := #[{ on := 0, ground := Ground.data }], guard := none }) rfl (fun K hK => ?_) AllReadyH.nil
    go_simp
    have hd := decayC (decayT x) A1 c1 _ (Kd.C_below HC1.out (HQ1.out _ hHeld)) HL1.out
    rw [decay_twice] at hd
    refine hd.mono ?_
    clear hd
    rintro e w3 ⟨A2, c2, rfl, hl2, hC2, hb2⟩
    have HC2 := Aside0.mk hC2
    have HL2 := Aside0.mk hl2
    clear hC2 hl2
    go_wp2_with fail
    refine hK.out _ _ (HK.out _ _ hb2 hHeld) (fun hHeld => ?_)
    clear hK K
    try simp only [Act.put, List.setIfInBounds_toArray, List.set_cons_zero, List.set_cons_succ]
    refine wpAnyH_ready (rs := [3]) (by kernel_rfl) (by simp) ?_
    refine AllReadyH.cons (o := { dst := (some 11), op := (Op.call { callee := (Callee.value (Operand.func 11)), args := #[(Operand.tmp 9), (Operand.tmp 10)], argTypes := #[24, 24] }), type := 4, pos := "law.go:47", after := #[{ on := 1, ground := Ground.data }, { on := 2, ground := Ground.data }, { on := 1, ground := Ground.chain }], guard := none }) rfl (fun K hK => ?_) AllReadyH.nil
    go_simp
    refine (same_calls (decayT x) (decayT x) _ _ _ _ _ HC2.out HL2.out (Kd.C_below HC1.out (HQ1.out _ hHeld)) HL1.out).mono ?_
    rintro e w4 ⟨rfl, hb2⟩
    clear HC2 HL2
    go_wp2_with fail
    refine hK.out _ _ (HK.out _ _ hb2 hHeld) (fun hHeld => ?_)
    clear hK K
    try simp only [Act.put, List.setIfInBounds_toArray, List.set_cons_zero, List.set_cons_succ]
    refine wpAnyH_take (i := 4) (oi := { dst := (some 12), op := (Op.unOp UnOp.not 4 (Operand.tmp 11)), type := 4, pos := "law.go:47", after := #[{ on := 3, ground := Ground.data }], guard := none }) (v := ?_) rfl (by kernel_rfl) (by kernel_rfl) (by kernel_rfl) (fun _ _ _ h => h) (Or.inl ⟨by rfl, ?_⟩) hHeld ?_
    rotate_left
    · intro w hSw; (try dsimp only at hSw); go_simp; try with_reducible rfl
    try simp only [Act.put, List.setIfInBounds_toArray, List.set_cons_zero, List.set_cons_succ]
    refine wpAnyH_take (i := 5) (oi := { dst := (some 13), op := (Op.move (Operand.tmp 12)), type := 4, pos := "law.go:47", after := #[{ on := 4, ground := Ground.data }, { on := 3, ground := Ground.chain }], guard := none }) (v := ?_) rfl (by kernel_rfl) (by kernel_rfl) (by kernel_rfl) (fun _ _ _ h => h) (Or.inl ⟨by rfl, ?_⟩) hHeld ?_
    rotate_left
    · intro w hSw; (try dsimp only at hSw); go_simp; try with_reducible rfl
    try simp only [Act.put, List.setIfInBounds_toArray, List.set_cons_zero, List.set_cons_succ]
    refine wpAnyH_take (i := 6) (oi := { dst := (some 14), op := (Op.fieldAddr 24 (Operand.tmp 1) 0), type := 0, pos := "law.go:47", after := #[{ on := 5, ground := Ground.guard }], guard := (some (5, false)) }) (v := ?_) rfl (by kernel_rfl) (by kernel_rfl) (by kernel_rfl) (fun _ _ _ h => h) (Or.inl ⟨by rfl, ?_⟩) hHeld ?_
    rotate_left
    · intro w hSw; (try dsimp only at hSw); go_simp; try with_reducible rfl
    try simp only [Act.put, List.setIfInBounds_toArray, List.set_cons_zero, List.set_cons_succ]
    refine wpAnyH_take (i := 7) (oi := { dst := (some 15), op := (Op.load 3 (Operand.tmp 14)), type := 3, pos := "law.go:47", after := #[{ on := 6, ground := Ground.data }, { on := 5, ground := Ground.guard }], guard := (some (5, false)) }) (v := ?_) rfl (by kernel_rfl) (by kernel_rfl) (by kernel_rfl) (fun _ _ _ h => h) (Or.inl ⟨by rfl, ?_⟩) hHeld ?_
    rotate_left
    · intro w hSw; (try dsimp only at hSw); go_simp; try with_reducible rfl
    try simp only [Act.put, List.setIfInBounds_toArray, List.set_cons_zero, List.set_cons_succ]
    refine wpAnyH_take (i := 8) (oi := { dst := (some 16), op := (Op.binOp BinOp.eql 3 (Operand.tmp 15) (Operand.const (Value.int IntKind.i64 9)) 3), type := 4, pos := "law.go:47", after := #[{ on := 7, ground := Ground.data }, { on := 5, ground := Ground.guard }], guard := (some (5, false)) }) (v := ?_) rfl (by kernel_rfl) (by kernel_rfl) (by kernel_rfl) (fun _ _ _ h => h) (Or.inl ⟨by rfl, ?_⟩) hHeld ?_
    rotate_left
    · intro w hSw; (try dsimp only at hSw); go_simp; try with_reducible rfl
    try simp only [Act.put, List.setIfInBounds_toArray, List.set_cons_zero, List.set_cons_succ]
    refine wpAnyH_take (i := 9) (oi := { dst := (some 17), op := (Op.move (Operand.tmp 16)), type := 4, pos := "law.go:47", after := #[{ on := 8, ground := Ground.data }, { on := 5, ground := Ground.chain }, { on := 5, ground := Ground.guard }], guard := (some (5, false)) }) (v := ?_) rfl (by kernel_rfl) (by kernel_rfl) (by kernel_rfl) (fun _ _ _ h => h) (Or.inl ⟨by rfl, ?_⟩) hHeld ?_
    rotate_left
    · intro w hSw; (try dsimp only at hSw); go_simp; try with_reducible rfl
    try simp only [Act.put, List.setIfInBounds_toArray, List.set_cons_zero, List.set_cons_succ]
    refine wpAnyH_take (i := 10) (oi := { dst := (some 18), op := (Op.load 24 (Operand.tmp 4)), type := 24, pos := "law.go:47", after := #[{ on := 9, ground := Ground.guard }], guard := (some (9, true)) }) (v := ?_) rfl (by kernel_rfl) (by kernel_rfl) (by kernel_rfl) (fun _ _ _ h => h) (Or.inl ⟨by rfl, ?_⟩) hHeld ?_
    rotate_left
    · intro w hSw; (try dsimp only at hSw); go_simp; try with_reducible rfl
    try simp only [Act.put, List.setIfInBounds_toArray, List.set_cons_zero, List.set_cons_succ]
    refine wpAnyH_ready (rs := [11]) (by kernel_rfl) (by simp) ?_
    refine AllReadyH.cons (o := { dst := (some 19), op := (Op.call { callee := (Callee.value (Operand.func 17)), args := #[(Operand.tmp 18)], argTypes := #[24] }), type := 4, pos := "law.go:47", after := #[{ on := 10, ground := Ground.data }, { on := 9, ground := Ground.chain }, { on := 9, ground := Ground.guard }], guard := (some (9, true)) }) rfl (fun K hK => ?_) AllReadyH.nil
    go_simp
    refine (scalar_calls _ _ _ _ _ _ _).mono ?_
    rintro e w5 ⟨rfl, hb2⟩
    go_wp2_with fail
    refine hK.out _ _ (HK.out _ _ hb2 hHeld) (fun hHeld => ?_)
    clear hK K
    try simp only [Act.put, List.setIfInBounds_toArray, List.set_cons_zero, List.set_cons_succ]
    refine wpAnyH_take (i := 12) (oi := { dst := (some 20), op := (Op.unOp UnOp.not 4 (Operand.tmp 19)), type := 4, pos := "law.go:47", after := #[{ on := 11, ground := Ground.data }, { on := 9, ground := Ground.guard }], guard := (some (9, true)) }) (v := ?_) rfl (by kernel_rfl) (by kernel_rfl) (by kernel_rfl) (fun _ _ _ h => h) (Or.inl ⟨by rfl, ?_⟩) hHeld ?_
    rotate_left
    · intro w hSw; (try dsimp only at hSw); go_simp; try with_reducible rfl
    try simp only [Act.put, List.setIfInBounds_toArray, List.set_cons_zero, List.set_cons_succ]
    refine wpAnyH_take (i := 13) (oi := { dst := (some 21), op := (Op.pick (Operand.tmp 17) (Operand.tmp 20) (Operand.const (Value.bool false))), type := 4, pos := "law.go:47", after := #[{ on := 9, ground := Ground.data }, { on := 12, ground := Ground.data }, { on := 5, ground := Ground.guard }], guard := (some (5, false)) }) (v := ?_) rfl (by kernel_rfl) (by kernel_rfl) (by kernel_rfl) (fun _ _ _ h => h) (Or.inl ⟨by rfl, ?_⟩) hHeld ?_
    rotate_left
    · intro w hSw; (try dsimp only at hSw); go_simp; try with_reducible rfl
    try simp only [Act.put, List.setIfInBounds_toArray, List.set_cons_zero, List.set_cons_succ]
    refine wpAnyH_take (i := 14) (oi := { dst := (some 22), op := (Op.pick (Operand.tmp 13) (Operand.const (Value.bool true)) (Operand.tmp 21)), type := 4, pos := "law.go:47", after := #[{ on := 5, ground := Ground.data }, { on := 13, ground := Ground.data }], guard := none }) (v := ?_) rfl (by kernel_rfl) (by kernel_rfl) (by kernel_rfl) (fun _ _ _ h => h) (Or.inl ⟨by rfl, ?_⟩) hHeld ?_
    rotate_left
    · intro w hSw; (try dsimp only at hSw); go_simp; try with_reducible rfl
    try simp only [Act.put, List.setIfInBounds_toArray, List.set_cons_zero, List.set_cons_succ]
    refine wpAnyH_done (by kernel_rfl) ?_ _
    clear hS2x hS2y hS2B
    cases hm : mayT 60 x with
    | true =>
      go_wp2_with (first | (go_at_call 11; refine (same_calls (decayT x) x _ _ _ _ _ (Kd.C_below HC1.out (HQ1.out _ (by assumption))) HL1.out (Kd.C_below HCx.out (HQ.out _ (by assumption))) HLx.out).mono ?_; rintro e w6 ⟨rfl, hb3⟩; have hS3 := HK.out _ _ hb3 (by assumption); clear hb3) | (go_at_call 20; refine (may_calls x A c _ (Kd.C_below HCx.out (HQ.out _ (by assumption))) HLx.out).mono ?_; rintro e w6 ⟨rfl, hb3⟩; have hS3 := HK.out _ _ hb3 (by assumption); clear hb3) | (go_at_call 20; refine (may_calls (decayT x) A1 c1 _ (Kd.C_below HC1.out (HQ1.out _ (by assumption))) HL1.out).mono ?_; rintro e w6 ⟨rfl, hb3⟩; have hS3 := HK.out _ _ hb3 (by assumption); clear hb3))
      go_ret
      exact ⟨rfl, HQ.out _ (by assumption)⟩
    | false =>
      go_wp2_with (first | (go_at_call 11; refine (same_calls (decayT x) x _ _ _ _ _ (Kd.C_below HC1.out (HQ1.out _ (by assumption))) HL1.out (Kd.C_below HCx.out (HQ.out _ (by assumption))) HLx.out).mono ?_; rintro e w6 ⟨rfl, hb3⟩; have hS3 := HK.out _ _ hb3 (by assumption); clear hb3) | (go_at_call 20; refine (may_calls x A c _ (Kd.C_below HCx.out (HQ.out _ (by assumption))) HLx.out).mono ?_; rintro e w6 ⟨rfl, hb3⟩; have hS3 := HK.out _ _ hb3 (by assumption); clear hb3) | (go_at_call 20; refine (may_calls (decayT x) A1 c1 _ (Kd.C_below HC1.out (HQ1.out _ (by assumption))) HL1.out).mono ?_; rintro e w6 ⟨rfl, hb3⟩; have hS3 := HK.out _ _ hb3 (by assumption); clear hb3))
      go_ret
      exact ⟨rfl, HQ.out _ (by assumption)⟩
  | false =>
    go_wp2_with fail
    refine wp_region_held_drew (S := fun w' => (w'.cell? ⟨w.heap.size, 0, none⟩ = some (.int .i64 x.f0) ∧ w'.cell? ⟨w.heap.size, 1, none⟩ = some (.int .i64 x.f1) ∧ w'.cell? ⟨w.heap.size, 2, none⟩ = some (.string x.f2) ∧ w'.cell? ⟨w.heap.size, 3, none⟩ = some (.slice A x.f3.length c)) ∧ (w'.cell? ⟨g, 0, none⟩ = some (.int .i64 (decayT x).f0) ∧ w'.cell? ⟨g, 1, none⟩ = some (.int .i64 (decayT x).f1) ∧ w'.cell? ⟨g, 2, none⟩ = some (.string (decayT x).f2) ∧ w'.cell? ⟨g, 3, none⟩ = some (.slice A1 (decayT x).f3.length c1)) ∧ Below w.heap.size w w' ∧ Below W2.heap.size W2 w') (by kernel_rfl) ⟨hS2x, hS2y, below_drew hS2B, below_drew (Below.refl _ _)⟩ (fun hHeld => ?_)
    refine wpAnyH_take (i := 0) (oi := { dst := (some 8), op := (Op.load 24 (Operand.tmp 4)), type := 24, pos := "law.go:47", after := #[], guard := none }) (v := ?_) rfl (by kernel_rfl) (by kernel_rfl) (by kernel_rfl) (fun _ _ _ h => h) (Or.inl ⟨by rfl, ?_⟩) hHeld ?_
    rotate_left
    · intro w hSw; (try dsimp only at hSw); go_simp; try with_reducible rfl
    try simp only [Act.put, List.setIfInBounds_toArray, List.set_cons_zero, List.set_cons_succ]
    refine wpAnyH_take (i := 2) (oi := { dst := (some 10), op := (Op.load 24 (Operand.tmp 4)), type := 24, pos := "law.go:47", after := #[], guard := none }) (v := ?_) rfl (by kernel_rfl) (by kernel_rfl) (by kernel_rfl) (fun _ _ _ h => h) (Or.inl ⟨by rfl, ?_⟩) hHeld ?_
    rotate_left
    · intro w hSw; (try dsimp only at hSw); go_simp; try with_reducible rfl
    try simp only [Act.put, List.setIfInBounds_toArray, List.set_cons_zero, List.set_cons_succ]
    refine wpAnyH_ready (rs := [1]) (by kernel_rfl) (by simp) ?_
    refine AllReadyH.cons (o := { dst := (some 9), op := (Op.call { callee := (Callee.value (Operand.func 19)), args := #[(Operand.tmp 8)], argTypes := #[24] }), type := 24, pos := "law.go:47", after := #[{ on := 0, ground := Ground.data }], guard := none }) rfl (fun K hK => ?_) AllReadyH.nil
    go_simp
    have hd := decayC (decayT x) A1 c1 _ (Kd.C_below HC1.out (HQ1.out _ hHeld)) HL1.out
    rw [decay_twice] at hd
    refine hd.mono ?_
    clear hd
    rintro e w3 ⟨A2, c2, rfl, hl2, hC2, hb2⟩
    have HC2 := Aside0.mk hC2
    have HL2 := Aside0.mk hl2
    clear hC2 hl2
    go_wp2_with fail
    refine hK.out _ _ (HK.out _ _ hb2 hHeld) (fun hHeld => ?_)
    clear hK K
    try simp only [Act.put, List.setIfInBounds_toArray, List.set_cons_zero, List.set_cons_succ]
    refine wpAnyH_ready (rs := [3]) (by kernel_rfl) (by simp) ?_
    refine AllReadyH.cons (o := { dst := (some 11), op := (Op.call { callee := (Callee.value (Operand.func 11)), args := #[(Operand.tmp 9), (Operand.tmp 10)], argTypes := #[24, 24] }), type := 4, pos := "law.go:47", after := #[{ on := 1, ground := Ground.data }, { on := 2, ground := Ground.data }, { on := 1, ground := Ground.chain }], guard := none }) rfl (fun K hK => ?_) AllReadyH.nil
    go_simp
    refine (same_calls (decayT x) (decayT x) _ _ _ _ _ HC2.out HL2.out (Kd.C_below HC1.out (HQ1.out _ hHeld)) HL1.out).mono ?_
    rintro e w4 ⟨rfl, hb2⟩
    clear HC2 HL2
    go_wp2_with fail
    refine hK.out _ _ (HK.out _ _ hb2 hHeld) (fun hHeld => ?_)
    clear hK K
    try simp only [Act.put, List.setIfInBounds_toArray, List.set_cons_zero, List.set_cons_succ]
    refine wpAnyH_take (i := 4) (oi := { dst := (some 12), op := (Op.unOp UnOp.not 4 (Operand.tmp 11)), type := 4, pos := "law.go:47", after := #[{ on := 3, ground := Ground.data }], guard := none }) (v := ?_) rfl (by kernel_rfl) (by kernel_rfl) (by kernel_rfl) (fun _ _ _ h => h) (Or.inl ⟨by rfl, ?_⟩) hHeld ?_
    rotate_left
    · intro w hSw; (try dsimp only at hSw); go_simp; try with_reducible rfl
    try simp only [Act.put, List.setIfInBounds_toArray, List.set_cons_zero, List.set_cons_succ]
    refine wpAnyH_take (i := 5) (oi := { dst := (some 13), op := (Op.move (Operand.tmp 12)), type := 4, pos := "law.go:47", after := #[{ on := 4, ground := Ground.data }, { on := 3, ground := Ground.chain }], guard := none }) (v := ?_) rfl (by kernel_rfl) (by kernel_rfl) (by kernel_rfl) (fun _ _ _ h => h) (Or.inl ⟨by rfl, ?_⟩) hHeld ?_
    rotate_left
    · intro w hSw; (try dsimp only at hSw); go_simp; try with_reducible rfl
    try simp only [Act.put, List.setIfInBounds_toArray, List.set_cons_zero, List.set_cons_succ]
    refine wpAnyH_take (i := 6) (oi := { dst := (some 14), op := (Op.fieldAddr 24 (Operand.tmp 1) 0), type := 0, pos := "law.go:47", after := #[{ on := 5, ground := Ground.guard }], guard := (some (5, false)) }) (v := ?_) rfl (by kernel_rfl) (by kernel_rfl) (by kernel_rfl) (fun _ _ _ h => h) (Or.inl ⟨by rfl, ?_⟩) hHeld ?_
    rotate_left
    · intro w hSw; (try dsimp only at hSw); go_simp; try with_reducible rfl
    try simp only [Act.put, List.setIfInBounds_toArray, List.set_cons_zero, List.set_cons_succ]
    refine wpAnyH_take (i := 7) (oi := { dst := (some 15), op := (Op.load 3 (Operand.tmp 14)), type := 3, pos := "law.go:47", after := #[{ on := 6, ground := Ground.data }, { on := 5, ground := Ground.guard }], guard := (some (5, false)) }) (v := ?_) rfl (by kernel_rfl) (by kernel_rfl) (by kernel_rfl) (fun _ _ _ h => h) (Or.inl ⟨by rfl, ?_⟩) hHeld ?_
    rotate_left
    · intro w hSw; (try dsimp only at hSw); go_simp; try with_reducible rfl
    try simp only [Act.put, List.setIfInBounds_toArray, List.set_cons_zero, List.set_cons_succ]
    refine wpAnyH_take (i := 8) (oi := { dst := (some 16), op := (Op.binOp BinOp.eql 3 (Operand.tmp 15) (Operand.const (Value.int IntKind.i64 9)) 3), type := 4, pos := "law.go:47", after := #[{ on := 7, ground := Ground.data }, { on := 5, ground := Ground.guard }], guard := (some (5, false)) }) (v := ?_) rfl (by kernel_rfl) (by kernel_rfl) (by kernel_rfl) (fun _ _ _ h => h) (Or.inl ⟨by rfl, ?_⟩) hHeld ?_
    rotate_left
    · intro w hSw; (try dsimp only at hSw); go_simp; try with_reducible rfl
    try simp only [Act.put, List.setIfInBounds_toArray, List.set_cons_zero, List.set_cons_succ]
    refine wpAnyH_take (i := 9) (oi := { dst := (some 17), op := (Op.move (Operand.tmp 16)), type := 4, pos := "law.go:47", after := #[{ on := 8, ground := Ground.data }, { on := 5, ground := Ground.chain }, { on := 5, ground := Ground.guard }], guard := (some (5, false)) }) (v := ?_) rfl (by kernel_rfl) (by kernel_rfl) (by kernel_rfl) (fun _ _ _ h => h) (Or.inl ⟨by rfl, ?_⟩) hHeld ?_
    rotate_left
    · intro w hSw; (try dsimp only at hSw); go_simp; try with_reducible rfl
    try simp only [Act.put, List.setIfInBounds_toArray, List.set_cons_zero, List.set_cons_succ]
    refine wpAnyH_take (i := 10) (oi := { dst := (some 18), op := (Op.load 24 (Operand.tmp 4)), type := 24, pos := "law.go:47", after := #[{ on := 9, ground := Ground.guard }], guard := (some (9, true)) }) rfl (by kernel_rfl) (by kernel_rfl) (by kernel_rfl) (fun _ _ _ h => h) (Or.inr ⟨by rfl, rfl⟩) hHeld ?_
    try simp only [Act.put, List.setIfInBounds_toArray, List.set_cons_zero, List.set_cons_succ]
    refine wpAnyH_take (i := 11) (oi := { dst := (some 19), op := (Op.call { callee := (Callee.value (Operand.func 17)), args := #[(Operand.tmp 18)], argTypes := #[24] }), type := 4, pos := "law.go:47", after := #[{ on := 10, ground := Ground.data }, { on := 9, ground := Ground.chain }, { on := 9, ground := Ground.guard }], guard := (some (9, true)) }) rfl (by kernel_rfl) (by kernel_rfl) (by kernel_rfl) (fun _ _ _ h => h) (Or.inr ⟨by rfl, rfl⟩) hHeld ?_
    try simp only [Act.put, List.setIfInBounds_toArray, List.set_cons_zero, List.set_cons_succ]
    refine wpAnyH_take (i := 12) (oi := { dst := (some 20), op := (Op.unOp UnOp.not 4 (Operand.tmp 19)), type := 4, pos := "law.go:47", after := #[{ on := 11, ground := Ground.data }, { on := 9, ground := Ground.guard }], guard := (some (9, true)) }) rfl (by kernel_rfl) (by kernel_rfl) (by kernel_rfl) (fun _ _ _ h => h) (Or.inr ⟨by rfl, rfl⟩) hHeld ?_
    try simp only [Act.put, List.setIfInBounds_toArray, List.set_cons_zero, List.set_cons_succ]
    refine wpAnyH_take (i := 13) (oi := { dst := (some 21), op := (Op.pick (Operand.tmp 17) (Operand.tmp 20) (Operand.const (Value.bool false))), type := 4, pos := "law.go:47", after := #[{ on := 9, ground := Ground.data }, { on := 12, ground := Ground.data }, { on := 5, ground := Ground.guard }], guard := (some (5, false)) }) (v := ?_) rfl (by kernel_rfl) (by kernel_rfl) (by kernel_rfl) (fun _ _ _ h => h) (Or.inl ⟨by rfl, ?_⟩) hHeld ?_
    rotate_left
    · intro w hSw; (try dsimp only at hSw); go_simp; try with_reducible rfl
    try simp only [Act.put, List.setIfInBounds_toArray, List.set_cons_zero, List.set_cons_succ]
    refine wpAnyH_take (i := 14) (oi := { dst := (some 22), op := (Op.pick (Operand.tmp 13) (Operand.const (Value.bool true)) (Operand.tmp 21)), type := 4, pos := "law.go:47", after := #[{ on := 5, ground := Ground.data }, { on := 13, ground := Ground.data }], guard := none }) (v := ?_) rfl (by kernel_rfl) (by kernel_rfl) (by kernel_rfl) (fun _ _ _ h => h) (Or.inl ⟨by rfl, ?_⟩) hHeld ?_
    rotate_left
    · intro w hSw; (try dsimp only at hSw); go_simp; try with_reducible rfl
    try simp only [Act.put, List.setIfInBounds_toArray, List.set_cons_zero, List.set_cons_succ]
    refine wpAnyH_done (by kernel_rfl) ?_ _
    clear hS2x hS2y hS2B
    have hmy : mayT 60 x = true → mayT 60 (decayT x) = true := mayT_decay x (beq_eq_false_iff_ne.mp h9)
    cases h6 : (x.f0 == 6) with
    | true =>
      cases hm : mayT 60 x with
      | true =>
        have hm2 := hmy hm
        clear hmy
        go_wp2_with (first | (go_at_call 11; refine (same_calls (decayT x) x _ _ _ _ _ (Kd.C_below HC1.out (HQ1.out _ (by assumption))) HL1.out (Kd.C_below HCx.out (HQ.out _ (by assumption))) HLx.out).mono ?_; rintro e w6 ⟨rfl, hb3⟩; have hS3 := HK.out _ _ hb3 (by assumption); clear hb3) | (go_at_call 20; refine (may_calls x A c _ (Kd.C_below HCx.out (HQ.out _ (by assumption))) HLx.out).mono ?_; rintro e w6 ⟨rfl, hb3⟩; have hS3 := HK.out _ _ hb3 (by assumption); clear hb3) | (go_at_call 20; refine (may_calls (decayT x) A1 c1 _ (Kd.C_below HC1.out (HQ1.out _ (by assumption))) HL1.out).mono ?_; rintro e w6 ⟨rfl, hb3⟩; have hS3 := HK.out _ _ hb3 (by assumption); clear hb3))
        go_ret
        exact ⟨rfl, HQ.out _ (by assumption)⟩
      | false =>
        clear hmy
        go_wp2_with (first | (go_at_call 11; refine (same_calls (decayT x) x _ _ _ _ _ (Kd.C_below HC1.out (HQ1.out _ (by assumption))) HL1.out (Kd.C_below HCx.out (HQ.out _ (by assumption))) HLx.out).mono ?_; rintro e w6 ⟨rfl, hb3⟩; have hS3 := HK.out _ _ hb3 (by assumption); clear hb3) | (go_at_call 20; refine (may_calls x A c _ (Kd.C_below HCx.out (HQ.out _ (by assumption))) HLx.out).mono ?_; rintro e w6 ⟨rfl, hb3⟩; have hS3 := HK.out _ _ hb3 (by assumption); clear hb3) | (go_at_call 20; refine (may_calls (decayT x) A1 c1 _ (Kd.C_below HC1.out (HQ1.out _ (by assumption))) HL1.out).mono ?_; rintro e w6 ⟨rfl, hb3⟩; have hS3 := HK.out _ _ hb3 (by assumption); clear hb3))
        go_ret
        exact ⟨rfl, HQ.out _ (by assumption)⟩
    | false =>
      have hsx : sameT (decayT x) x = true := by
        have e6 := beq_eq_false_iff_ne.mp h6
        have e9 := beq_eq_false_iff_ne.mp h9
        unfold decayT
        rw [if_neg (by omega), if_neg e9]
        exact sameT_refl x
      cases hm : mayT 60 x with
      | true =>
        have hm2 := hmy hm
        clear hmy
        go_wp2_with (first | (go_at_call 11; refine (same_calls (decayT x) x _ _ _ _ _ (Kd.C_below HC1.out (HQ1.out _ (by assumption))) HL1.out (Kd.C_below HCx.out (HQ.out _ (by assumption))) HLx.out).mono ?_; rintro e w6 ⟨rfl, hb3⟩; have hS3 := HK.out _ _ hb3 (by assumption); clear hb3) | (go_at_call 20; refine (may_calls x A c _ (Kd.C_below HCx.out (HQ.out _ (by assumption))) HLx.out).mono ?_; rintro e w6 ⟨rfl, hb3⟩; have hS3 := HK.out _ _ hb3 (by assumption); clear hb3) | (go_at_call 20; refine (may_calls (decayT x) A1 c1 _ (Kd.C_below HC1.out (HQ1.out _ (by assumption))) HL1.out).mono ?_; rintro e w6 ⟨rfl, hb3⟩; have hS3 := HK.out _ _ hb3 (by assumption); clear hb3))
        go_ret
        exact ⟨rfl, HQ.out _ (by assumption)⟩
      | false =>
        clear hmy
        go_wp2_with (first | (go_at_call 11; refine (same_calls (decayT x) x _ _ _ _ _ (Kd.C_below HC1.out (HQ1.out _ (by assumption))) HL1.out (Kd.C_below HCx.out (HQ.out _ (by assumption))) HLx.out).mono ?_; rintro e w6 ⟨rfl, hb3⟩; have hS3 := HK.out _ _ hb3 (by assumption); clear hb3) | (go_at_call 20; refine (may_calls x A c _ (Kd.C_below HCx.out (HQ.out _ (by assumption))) HLx.out).mono ?_; rintro e w6 ⟨rfl, hb3⟩; have hS3 := HK.out _ _ hb3 (by assumption); clear hb3) | (go_at_call 20; refine (may_calls (decayT x) A1 c1 _ (Kd.C_below HC1.out (HQ1.out _ (by assumption))) HL1.out).mono ?_; rintro e w6 ⟨rfl, hb3⟩; have hS3 := HK.out _ _ hb3 (by assumption); clear hb3))
        go_ret
        exact ⟨rfl, HQ.out _ (by assumption)⟩
end Go.Proofs.Ytmmgdifjiapbmaa.G
