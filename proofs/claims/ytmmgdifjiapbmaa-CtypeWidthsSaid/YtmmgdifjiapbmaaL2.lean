/- The law CtypeWidths returns true. The arguments read as types. -/
import Derived.Test.YtmmgdifjiapbmaaHl
import Derived.Test.YtmmgdifjiapbmaaHm
import Derived.Test.YtmmgdifjiapbmaaL1
set_option linter.unusedVariables false
set_option linter.unusedSimpArgs false
namespace Go.Proofs.Ytmmgdifjiapbmaa.G
open Go.RowKit Go.Proofs.Ytmmgdifjiapbmaa.B Go.Proofs.YtmmgdifjiapbmaaW.PrintWords Go.Proofs.YtmmgdifjiapbmaaW.PrintLast Go.Proofs.YtmmgdifjiapbmaaW.PrintMore
set_option maxRecDepth 100000 in
set_option maxHeartbeats 8000000 in
theorem CtypeWidths_calls (x : S24) (y : S24) (A : Option Addr) (c : Nat) (B : Option Addr) (d : Nat)  (w : World) (hCx : Kd.C k24 w A x.f3.length x.f3) (hlx : x.f3.length ≤ c) (hCy : Kd.C k24 w B y.f3.length y.f3) (hly : y.f3.length ≤ d)  :
    Calls Try.prog 6 #[.agg #[.int .i64 x.f0, .int .i64 x.f1, .string x.f2, .slice A x.f3.length c], .agg #[.int .i64 y.f0, .int .i64 y.f1, .string y.f2, .slice B y.f3.length d]] w fun e w' => e = .returned (.bool true) ∧ Below w.heap.size w w' := by
  have HCx := Aside0.mk hCx
  have HLx := Aside0.mk hlx
  have HCy := Aside0.mk hCy
  have HLy := Aside0.mk hly
  clear hCx hlx hCy hly
  go_enter Try.func6, Try.ntmps6
  go_wp2_with fail
  have Gx := Aside0.mk (blk_alloc (blk_at_ (W := w) (n := w.heap.size) (Obj.cells #[.int .i64 x.f0, .int .i64 x.f1, .string x.f2, .slice A x.f3.length c] 24) (by simp)) (Obj.cells #[.int .i64 y.f0, .int .i64 y.f1, .string y.f2, .slice B y.f3.length d] 24))
  have Gy := Aside0.mk (blk_at_ (W := (w.alloc (Obj.cells #[.int .i64 x.f0, .int .i64 x.f1, .string x.f2, .slice A x.f3.length c] 24))) (n := w.heap.size + 1) (Obj.cells #[.int .i64 y.f0, .int .i64 y.f1, .string y.f2, .slice B y.f3.length d] 24) (by simp))
  have GB := Aside0.mk (show Below w.heap.size w ((w.alloc (Obj.cells #[.int .i64 x.f0, .int .i64 x.f1, .string x.f2, .slice A x.f3.length c] 24)).alloc (Obj.cells #[.int .i64 y.f0, .int .i64 y.f1, .string y.f2, .slice B y.f3.length d] 24)) from (((Below.refl _ _).alloc (by simp) _).alloc (by simp) _))
  generalize ((w.alloc (Obj.cells #[.int .i64 x.f0, .int .i64 x.f1, .string x.f2, .slice A x.f3.length c] 24)).alloc (Obj.cells #[.int .i64 y.f0, .int .i64 y.f1, .string y.f2, .slice B y.f3.length d] 24)) = W at Gx Gy GB ⊢
  refine (shown_calls W).mono ?_
  rintro e w1 ⟨rfl, hb1⟩
  have hSx := cell4 (blk_below Gx.out hb1)
  have hSy := cell4 (blk_below Gy.out hb1)
  have hSB := below_step GB.out hb1
  have G1x := Aside0.mk (blk_below Gx.out hb1)
  have G1y := Aside0.mk (blk_below Gy.out hb1)
  clear Gx Gy GB hb1
  have HQ := Aside0.mk (show ∀ W2 : World, ((W2.cell? ⟨w.heap.size, 0, none⟩ = some (.int .i64 x.f0) ∧ W2.cell? ⟨w.heap.size, 1, none⟩ = some (.int .i64 x.f1) ∧ W2.cell? ⟨w.heap.size, 2, none⟩ = some (.string x.f2) ∧ W2.cell? ⟨w.heap.size, 3, none⟩ = some (.slice A x.f3.length c)) ∧ (W2.cell? ⟨w.heap.size + 1, 0, none⟩ = some (.int .i64 y.f0) ∧ W2.cell? ⟨w.heap.size + 1, 1, none⟩ = some (.int .i64 y.f1) ∧ W2.cell? ⟨w.heap.size + 1, 2, none⟩ = some (.string y.f2) ∧ W2.cell? ⟨w.heap.size + 1, 3, none⟩ = some (.slice B y.f3.length d)) ∧ Below w.heap.size w W2) → Below w.heap.size w W2 from fun _ h => h.2.2)
  have HK := Aside0.mk (show ∀ W2 W3 : World, Below W2.heap.size W2 W3 → ((W2.cell? ⟨w.heap.size, 0, none⟩ = some (.int .i64 x.f0) ∧ W2.cell? ⟨w.heap.size, 1, none⟩ = some (.int .i64 x.f1) ∧ W2.cell? ⟨w.heap.size, 2, none⟩ = some (.string x.f2) ∧ W2.cell? ⟨w.heap.size, 3, none⟩ = some (.slice A x.f3.length c)) ∧ (W2.cell? ⟨w.heap.size + 1, 0, none⟩ = some (.int .i64 y.f0) ∧ W2.cell? ⟨w.heap.size + 1, 1, none⟩ = some (.int .i64 y.f1) ∧ W2.cell? ⟨w.heap.size + 1, 2, none⟩ = some (.string y.f2) ∧ W2.cell? ⟨w.heap.size + 1, 3, none⟩ = some (.slice B y.f3.length d)) ∧ Below w.heap.size w W2) → ((W3.cell? ⟨w.heap.size, 0, none⟩ = some (.int .i64 x.f0) ∧ W3.cell? ⟨w.heap.size, 1, none⟩ = some (.int .i64 x.f1) ∧ W3.cell? ⟨w.heap.size, 2, none⟩ = some (.string x.f2) ∧ W3.cell? ⟨w.heap.size, 3, none⟩ = some (.slice A x.f3.length c)) ∧ (W3.cell? ⟨w.heap.size + 1, 0, none⟩ = some (.int .i64 y.f0) ∧ W3.cell? ⟨w.heap.size + 1, 1, none⟩ = some (.int .i64 y.f1) ∧ W3.cell? ⟨w.heap.size + 1, 2, none⟩ = some (.string y.f2) ∧ W3.cell? ⟨w.heap.size + 1, 3, none⟩ = some (.slice B y.f3.length d)) ∧ Below w.heap.size w W3) from fun _ _ hb h => ⟨box_step h.1 hb, box_step h.2.1 hb, below_step h.2.2 hb⟩)
  cases hn : isNum x.f0 with
  | true =>
    have hs := num_sc _ hn
    have hw : decide (0 < widthT x.f0) = true := by rw [width_sc]; exact hs
    have h5 : (x.f0 != 5) = true := bne_iff_ne.mpr (by simp [isNum] at hn; omega)
    cases hy : isNum y.f0 with
    | true =>
      have hf := fits_num x y hn hy
      go_wp2_with fail
      refine wp_region_held_drew (S := fun w' => (w'.cell? ⟨w.heap.size, 0, none⟩ = some (.int .i64 x.f0) ∧ w'.cell? ⟨w.heap.size, 1, none⟩ = some (.int .i64 x.f1) ∧ w'.cell? ⟨w.heap.size, 2, none⟩ = some (.string x.f2) ∧ w'.cell? ⟨w.heap.size, 3, none⟩ = some (.slice A x.f3.length c)) ∧ (w'.cell? ⟨w.heap.size + 1, 0, none⟩ = some (.int .i64 y.f0) ∧ w'.cell? ⟨w.heap.size + 1, 1, none⟩ = some (.int .i64 y.f1) ∧ w'.cell? ⟨w.heap.size + 1, 2, none⟩ = some (.string y.f2) ∧ w'.cell? ⟨w.heap.size + 1, 3, none⟩ = some (.slice B y.f3.length d)) ∧ Below w.heap.size w w') (by kernel_rfl) ⟨hSx, hSy, below_drew hSB⟩ (fun hHeld => ?_)
      refine wpAnyH_take (i := 0) (oi := { dst := (some 7), op := (Op.load 24 (Operand.tmp 2)), type := 24, pos := "law.go:56", after := #[], guard := none }) (v := ?_) rfl (by kernel_rfl) (by kernel_rfl) (by kernel_rfl) (fun _ _ _ h => h) (Or.inl ⟨by rfl, ?_⟩) hHeld ?_
      rotate_left
      · intro w hSw; (try dsimp only at hSw); go_simp; try with_reducible rfl
      try simp only [Act.put, List.setIfInBounds_toArray, List.set_cons_zero, List.set_cons_succ]
      refine wpAnyH_take (i := 3) (oi := { dst := (some 10), op := (Op.load 24 (Operand.tmp 2)), type := 24, pos := "law.go:56", after := #[], guard := none }) (v := ?_) rfl (by kernel_rfl) (by kernel_rfl) (by kernel_rfl) (fun _ _ _ h => h) (Or.inl ⟨by rfl, ?_⟩) hHeld ?_
      rotate_left
      · intro w hSw; (try dsimp only at hSw); go_simp; try with_reducible rfl
      try simp only [Act.put, List.setIfInBounds_toArray, List.set_cons_zero, List.set_cons_succ]
      refine wpAnyH_ready (rs := [1]) (by kernel_rfl) (by simp) ?_
      refine AllReadyH.cons (o := { dst := (some 8), op := (Op.call { callee := (Callee.value (Operand.func 18)), args := #[(Operand.tmp 7)], argTypes := #[24] }), type := 3, pos := "law.go:56", after := #[{ on := 0, ground := Ground.data }], guard := none }) rfl (fun K hK => ?_) AllReadyH.nil
      go_simp
      refine (width_calls _ _ _ _ _ _ _).mono ?_
      rintro e w2 ⟨rfl, hb2⟩
      go_wp2_with fail
      refine hK.out _ _ (HK.out _ _ hb2 hHeld) (fun hHeld => ?_)
      clear hK K
      try simp only [Act.put, List.setIfInBounds_toArray, List.set_cons_zero, List.set_cons_succ]
      refine wpAnyH_take (i := 2) (oi := { dst := (some 9), op := (Op.binOp BinOp.gtr 3 (Operand.tmp 8) (Operand.const (Value.int IntKind.i64 0)) 3), type := 4, pos := "law.go:56", after := #[{ on := 1, ground := Ground.data }], guard := none }) (v := ?_) rfl (by kernel_rfl) (by kernel_rfl) (by kernel_rfl) (fun _ _ _ h => h) (Or.inl ⟨by rfl, ?_⟩) hHeld ?_
      rotate_left
      · intro w hSw; (try dsimp only at hSw); go_simp; try with_reducible rfl
      try simp only [Act.put, List.setIfInBounds_toArray, List.set_cons_zero, List.set_cons_succ]
      refine wpAnyH_ready (rs := [4]) (by kernel_rfl) (by simp) ?_
      refine AllReadyH.cons (o := { dst := (some 11), op := (Op.call { callee := (Callee.value (Operand.func 17)), args := #[(Operand.tmp 10)], argTypes := #[24] }), type := 4, pos := "law.go:56", after := #[{ on := 3, ground := Ground.data }, { on := 1, ground := Ground.chain }], guard := none }) rfl (fun K hK => ?_) AllReadyH.nil
      go_simp
      refine (scalar_calls _ _ _ _ _ _ _).mono ?_
      rintro e w2 ⟨rfl, hb2⟩
      go_wp2_with fail
      refine hK.out _ _ (HK.out _ _ hb2 hHeld) (fun hHeld => ?_)
      clear hK K
      try simp only [Act.put, List.setIfInBounds_toArray, List.set_cons_zero, List.set_cons_succ]
      refine wpAnyH_take (i := 5) (oi := { dst := (some 12), op := (Op.binOp BinOp.neq 4 (Operand.tmp 9) (Operand.tmp 11) 4), type := 4, pos := "law.go:56", after := #[{ on := 2, ground := Ground.data }, { on := 4, ground := Ground.data }], guard := none }) (v := ?_) rfl (by kernel_rfl) (by kernel_rfl) (by kernel_rfl) (fun _ _ _ h => h) (Or.inl ⟨by rfl, ?_⟩) hHeld ?_
      rotate_left
      · intro w hSw; (try dsimp only at hSw); go_simp; try with_reducible rfl
      try simp only [Act.put, List.setIfInBounds_toArray, List.set_cons_zero, List.set_cons_succ]
      refine wpAnyH_take (i := 6) (oi := { dst := (some 13), op := (Op.move (Operand.tmp 12)), type := 4, pos := "law.go:56", after := #[{ on := 5, ground := Ground.data }, { on := 4, ground := Ground.chain }], guard := none }) (v := ?_) rfl (by kernel_rfl) (by kernel_rfl) (by kernel_rfl) (fun _ _ _ h => h) (Or.inl ⟨by rfl, ?_⟩) hHeld ?_
      rotate_left
      · intro w hSw; (try dsimp only at hSw); go_simp; try with_reducible rfl
      try simp only [Act.put, List.setIfInBounds_toArray, List.set_cons_zero, List.set_cons_succ]
      refine wpAnyH_take (i := 7) (oi := { dst := (some 14), op := (Op.load 24 (Operand.tmp 2)), type := 24, pos := "law.go:56", after := #[{ on := 6, ground := Ground.guard }], guard := (some (6, false)) }) (v := ?_) rfl (by kernel_rfl) (by kernel_rfl) (by kernel_rfl) (fun _ _ _ h => h) (Or.inl ⟨by rfl, ?_⟩) hHeld ?_
      rotate_left
      · intro w hSw; (try dsimp only at hSw); go_simp; try with_reducible rfl
      try simp only [Act.put, List.setIfInBounds_toArray, List.set_cons_zero, List.set_cons_succ]
      refine wpAnyH_ready (rs := [8]) (by kernel_rfl) (by simp) ?_
      refine AllReadyH.cons (o := { dst := (some 15), op := (Op.call { callee := (Callee.value (Operand.func 16)), args := #[(Operand.tmp 14)], argTypes := #[24] }), type := 4, pos := "law.go:56", after := #[{ on := 7, ground := Ground.data }, { on := 6, ground := Ground.chain }, { on := 6, ground := Ground.guard }], guard := (some (6, false)) }) rfl (fun K hK => ?_) AllReadyH.nil
      go_simp
      refine (number_calls _ _ _ _ _ _ _).mono ?_
      rintro e w2 ⟨rfl, hb2⟩
      go_wp2_with fail
      refine hK.out _ _ (HK.out _ _ hb2 hHeld) (fun hHeld => ?_)
      clear hK K
      try simp only [Act.put, List.setIfInBounds_toArray, List.set_cons_zero, List.set_cons_succ]
      refine wpAnyH_take (i := 9) (oi := { dst := (some 16), op := (Op.move (Operand.tmp 15)), type := 4, pos := "law.go:56", after := #[{ on := 8, ground := Ground.data }, { on := 8, ground := Ground.chain }, { on := 6, ground := Ground.guard }], guard := (some (6, false)) }) (v := ?_) rfl (by kernel_rfl) (by kernel_rfl) (by kernel_rfl) (fun _ _ _ h => h) (Or.inl ⟨by rfl, ?_⟩) hHeld ?_
      rotate_left
      · intro w hSw; (try dsimp only at hSw); go_simp; try with_reducible rfl
      try simp only [Act.put, List.setIfInBounds_toArray, List.set_cons_zero, List.set_cons_succ]
      refine wpAnyH_take (i := 10) (oi := { dst := (some 17), op := (Op.load 24 (Operand.tmp 2)), type := 24, pos := "law.go:56", after := #[{ on := 9, ground := Ground.guard }], guard := (some (9, true)) }) (v := ?_) rfl (by kernel_rfl) (by kernel_rfl) (by kernel_rfl) (fun _ _ _ h => h) (Or.inl ⟨by rfl, ?_⟩) hHeld ?_
      rotate_left
      · intro w hSw; (try dsimp only at hSw); go_simp; try with_reducible rfl
      try simp only [Act.put, List.setIfInBounds_toArray, List.set_cons_zero, List.set_cons_succ]
      refine wpAnyH_ready (rs := [11]) (by kernel_rfl) (by simp) ?_
      refine AllReadyH.cons (o := { dst := (some 18), op := (Op.call { callee := (Callee.value (Operand.func 17)), args := #[(Operand.tmp 17)], argTypes := #[24] }), type := 4, pos := "law.go:56", after := #[{ on := 10, ground := Ground.data }, { on := 9, ground := Ground.chain }, { on := 9, ground := Ground.guard }], guard := (some (9, true)) }) rfl (fun K hK => ?_) AllReadyH.nil
      go_simp
      refine (scalar_calls _ _ _ _ _ _ _).mono ?_
      rintro e w2 ⟨rfl, hb2⟩
      go_wp2_with fail
      refine hK.out _ _ (HK.out _ _ hb2 hHeld) (fun hHeld => ?_)
      clear hK K
      try simp only [Act.put, List.setIfInBounds_toArray, List.set_cons_zero, List.set_cons_succ]
      refine wpAnyH_take (i := 12) (oi := { dst := (some 19), op := (Op.unOp UnOp.not 4 (Operand.tmp 18)), type := 4, pos := "law.go:56", after := #[{ on := 11, ground := Ground.data }, { on := 9, ground := Ground.guard }], guard := (some (9, true)) }) (v := ?_) rfl (by kernel_rfl) (by kernel_rfl) (by kernel_rfl) (fun _ _ _ h => h) (Or.inl ⟨by rfl, ?_⟩) hHeld ?_
      rotate_left
      · intro w hSw; (try dsimp only at hSw); go_simp; try with_reducible rfl
      try simp only [Act.put, List.setIfInBounds_toArray, List.set_cons_zero, List.set_cons_succ]
      refine wpAnyH_take (i := 13) (oi := { dst := (some 20), op := (Op.pick (Operand.tmp 16) (Operand.tmp 19) (Operand.const (Value.bool false))), type := 4, pos := "law.go:56", after := #[{ on := 9, ground := Ground.data }, { on := 12, ground := Ground.data }, { on := 6, ground := Ground.guard }], guard := (some (6, false)) }) (v := ?_) rfl (by kernel_rfl) (by kernel_rfl) (by kernel_rfl) (fun _ _ _ h => h) (Or.inl ⟨by rfl, ?_⟩) hHeld ?_
      rotate_left
      · intro w hSw; (try dsimp only at hSw); go_simp; try with_reducible rfl
      try simp only [Act.put, List.setIfInBounds_toArray, List.set_cons_zero, List.set_cons_succ]
      refine wpAnyH_take (i := 14) (oi := { dst := (some 21), op := (Op.pick (Operand.tmp 13) (Operand.const (Value.bool true)) (Operand.tmp 20)), type := 4, pos := "law.go:56", after := #[{ on := 6, ground := Ground.data }, { on := 13, ground := Ground.data }], guard := none }) (v := ?_) rfl (by kernel_rfl) (by kernel_rfl) (by kernel_rfl) (fun _ _ _ h => h) (Or.inl ⟨by rfl, ?_⟩) hHeld ?_
      rotate_left
      · intro w hSw; (try dsimp only at hSw); go_simp; try with_reducible rfl
      try simp only [Act.put, List.setIfInBounds_toArray, List.set_cons_zero, List.set_cons_succ]
      refine wpAnyH_done (by kernel_rfl) ?_ _
      clear hSx hSy hSB
      go_wp2_with (first | (go_at_call 16; refine (number_calls _ _ _ _ _ _ _).mono ?_; rintro e w3 ⟨rfl, hb3⟩; have hS3 := HK.out _ _ hb3 (by assumption); clear hb3) | (go_at_call 13; refine (fits_calls x y _ _ _ _ _ _ (Kd.C_below HCx.out (HQ.out _ (by assumption))) HLx.out (Kd.C_below HCy.out (HQ.out _ (by assumption))) HLy.out).mono ?_; rintro e w3 ⟨rfl, hb3⟩; have hS3 := HK.out _ _ hb3 (by assumption); clear hb3))
      go_ret
      exact ⟨rfl, HQ.out _ (by assumption)⟩
    | false =>
      go_wp2_with fail
      refine wp_region_held_drew (S := fun w' => (w'.cell? ⟨w.heap.size, 0, none⟩ = some (.int .i64 x.f0) ∧ w'.cell? ⟨w.heap.size, 1, none⟩ = some (.int .i64 x.f1) ∧ w'.cell? ⟨w.heap.size, 2, none⟩ = some (.string x.f2) ∧ w'.cell? ⟨w.heap.size, 3, none⟩ = some (.slice A x.f3.length c)) ∧ (w'.cell? ⟨w.heap.size + 1, 0, none⟩ = some (.int .i64 y.f0) ∧ w'.cell? ⟨w.heap.size + 1, 1, none⟩ = some (.int .i64 y.f1) ∧ w'.cell? ⟨w.heap.size + 1, 2, none⟩ = some (.string y.f2) ∧ w'.cell? ⟨w.heap.size + 1, 3, none⟩ = some (.slice B y.f3.length d)) ∧ Below w.heap.size w w') (by kernel_rfl) ⟨hSx, hSy, below_drew hSB⟩ (fun hHeld => ?_)
      refine wpAnyH_take (i := 0) (oi := { dst := (some 7), op := (Op.load 24 (Operand.tmp 2)), type := 24, pos := "law.go:56", after := #[], guard := none }) (v := ?_) rfl (by kernel_rfl) (by kernel_rfl) (by kernel_rfl) (fun _ _ _ h => h) (Or.inl ⟨by rfl, ?_⟩) hHeld ?_
      rotate_left
      · intro w hSw; (try dsimp only at hSw); go_simp; try with_reducible rfl
      try simp only [Act.put, List.setIfInBounds_toArray, List.set_cons_zero, List.set_cons_succ]
      refine wpAnyH_take (i := 3) (oi := { dst := (some 10), op := (Op.load 24 (Operand.tmp 2)), type := 24, pos := "law.go:56", after := #[], guard := none }) (v := ?_) rfl (by kernel_rfl) (by kernel_rfl) (by kernel_rfl) (fun _ _ _ h => h) (Or.inl ⟨by rfl, ?_⟩) hHeld ?_
      rotate_left
      · intro w hSw; (try dsimp only at hSw); go_simp; try with_reducible rfl
      try simp only [Act.put, List.setIfInBounds_toArray, List.set_cons_zero, List.set_cons_succ]
      refine wpAnyH_ready (rs := [1]) (by kernel_rfl) (by simp) ?_
      refine AllReadyH.cons (o := { dst := (some 8), op := (Op.call { callee := (Callee.value (Operand.func 18)), args := #[(Operand.tmp 7)], argTypes := #[24] }), type := 3, pos := "law.go:56", after := #[{ on := 0, ground := Ground.data }], guard := none }) rfl (fun K hK => ?_) AllReadyH.nil
      go_simp
      refine (width_calls _ _ _ _ _ _ _).mono ?_
      rintro e w2 ⟨rfl, hb2⟩
      go_wp2_with fail
      refine hK.out _ _ (HK.out _ _ hb2 hHeld) (fun hHeld => ?_)
      clear hK K
      try simp only [Act.put, List.setIfInBounds_toArray, List.set_cons_zero, List.set_cons_succ]
      refine wpAnyH_take (i := 2) (oi := { dst := (some 9), op := (Op.binOp BinOp.gtr 3 (Operand.tmp 8) (Operand.const (Value.int IntKind.i64 0)) 3), type := 4, pos := "law.go:56", after := #[{ on := 1, ground := Ground.data }], guard := none }) (v := ?_) rfl (by kernel_rfl) (by kernel_rfl) (by kernel_rfl) (fun _ _ _ h => h) (Or.inl ⟨by rfl, ?_⟩) hHeld ?_
      rotate_left
      · intro w hSw; (try dsimp only at hSw); go_simp; try with_reducible rfl
      try simp only [Act.put, List.setIfInBounds_toArray, List.set_cons_zero, List.set_cons_succ]
      refine wpAnyH_ready (rs := [4]) (by kernel_rfl) (by simp) ?_
      refine AllReadyH.cons (o := { dst := (some 11), op := (Op.call { callee := (Callee.value (Operand.func 17)), args := #[(Operand.tmp 10)], argTypes := #[24] }), type := 4, pos := "law.go:56", after := #[{ on := 3, ground := Ground.data }, { on := 1, ground := Ground.chain }], guard := none }) rfl (fun K hK => ?_) AllReadyH.nil
      go_simp
      refine (scalar_calls _ _ _ _ _ _ _).mono ?_
      rintro e w2 ⟨rfl, hb2⟩
      go_wp2_with fail
      refine hK.out _ _ (HK.out _ _ hb2 hHeld) (fun hHeld => ?_)
      clear hK K
      try simp only [Act.put, List.setIfInBounds_toArray, List.set_cons_zero, List.set_cons_succ]
      refine wpAnyH_take (i := 5) (oi := { dst := (some 12), op := (Op.binOp BinOp.neq 4 (Operand.tmp 9) (Operand.tmp 11) 4), type := 4, pos := "law.go:56", after := #[{ on := 2, ground := Ground.data }, { on := 4, ground := Ground.data }], guard := none }) (v := ?_) rfl (by kernel_rfl) (by kernel_rfl) (by kernel_rfl) (fun _ _ _ h => h) (Or.inl ⟨by rfl, ?_⟩) hHeld ?_
      rotate_left
      · intro w hSw; (try dsimp only at hSw); go_simp; try with_reducible rfl
      try simp only [Act.put, List.setIfInBounds_toArray, List.set_cons_zero, List.set_cons_succ]
      refine wpAnyH_take (i := 6) (oi := { dst := (some 13), op := (Op.move (Operand.tmp 12)), type := 4, pos := "law.go:56", after := #[{ on := 5, ground := Ground.data }, { on := 4, ground := Ground.chain }], guard := none }) (v := ?_) rfl (by kernel_rfl) (by kernel_rfl) (by kernel_rfl) (fun _ _ _ h => h) (Or.inl ⟨by rfl, ?_⟩) hHeld ?_
      rotate_left
      · intro w hSw; (try dsimp only at hSw); go_simp; try with_reducible rfl
      try simp only [Act.put, List.setIfInBounds_toArray, List.set_cons_zero, List.set_cons_succ]
      refine wpAnyH_take (i := 7) (oi := { dst := (some 14), op := (Op.load 24 (Operand.tmp 2)), type := 24, pos := "law.go:56", after := #[{ on := 6, ground := Ground.guard }], guard := (some (6, false)) }) (v := ?_) rfl (by kernel_rfl) (by kernel_rfl) (by kernel_rfl) (fun _ _ _ h => h) (Or.inl ⟨by rfl, ?_⟩) hHeld ?_
      rotate_left
      · intro w hSw; (try dsimp only at hSw); go_simp; try with_reducible rfl
      try simp only [Act.put, List.setIfInBounds_toArray, List.set_cons_zero, List.set_cons_succ]
      refine wpAnyH_ready (rs := [8]) (by kernel_rfl) (by simp) ?_
      refine AllReadyH.cons (o := { dst := (some 15), op := (Op.call { callee := (Callee.value (Operand.func 16)), args := #[(Operand.tmp 14)], argTypes := #[24] }), type := 4, pos := "law.go:56", after := #[{ on := 7, ground := Ground.data }, { on := 6, ground := Ground.chain }, { on := 6, ground := Ground.guard }], guard := (some (6, false)) }) rfl (fun K hK => ?_) AllReadyH.nil
      go_simp
      refine (number_calls _ _ _ _ _ _ _).mono ?_
      rintro e w2 ⟨rfl, hb2⟩
      go_wp2_with fail
      refine hK.out _ _ (HK.out _ _ hb2 hHeld) (fun hHeld => ?_)
      clear hK K
      try simp only [Act.put, List.setIfInBounds_toArray, List.set_cons_zero, List.set_cons_succ]
      refine wpAnyH_take (i := 9) (oi := { dst := (some 16), op := (Op.move (Operand.tmp 15)), type := 4, pos := "law.go:56", after := #[{ on := 8, ground := Ground.data }, { on := 8, ground := Ground.chain }, { on := 6, ground := Ground.guard }], guard := (some (6, false)) }) (v := ?_) rfl (by kernel_rfl) (by kernel_rfl) (by kernel_rfl) (fun _ _ _ h => h) (Or.inl ⟨by rfl, ?_⟩) hHeld ?_
      rotate_left
      · intro w hSw; (try dsimp only at hSw); go_simp; try with_reducible rfl
      try simp only [Act.put, List.setIfInBounds_toArray, List.set_cons_zero, List.set_cons_succ]
      refine wpAnyH_take (i := 10) (oi := { dst := (some 17), op := (Op.load 24 (Operand.tmp 2)), type := 24, pos := "law.go:56", after := #[{ on := 9, ground := Ground.guard }], guard := (some (9, true)) }) (v := ?_) rfl (by kernel_rfl) (by kernel_rfl) (by kernel_rfl) (fun _ _ _ h => h) (Or.inl ⟨by rfl, ?_⟩) hHeld ?_
      rotate_left
      · intro w hSw; (try dsimp only at hSw); go_simp; try with_reducible rfl
      try simp only [Act.put, List.setIfInBounds_toArray, List.set_cons_zero, List.set_cons_succ]
      refine wpAnyH_ready (rs := [11]) (by kernel_rfl) (by simp) ?_
      refine AllReadyH.cons (o := { dst := (some 18), op := (Op.call { callee := (Callee.value (Operand.func 17)), args := #[(Operand.tmp 17)], argTypes := #[24] }), type := 4, pos := "law.go:56", after := #[{ on := 10, ground := Ground.data }, { on := 9, ground := Ground.chain }, { on := 9, ground := Ground.guard }], guard := (some (9, true)) }) rfl (fun K hK => ?_) AllReadyH.nil
      go_simp
      refine (scalar_calls _ _ _ _ _ _ _).mono ?_
      rintro e w2 ⟨rfl, hb2⟩
      go_wp2_with fail
      refine hK.out _ _ (HK.out _ _ hb2 hHeld) (fun hHeld => ?_)
      clear hK K
      try simp only [Act.put, List.setIfInBounds_toArray, List.set_cons_zero, List.set_cons_succ]
      refine wpAnyH_take (i := 12) (oi := { dst := (some 19), op := (Op.unOp UnOp.not 4 (Operand.tmp 18)), type := 4, pos := "law.go:56", after := #[{ on := 11, ground := Ground.data }, { on := 9, ground := Ground.guard }], guard := (some (9, true)) }) (v := ?_) rfl (by kernel_rfl) (by kernel_rfl) (by kernel_rfl) (fun _ _ _ h => h) (Or.inl ⟨by rfl, ?_⟩) hHeld ?_
      rotate_left
      · intro w hSw; (try dsimp only at hSw); go_simp; try with_reducible rfl
      try simp only [Act.put, List.setIfInBounds_toArray, List.set_cons_zero, List.set_cons_succ]
      refine wpAnyH_take (i := 13) (oi := { dst := (some 20), op := (Op.pick (Operand.tmp 16) (Operand.tmp 19) (Operand.const (Value.bool false))), type := 4, pos := "law.go:56", after := #[{ on := 9, ground := Ground.data }, { on := 12, ground := Ground.data }, { on := 6, ground := Ground.guard }], guard := (some (6, false)) }) (v := ?_) rfl (by kernel_rfl) (by kernel_rfl) (by kernel_rfl) (fun _ _ _ h => h) (Or.inl ⟨by rfl, ?_⟩) hHeld ?_
      rotate_left
      · intro w hSw; (try dsimp only at hSw); go_simp; try with_reducible rfl
      try simp only [Act.put, List.setIfInBounds_toArray, List.set_cons_zero, List.set_cons_succ]
      refine wpAnyH_take (i := 14) (oi := { dst := (some 21), op := (Op.pick (Operand.tmp 13) (Operand.const (Value.bool true)) (Operand.tmp 20)), type := 4, pos := "law.go:56", after := #[{ on := 6, ground := Ground.data }, { on := 13, ground := Ground.data }], guard := none }) (v := ?_) rfl (by kernel_rfl) (by kernel_rfl) (by kernel_rfl) (fun _ _ _ h => h) (Or.inl ⟨by rfl, ?_⟩) hHeld ?_
      rotate_left
      · intro w hSw; (try dsimp only at hSw); go_simp; try with_reducible rfl
      try simp only [Act.put, List.setIfInBounds_toArray, List.set_cons_zero, List.set_cons_succ]
      refine wpAnyH_done (by kernel_rfl) ?_ _
      clear hSx hSy hSB
      go_wp2_with (first | (go_at_call 16; refine (number_calls _ _ _ _ _ _ _).mono ?_; rintro e w3 ⟨rfl, hb3⟩; have hS3 := HK.out _ _ hb3 (by assumption); clear hb3) | (go_at_call 13; refine (fits_calls x y _ _ _ _ _ _ (Kd.C_below HCx.out (HQ.out _ (by assumption))) HLx.out (Kd.C_below HCy.out (HQ.out _ (by assumption))) HLy.out).mono ?_; rintro e w3 ⟨rfl, hb3⟩; have hS3 := HK.out _ _ hb3 (by assumption); clear hb3))
      go_ret
      exact ⟨rfl, HQ.out _ (by assumption)⟩
  | false =>
    by_cases k5 : x.f0 = 5
    · have hf := fits_zero x y k5
      have hs : isSc x.f0 = true := by rw [k5]; rfl
      have hw : decide (0 < widthT x.f0) = true := by rw [width_sc]; exact hs
      have h5 : (x.f0 != 5) = false := bne_eq_false_iff_eq.mpr k5
      clear k5
      go_wp2_with fail
      refine wp_region_held_drew (S := fun w' => (w'.cell? ⟨w.heap.size, 0, none⟩ = some (.int .i64 x.f0) ∧ w'.cell? ⟨w.heap.size, 1, none⟩ = some (.int .i64 x.f1) ∧ w'.cell? ⟨w.heap.size, 2, none⟩ = some (.string x.f2) ∧ w'.cell? ⟨w.heap.size, 3, none⟩ = some (.slice A x.f3.length c)) ∧ (w'.cell? ⟨w.heap.size + 1, 0, none⟩ = some (.int .i64 y.f0) ∧ w'.cell? ⟨w.heap.size + 1, 1, none⟩ = some (.int .i64 y.f1) ∧ w'.cell? ⟨w.heap.size + 1, 2, none⟩ = some (.string y.f2) ∧ w'.cell? ⟨w.heap.size + 1, 3, none⟩ = some (.slice B y.f3.length d)) ∧ Below w.heap.size w w') (by kernel_rfl) ⟨hSx, hSy, below_drew hSB⟩ (fun hHeld => ?_)
      refine wpAnyH_take (i := 0) (oi := { dst := (some 7), op := (Op.load 24 (Operand.tmp 2)), type := 24, pos := "law.go:56", after := #[], guard := none }) (v := ?_) rfl (by kernel_rfl) (by kernel_rfl) (by kernel_rfl) (fun _ _ _ h => h) (Or.inl ⟨by rfl, ?_⟩) hHeld ?_
      rotate_left
      · intro w hSw; (try dsimp only at hSw); go_simp; try with_reducible rfl
      try simp only [Act.put, List.setIfInBounds_toArray, List.set_cons_zero, List.set_cons_succ]
      refine wpAnyH_take (i := 3) (oi := { dst := (some 10), op := (Op.load 24 (Operand.tmp 2)), type := 24, pos := "law.go:56", after := #[], guard := none }) (v := ?_) rfl (by kernel_rfl) (by kernel_rfl) (by kernel_rfl) (fun _ _ _ h => h) (Or.inl ⟨by rfl, ?_⟩) hHeld ?_
      rotate_left
      · intro w hSw; (try dsimp only at hSw); go_simp; try with_reducible rfl
      try simp only [Act.put, List.setIfInBounds_toArray, List.set_cons_zero, List.set_cons_succ]
      refine wpAnyH_ready (rs := [1]) (by kernel_rfl) (by simp) ?_
      refine AllReadyH.cons (o := { dst := (some 8), op := (Op.call { callee := (Callee.value (Operand.func 18)), args := #[(Operand.tmp 7)], argTypes := #[24] }), type := 3, pos := "law.go:56", after := #[{ on := 0, ground := Ground.data }], guard := none }) rfl (fun K hK => ?_) AllReadyH.nil
      go_simp
      refine (width_calls _ _ _ _ _ _ _).mono ?_
      rintro e w2 ⟨rfl, hb2⟩
      go_wp2_with fail
      refine hK.out _ _ (HK.out _ _ hb2 hHeld) (fun hHeld => ?_)
      clear hK K
      try simp only [Act.put, List.setIfInBounds_toArray, List.set_cons_zero, List.set_cons_succ]
      refine wpAnyH_take (i := 2) (oi := { dst := (some 9), op := (Op.binOp BinOp.gtr 3 (Operand.tmp 8) (Operand.const (Value.int IntKind.i64 0)) 3), type := 4, pos := "law.go:56", after := #[{ on := 1, ground := Ground.data }], guard := none }) (v := ?_) rfl (by kernel_rfl) (by kernel_rfl) (by kernel_rfl) (fun _ _ _ h => h) (Or.inl ⟨by rfl, ?_⟩) hHeld ?_
      rotate_left
      · intro w hSw; (try dsimp only at hSw); go_simp; try with_reducible rfl
      try simp only [Act.put, List.setIfInBounds_toArray, List.set_cons_zero, List.set_cons_succ]
      refine wpAnyH_ready (rs := [4]) (by kernel_rfl) (by simp) ?_
      refine AllReadyH.cons (o := { dst := (some 11), op := (Op.call { callee := (Callee.value (Operand.func 17)), args := #[(Operand.tmp 10)], argTypes := #[24] }), type := 4, pos := "law.go:56", after := #[{ on := 3, ground := Ground.data }, { on := 1, ground := Ground.chain }], guard := none }) rfl (fun K hK => ?_) AllReadyH.nil
      go_simp
      refine (scalar_calls _ _ _ _ _ _ _).mono ?_
      rintro e w2 ⟨rfl, hb2⟩
      go_wp2_with fail
      refine hK.out _ _ (HK.out _ _ hb2 hHeld) (fun hHeld => ?_)
      clear hK K
      try simp only [Act.put, List.setIfInBounds_toArray, List.set_cons_zero, List.set_cons_succ]
      refine wpAnyH_take (i := 5) (oi := { dst := (some 12), op := (Op.binOp BinOp.neq 4 (Operand.tmp 9) (Operand.tmp 11) 4), type := 4, pos := "law.go:56", after := #[{ on := 2, ground := Ground.data }, { on := 4, ground := Ground.data }], guard := none }) (v := ?_) rfl (by kernel_rfl) (by kernel_rfl) (by kernel_rfl) (fun _ _ _ h => h) (Or.inl ⟨by rfl, ?_⟩) hHeld ?_
      rotate_left
      · intro w hSw; (try dsimp only at hSw); go_simp; try with_reducible rfl
      try simp only [Act.put, List.setIfInBounds_toArray, List.set_cons_zero, List.set_cons_succ]
      refine wpAnyH_take (i := 6) (oi := { dst := (some 13), op := (Op.move (Operand.tmp 12)), type := 4, pos := "law.go:56", after := #[{ on := 5, ground := Ground.data }, { on := 4, ground := Ground.chain }], guard := none }) (v := ?_) rfl (by kernel_rfl) (by kernel_rfl) (by kernel_rfl) (fun _ _ _ h => h) (Or.inl ⟨by rfl, ?_⟩) hHeld ?_
      rotate_left
      · intro w hSw; (try dsimp only at hSw); go_simp; try with_reducible rfl
      try simp only [Act.put, List.setIfInBounds_toArray, List.set_cons_zero, List.set_cons_succ]
      refine wpAnyH_take (i := 7) (oi := { dst := (some 14), op := (Op.load 24 (Operand.tmp 2)), type := 24, pos := "law.go:56", after := #[{ on := 6, ground := Ground.guard }], guard := (some (6, false)) }) (v := ?_) rfl (by kernel_rfl) (by kernel_rfl) (by kernel_rfl) (fun _ _ _ h => h) (Or.inl ⟨by rfl, ?_⟩) hHeld ?_
      rotate_left
      · intro w hSw; (try dsimp only at hSw); go_simp; try with_reducible rfl
      try simp only [Act.put, List.setIfInBounds_toArray, List.set_cons_zero, List.set_cons_succ]
      refine wpAnyH_ready (rs := [8]) (by kernel_rfl) (by simp) ?_
      refine AllReadyH.cons (o := { dst := (some 15), op := (Op.call { callee := (Callee.value (Operand.func 16)), args := #[(Operand.tmp 14)], argTypes := #[24] }), type := 4, pos := "law.go:56", after := #[{ on := 7, ground := Ground.data }, { on := 6, ground := Ground.chain }, { on := 6, ground := Ground.guard }], guard := (some (6, false)) }) rfl (fun K hK => ?_) AllReadyH.nil
      go_simp
      refine (number_calls _ _ _ _ _ _ _).mono ?_
      rintro e w2 ⟨rfl, hb2⟩
      go_wp2_with fail
      refine hK.out _ _ (HK.out _ _ hb2 hHeld) (fun hHeld => ?_)
      clear hK K
      try simp only [Act.put, List.setIfInBounds_toArray, List.set_cons_zero, List.set_cons_succ]
      refine wpAnyH_take (i := 9) (oi := { dst := (some 16), op := (Op.move (Operand.tmp 15)), type := 4, pos := "law.go:56", after := #[{ on := 8, ground := Ground.data }, { on := 8, ground := Ground.chain }, { on := 6, ground := Ground.guard }], guard := (some (6, false)) }) (v := ?_) rfl (by kernel_rfl) (by kernel_rfl) (by kernel_rfl) (fun _ _ _ h => h) (Or.inl ⟨by rfl, ?_⟩) hHeld ?_
      rotate_left
      · intro w hSw; (try dsimp only at hSw); go_simp; try with_reducible rfl
      try simp only [Act.put, List.setIfInBounds_toArray, List.set_cons_zero, List.set_cons_succ]
      refine wpAnyH_take (i := 10) (oi := { dst := (some 17), op := (Op.load 24 (Operand.tmp 2)), type := 24, pos := "law.go:56", after := #[{ on := 9, ground := Ground.guard }], guard := (some (9, true)) }) rfl (by kernel_rfl) (by kernel_rfl) (by kernel_rfl) (fun _ _ _ h => h) (Or.inr ⟨by rfl, rfl⟩) hHeld ?_
      try simp only [Act.put, List.setIfInBounds_toArray, List.set_cons_zero, List.set_cons_succ]
      refine wpAnyH_take (i := 11) (oi := { dst := (some 18), op := (Op.call { callee := (Callee.value (Operand.func 17)), args := #[(Operand.tmp 17)], argTypes := #[24] }), type := 4, pos := "law.go:56", after := #[{ on := 10, ground := Ground.data }, { on := 9, ground := Ground.chain }, { on := 9, ground := Ground.guard }], guard := (some (9, true)) }) rfl (by kernel_rfl) (by kernel_rfl) (by kernel_rfl) (fun _ _ _ h => h) (Or.inr ⟨by rfl, rfl⟩) hHeld ?_
      try simp only [Act.put, List.setIfInBounds_toArray, List.set_cons_zero, List.set_cons_succ]
      refine wpAnyH_take (i := 12) (oi := { dst := (some 19), op := (Op.unOp UnOp.not 4 (Operand.tmp 18)), type := 4, pos := "law.go:56", after := #[{ on := 11, ground := Ground.data }, { on := 9, ground := Ground.guard }], guard := (some (9, true)) }) rfl (by kernel_rfl) (by kernel_rfl) (by kernel_rfl) (fun _ _ _ h => h) (Or.inr ⟨by rfl, rfl⟩) hHeld ?_
      try simp only [Act.put, List.setIfInBounds_toArray, List.set_cons_zero, List.set_cons_succ]
      refine wpAnyH_take (i := 13) (oi := { dst := (some 20), op := (Op.pick (Operand.tmp 16) (Operand.tmp 19) (Operand.const (Value.bool false))), type := 4, pos := "law.go:56", after := #[{ on := 9, ground := Ground.data }, { on := 12, ground := Ground.data }, { on := 6, ground := Ground.guard }], guard := (some (6, false)) }) (v := ?_) rfl (by kernel_rfl) (by kernel_rfl) (by kernel_rfl) (fun _ _ _ h => h) (Or.inl ⟨by rfl, ?_⟩) hHeld ?_
      rotate_left
      · intro w hSw; (try dsimp only at hSw); go_simp; try with_reducible rfl
      try simp only [Act.put, List.setIfInBounds_toArray, List.set_cons_zero, List.set_cons_succ]
      refine wpAnyH_take (i := 14) (oi := { dst := (some 21), op := (Op.pick (Operand.tmp 13) (Operand.const (Value.bool true)) (Operand.tmp 20)), type := 4, pos := "law.go:56", after := #[{ on := 6, ground := Ground.data }, { on := 13, ground := Ground.data }], guard := none }) (v := ?_) rfl (by kernel_rfl) (by kernel_rfl) (by kernel_rfl) (fun _ _ _ h => h) (Or.inl ⟨by rfl, ?_⟩) hHeld ?_
      rotate_left
      · intro w hSw; (try dsimp only at hSw); go_simp; try with_reducible rfl
      try simp only [Act.put, List.setIfInBounds_toArray, List.set_cons_zero, List.set_cons_succ]
      refine wpAnyH_done (by kernel_rfl) ?_ _
      clear hSx hSy hSB
      go_wp2_with (first | (go_at_call 16; refine (number_calls _ _ _ _ _ _ _).mono ?_; rintro e w3 ⟨rfl, hb3⟩; have hS3 := HK.out _ _ hb3 (by assumption); clear hb3) | (go_at_call 13; refine (fits_calls x y _ _ _ _ _ _ (Kd.C_below HCx.out (HQ.out _ (by assumption))) HLx.out (Kd.C_below HCy.out (HQ.out _ (by assumption))) HLy.out).mono ?_; rintro e w3 ⟨rfl, hb3⟩; have hS3 := HK.out _ _ hb3 (by assumption); clear hb3))
      go_ret
      exact ⟨rfl, HQ.out _ (by assumption)⟩
    · have h5 : (x.f0 != 5) = true := bne_iff_ne.mpr k5
      have hs : isSc x.f0 = false := by
        simp only [isNum, Bool.and_eq_false_iff, decide_eq_false_iff_not] at hn
        simp [isSc]; omega
      have hw : decide (0 < widthT x.f0) = false := by rw [width_sc]; exact hs
      clear k5
      go_wp2_with fail
      refine wp_region_held_drew (S := fun w' => (w'.cell? ⟨w.heap.size, 0, none⟩ = some (.int .i64 x.f0) ∧ w'.cell? ⟨w.heap.size, 1, none⟩ = some (.int .i64 x.f1) ∧ w'.cell? ⟨w.heap.size, 2, none⟩ = some (.string x.f2) ∧ w'.cell? ⟨w.heap.size, 3, none⟩ = some (.slice A x.f3.length c)) ∧ (w'.cell? ⟨w.heap.size + 1, 0, none⟩ = some (.int .i64 y.f0) ∧ w'.cell? ⟨w.heap.size + 1, 1, none⟩ = some (.int .i64 y.f1) ∧ w'.cell? ⟨w.heap.size + 1, 2, none⟩ = some (.string y.f2) ∧ w'.cell? ⟨w.heap.size + 1, 3, none⟩ = some (.slice B y.f3.length d)) ∧ Below w.heap.size w w') (by kernel_rfl) ⟨hSx, hSy, below_drew hSB⟩ (fun hHeld => ?_)
      refine wpAnyH_take (i := 0) (oi := { dst := (some 7), op := (Op.load 24 (Operand.tmp 2)), type := 24, pos := "law.go:56", after := #[], guard := none }) (v := ?_) rfl (by kernel_rfl) (by kernel_rfl) (by kernel_rfl) (fun _ _ _ h => h) (Or.inl ⟨by rfl, ?_⟩) hHeld ?_
      rotate_left
      · intro w hSw; (try dsimp only at hSw); go_simp; try with_reducible rfl
      try simp only [Act.put, List.setIfInBounds_toArray, List.set_cons_zero, List.set_cons_succ]
      refine wpAnyH_take (i := 3) (oi := { dst := (some 10), op := (Op.load 24 (Operand.tmp 2)), type := 24, pos := "law.go:56", after := #[], guard := none }) (v := ?_) rfl (by kernel_rfl) (by kernel_rfl) (by kernel_rfl) (fun _ _ _ h => h) (Or.inl ⟨by rfl, ?_⟩) hHeld ?_
      rotate_left
      · intro w hSw; (try dsimp only at hSw); go_simp; try with_reducible rfl
      try simp only [Act.put, List.setIfInBounds_toArray, List.set_cons_zero, List.set_cons_succ]
      refine wpAnyH_ready (rs := [1]) (by kernel_rfl) (by simp) ?_
      refine AllReadyH.cons (o := { dst := (some 8), op := (Op.call { callee := (Callee.value (Operand.func 18)), args := #[(Operand.tmp 7)], argTypes := #[24] }), type := 3, pos := "law.go:56", after := #[{ on := 0, ground := Ground.data }], guard := none }) rfl (fun K hK => ?_) AllReadyH.nil
      go_simp
      refine (width_calls _ _ _ _ _ _ _).mono ?_
      rintro e w2 ⟨rfl, hb2⟩
      go_wp2_with fail
      refine hK.out _ _ (HK.out _ _ hb2 hHeld) (fun hHeld => ?_)
      clear hK K
      try simp only [Act.put, List.setIfInBounds_toArray, List.set_cons_zero, List.set_cons_succ]
      refine wpAnyH_take (i := 2) (oi := { dst := (some 9), op := (Op.binOp BinOp.gtr 3 (Operand.tmp 8) (Operand.const (Value.int IntKind.i64 0)) 3), type := 4, pos := "law.go:56", after := #[{ on := 1, ground := Ground.data }], guard := none }) (v := ?_) rfl (by kernel_rfl) (by kernel_rfl) (by kernel_rfl) (fun _ _ _ h => h) (Or.inl ⟨by rfl, ?_⟩) hHeld ?_
      rotate_left
      · intro w hSw; (try dsimp only at hSw); go_simp; try with_reducible rfl
      try simp only [Act.put, List.setIfInBounds_toArray, List.set_cons_zero, List.set_cons_succ]
      refine wpAnyH_ready (rs := [4]) (by kernel_rfl) (by simp) ?_
      refine AllReadyH.cons (o := { dst := (some 11), op := (Op.call { callee := (Callee.value (Operand.func 17)), args := #[(Operand.tmp 10)], argTypes := #[24] }), type := 4, pos := "law.go:56", after := #[{ on := 3, ground := Ground.data }, { on := 1, ground := Ground.chain }], guard := none }) rfl (fun K hK => ?_) AllReadyH.nil
      go_simp
      refine (scalar_calls _ _ _ _ _ _ _).mono ?_
      rintro e w2 ⟨rfl, hb2⟩
      go_wp2_with fail
      refine hK.out _ _ (HK.out _ _ hb2 hHeld) (fun hHeld => ?_)
      clear hK K
      try simp only [Act.put, List.setIfInBounds_toArray, List.set_cons_zero, List.set_cons_succ]
      refine wpAnyH_take (i := 5) (oi := { dst := (some 12), op := (Op.binOp BinOp.neq 4 (Operand.tmp 9) (Operand.tmp 11) 4), type := 4, pos := "law.go:56", after := #[{ on := 2, ground := Ground.data }, { on := 4, ground := Ground.data }], guard := none }) (v := ?_) rfl (by kernel_rfl) (by kernel_rfl) (by kernel_rfl) (fun _ _ _ h => h) (Or.inl ⟨by rfl, ?_⟩) hHeld ?_
      rotate_left
      · intro w hSw; (try dsimp only at hSw); go_simp; try with_reducible rfl
      try simp only [Act.put, List.setIfInBounds_toArray, List.set_cons_zero, List.set_cons_succ]
      refine wpAnyH_take (i := 6) (oi := { dst := (some 13), op := (Op.move (Operand.tmp 12)), type := 4, pos := "law.go:56", after := #[{ on := 5, ground := Ground.data }, { on := 4, ground := Ground.chain }], guard := none }) (v := ?_) rfl (by kernel_rfl) (by kernel_rfl) (by kernel_rfl) (fun _ _ _ h => h) (Or.inl ⟨by rfl, ?_⟩) hHeld ?_
      rotate_left
      · intro w hSw; (try dsimp only at hSw); go_simp; try with_reducible rfl
      try simp only [Act.put, List.setIfInBounds_toArray, List.set_cons_zero, List.set_cons_succ]
      refine wpAnyH_take (i := 7) (oi := { dst := (some 14), op := (Op.load 24 (Operand.tmp 2)), type := 24, pos := "law.go:56", after := #[{ on := 6, ground := Ground.guard }], guard := (some (6, false)) }) (v := ?_) rfl (by kernel_rfl) (by kernel_rfl) (by kernel_rfl) (fun _ _ _ h => h) (Or.inl ⟨by rfl, ?_⟩) hHeld ?_
      rotate_left
      · intro w hSw; (try dsimp only at hSw); go_simp; try with_reducible rfl
      try simp only [Act.put, List.setIfInBounds_toArray, List.set_cons_zero, List.set_cons_succ]
      refine wpAnyH_ready (rs := [8]) (by kernel_rfl) (by simp) ?_
      refine AllReadyH.cons (o := { dst := (some 15), op := (Op.call { callee := (Callee.value (Operand.func 16)), args := #[(Operand.tmp 14)], argTypes := #[24] }), type := 4, pos := "law.go:56", after := #[{ on := 7, ground := Ground.data }, { on := 6, ground := Ground.chain }, { on := 6, ground := Ground.guard }], guard := (some (6, false)) }) rfl (fun K hK => ?_) AllReadyH.nil
      go_simp
      refine (number_calls _ _ _ _ _ _ _).mono ?_
      rintro e w2 ⟨rfl, hb2⟩
      go_wp2_with fail
      refine hK.out _ _ (HK.out _ _ hb2 hHeld) (fun hHeld => ?_)
      clear hK K
      try simp only [Act.put, List.setIfInBounds_toArray, List.set_cons_zero, List.set_cons_succ]
      refine wpAnyH_take (i := 9) (oi := { dst := (some 16), op := (Op.move (Operand.tmp 15)), type := 4, pos := "law.go:56", after := #[{ on := 8, ground := Ground.data }, { on := 8, ground := Ground.chain }, { on := 6, ground := Ground.guard }], guard := (some (6, false)) }) (v := ?_) rfl (by kernel_rfl) (by kernel_rfl) (by kernel_rfl) (fun _ _ _ h => h) (Or.inl ⟨by rfl, ?_⟩) hHeld ?_
      rotate_left
      · intro w hSw; (try dsimp only at hSw); go_simp; try with_reducible rfl
      try simp only [Act.put, List.setIfInBounds_toArray, List.set_cons_zero, List.set_cons_succ]
      refine wpAnyH_take (i := 10) (oi := { dst := (some 17), op := (Op.load 24 (Operand.tmp 2)), type := 24, pos := "law.go:56", after := #[{ on := 9, ground := Ground.guard }], guard := (some (9, true)) }) rfl (by kernel_rfl) (by kernel_rfl) (by kernel_rfl) (fun _ _ _ h => h) (Or.inr ⟨by rfl, rfl⟩) hHeld ?_
      try simp only [Act.put, List.setIfInBounds_toArray, List.set_cons_zero, List.set_cons_succ]
      refine wpAnyH_take (i := 11) (oi := { dst := (some 18), op := (Op.call { callee := (Callee.value (Operand.func 17)), args := #[(Operand.tmp 17)], argTypes := #[24] }), type := 4, pos := "law.go:56", after := #[{ on := 10, ground := Ground.data }, { on := 9, ground := Ground.chain }, { on := 9, ground := Ground.guard }], guard := (some (9, true)) }) rfl (by kernel_rfl) (by kernel_rfl) (by kernel_rfl) (fun _ _ _ h => h) (Or.inr ⟨by rfl, rfl⟩) hHeld ?_
      try simp only [Act.put, List.setIfInBounds_toArray, List.set_cons_zero, List.set_cons_succ]
      refine wpAnyH_take (i := 12) (oi := { dst := (some 19), op := (Op.unOp UnOp.not 4 (Operand.tmp 18)), type := 4, pos := "law.go:56", after := #[{ on := 11, ground := Ground.data }, { on := 9, ground := Ground.guard }], guard := (some (9, true)) }) rfl (by kernel_rfl) (by kernel_rfl) (by kernel_rfl) (fun _ _ _ h => h) (Or.inr ⟨by rfl, rfl⟩) hHeld ?_
      try simp only [Act.put, List.setIfInBounds_toArray, List.set_cons_zero, List.set_cons_succ]
      refine wpAnyH_take (i := 13) (oi := { dst := (some 20), op := (Op.pick (Operand.tmp 16) (Operand.tmp 19) (Operand.const (Value.bool false))), type := 4, pos := "law.go:56", after := #[{ on := 9, ground := Ground.data }, { on := 12, ground := Ground.data }, { on := 6, ground := Ground.guard }], guard := (some (6, false)) }) (v := ?_) rfl (by kernel_rfl) (by kernel_rfl) (by kernel_rfl) (fun _ _ _ h => h) (Or.inl ⟨by rfl, ?_⟩) hHeld ?_
      rotate_left
      · intro w hSw; (try dsimp only at hSw); go_simp; try with_reducible rfl
      try simp only [Act.put, List.setIfInBounds_toArray, List.set_cons_zero, List.set_cons_succ]
      refine wpAnyH_take (i := 14) (oi := { dst := (some 21), op := (Op.pick (Operand.tmp 13) (Operand.const (Value.bool true)) (Operand.tmp 20)), type := 4, pos := "law.go:56", after := #[{ on := 6, ground := Ground.data }, { on := 13, ground := Ground.data }], guard := none }) (v := ?_) rfl (by kernel_rfl) (by kernel_rfl) (by kernel_rfl) (fun _ _ _ h => h) (Or.inl ⟨by rfl, ?_⟩) hHeld ?_
      rotate_left
      · intro w hSw; (try dsimp only at hSw); go_simp; try with_reducible rfl
      try simp only [Act.put, List.setIfInBounds_toArray, List.set_cons_zero, List.set_cons_succ]
      refine wpAnyH_done (by kernel_rfl) ?_ _
      clear hSx hSy hSB
      go_wp2_with (first | (go_at_call 16; refine (number_calls _ _ _ _ _ _ _).mono ?_; rintro e w3 ⟨rfl, hb3⟩; have hS3 := HK.out _ _ hb3 (by assumption); clear hb3) | (go_at_call 13; refine (fits_calls x y _ _ _ _ _ _ (Kd.C_below HCx.out (HQ.out _ (by assumption))) HLx.out (Kd.C_below HCy.out (HQ.out _ (by assumption))) HLy.out).mono ?_; rintro e w3 ⟨rfl, hb3⟩; have hS3 := HK.out _ _ hb3 (by assumption); clear hb3))
      go_ret
      exact ⟨rfl, HQ.out _ (by assumption)⟩
end Go.Proofs.Ytmmgdifjiapbmaa.G
