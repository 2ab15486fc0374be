/- The law CtypeSame returns true. The arguments read as types. -/
import Derived.Test.YtmmgdifjiapbmaaHl
import Derived.Test.YtmmgdifjiapbmaaHm
import Derived.Test.YtmmgdifjiapbmaaL1
set_option linter.unusedVariables false
set_option linter.unusedSimpArgs false
namespace Go.Proofs.Ytmmgdifjiapbmaa.G
open Go.RowKit Go.Proofs.Ytmmgdifjiapbmaa.B Go.Proofs.YtmmgdifjiapbmaaW.PrintWords Go.Proofs.YtmmgdifjiapbmaaW.PrintLast Go.Proofs.YtmmgdifjiapbmaaW.PrintMore
set_option maxRecDepth 100000 in
set_option maxHeartbeats 8000000 in
theorem CtypeSame_calls (x : S24) (y : S24) (z : S24) (A : Option Addr) (c : Nat) (B : Option Addr) (d : Nat) (C : Option Addr) (f : Nat)  (w : World) (hCx : Kd.C k24 w A x.f3.length x.f3) (hlx : x.f3.length ≤ c) (hCy : Kd.C k24 w B y.f3.length y.f3) (hly : y.f3.length ≤ d) (hCz : Kd.C k24 w C z.f3.length z.f3) (hlz : z.f3.length ≤ f)  :
    Calls Try.prog 5 #[.agg #[.int .i64 x.f0, .int .i64 x.f1, .string x.f2, .slice A x.f3.length c], .agg #[.int .i64 y.f0, .int .i64 y.f1, .string y.f2, .slice B y.f3.length d], .agg #[.int .i64 z.f0, .int .i64 z.f1, .string z.f2, .slice C z.f3.length f]] w fun e w' => e = .returned (.bool true) ∧ Below w.heap.size w w' := by
  have HCx := Aside0.mk hCx
  have HLx := Aside0.mk hlx
  have HCy := Aside0.mk hCy
  have HLy := Aside0.mk hly
  have HCz := Aside0.mk hCz
  have HLz := Aside0.mk hlz
  clear hCx hlx hCy hly hCz hlz
  go_enter Try.func5, Try.ntmps5
  go_wp2_with fail
  have Gx := Aside0.mk (blk_alloc (blk_alloc (blk_at_ (W := w) (n := w.heap.size) (Obj.cells #[.int .i64 x.f0, .int .i64 x.f1, .string x.f2, .slice A x.f3.length c] 24) (by simp)) (Obj.cells #[.int .i64 y.f0, .int .i64 y.f1, .string y.f2, .slice B y.f3.length d] 24)) (Obj.cells #[.int .i64 z.f0, .int .i64 z.f1, .string z.f2, .slice C z.f3.length f] 24))
  have Gy := Aside0.mk (blk_alloc (blk_at_ (W := (w.alloc (Obj.cells #[.int .i64 x.f0, .int .i64 x.f1, .string x.f2, .slice A x.f3.length c] 24))) (n := w.heap.size + 1) (Obj.cells #[.int .i64 y.f0, .int .i64 y.f1, .string y.f2, .slice B y.f3.length d] 24) (by simp)) (Obj.cells #[.int .i64 z.f0, .int .i64 z.f1, .string z.f2, .slice C z.f3.length f] 24))
  have Gz := Aside0.mk (blk_at_ (W := ((w.alloc (Obj.cells #[.int .i64 x.f0, .int .i64 x.f1, .string x.f2, .slice A x.f3.length c] 24)).alloc (Obj.cells #[.int .i64 y.f0, .int .i64 y.f1, .string y.f2, .slice B y.f3.length d] 24))) (n := w.heap.size + 1 + 1) (Obj.cells #[.int .i64 z.f0, .int .i64 z.f1, .string z.f2, .slice C z.f3.length f] 24) (by simp))
  have GB := Aside0.mk (show Below w.heap.size w (((w.alloc (Obj.cells #[.int .i64 x.f0, .int .i64 x.f1, .string x.f2, .slice A x.f3.length c] 24)).alloc (Obj.cells #[.int .i64 y.f0, .int .i64 y.f1, .string y.f2, .slice B y.f3.length d] 24)).alloc (Obj.cells #[.int .i64 z.f0, .int .i64 z.f1, .string z.f2, .slice C z.f3.length f] 24)) from ((((Below.refl _ _).alloc (by simp) _).alloc (by simp) _).alloc (by simp; omega) _))
  generalize (((w.alloc (Obj.cells #[.int .i64 x.f0, .int .i64 x.f1, .string x.f2, .slice A x.f3.length c] 24)).alloc (Obj.cells #[.int .i64 y.f0, .int .i64 y.f1, .string y.f2, .slice B y.f3.length d] 24)).alloc (Obj.cells #[.int .i64 z.f0, .int .i64 z.f1, .string z.f2, .slice C z.f3.length f] 24)) = W at Gx Gy Gz GB ⊢
  refine (shown_calls W).mono ?_
  rintro e w1 ⟨rfl, hb1⟩
  have hSx := cell4 (blk_below Gx.out hb1)
  have hSy := cell4 (blk_below Gy.out hb1)
  have hSz := cell4 (blk_below Gz.out hb1)
  have hSB := below_step GB.out hb1
  have G1x := Aside0.mk (blk_below Gx.out hb1)
  have G1y := Aside0.mk (blk_below Gy.out hb1)
  have G1z := Aside0.mk (blk_below Gz.out hb1)
  clear Gx Gy Gz GB hb1
  have HQ := Aside0.mk (show ∀ W2 : World, ((W2.cell? ⟨w.heap.size, 0, none⟩ = some (.int .i64 x.f0) ∧ W2.cell? ⟨w.heap.size, 1, none⟩ = some (.int .i64 x.f1) ∧ W2.cell? ⟨w.heap.size, 2, none⟩ = some (.string x.f2) ∧ W2.cell? ⟨w.heap.size, 3, none⟩ = some (.slice A x.f3.length c)) ∧ (W2.cell? ⟨w.heap.size + 1, 0, none⟩ = some (.int .i64 y.f0) ∧ W2.cell? ⟨w.heap.size + 1, 1, none⟩ = some (.int .i64 y.f1) ∧ W2.cell? ⟨w.heap.size + 1, 2, none⟩ = some (.string y.f2) ∧ W2.cell? ⟨w.heap.size + 1, 3, none⟩ = some (.slice B y.f3.length d)) ∧ (W2.cell? ⟨w.heap.size + 1 + 1, 0, none⟩ = some (.int .i64 z.f0) ∧ W2.cell? ⟨w.heap.size + 1 + 1, 1, none⟩ = some (.int .i64 z.f1) ∧ W2.cell? ⟨w.heap.size + 1 + 1, 2, none⟩ = some (.string z.f2) ∧ W2.cell? ⟨w.heap.size + 1 + 1, 3, none⟩ = some (.slice C z.f3.length f)) ∧ Below w.heap.size w W2) → Below w.heap.size w W2 from fun _ h => h.2.2.2)
  have HK := Aside0.mk (show ∀ W2 W3 : World, Below W2.heap.size W2 W3 → ((W2.cell? ⟨w.heap.size, 0, none⟩ = some (.int .i64 x.f0) ∧ W2.cell? ⟨w.heap.size, 1, none⟩ = some (.int .i64 x.f1) ∧ W2.cell? ⟨w.heap.size, 2, none⟩ = some (.string x.f2) ∧ W2.cell? ⟨w.heap.size, 3, none⟩ = some (.slice A x.f3.length c)) ∧ (W2.cell? ⟨w.heap.size + 1, 0, none⟩ = some (.int .i64 y.f0) ∧ W2.cell? ⟨w.heap.size + 1, 1, none⟩ = some (.int .i64 y.f1) ∧ W2.cell? ⟨w.heap.size + 1, 2, none⟩ = some (.string y.f2) ∧ W2.cell? ⟨w.heap.size + 1, 3, none⟩ = some (.slice B y.f3.length d)) ∧ (W2.cell? ⟨w.heap.size + 1 + 1, 0, none⟩ = some (.int .i64 z.f0) ∧ W2.cell? ⟨w.heap.size + 1 + 1, 1, none⟩ = some (.int .i64 z.f1) ∧ W2.cell? ⟨w.heap.size + 1 + 1, 2, none⟩ = some (.string z.f2) ∧ W2.cell? ⟨w.heap.size + 1 + 1, 3, none⟩ = some (.slice C z.f3.length f)) ∧ Below w.heap.size w W2) → ((W3.cell? ⟨w.heap.size, 0, none⟩ = some (.int .i64 x.f0) ∧ W3.cell? ⟨w.heap.size, 1, none⟩ = some (.int .i64 x.f1) ∧ W3.cell? ⟨w.heap.size, 2, none⟩ = some (.string x.f2) ∧ W3.cell? ⟨w.heap.size, 3, none⟩ = some (.slice A x.f3.length c)) ∧ (W3.cell? ⟨w.heap.size + 1, 0, none⟩ = some (.int .i64 y.f0) ∧ W3.cell? ⟨w.heap.size + 1, 1, none⟩ = some (.int .i64 y.f1) ∧ W3.cell? ⟨w.heap.size + 1, 2, none⟩ = some (.string y.f2) ∧ W3.cell? ⟨w.heap.size + 1, 3, none⟩ = some (.slice B y.f3.length d)) ∧ (W3.cell? ⟨w.heap.size + 1 + 1, 0, none⟩ = some (.int .i64 z.f0) ∧ W3.cell? ⟨w.heap.size + 1 + 1, 1, none⟩ = some (.int .i64 z.f1) ∧ W3.cell? ⟨w.heap.size + 1 + 1, 2, none⟩ = some (.string z.f2) ∧ W3.cell? ⟨w.heap.size + 1 + 1, 3, none⟩ = some (.slice C z.f3.length f)) ∧ Below w.heap.size w W3) from fun _ _ hb h => ⟨box_step h.1 hb, box_step h.2.1 hb, box_step h.2.2.1 hb, below_step h.2.2.2 hb⟩)
  have hrx := sameT_refl x
  cases hxy : sameT x y with
  | true =>
    have hyx : sameT y x = true := by rw [sameT_symm]; exact hxy
    cases hyz : sameT y z with
    | true =>
      have hxz := sameT_trans _ _ _ hxy hyz
      go_wp2_with fail
      refine wp_region_held_drew (S := fun w' => (w'.cell? ⟨w.heap.size, 0, none⟩ = some (.int .i64 x.f0) ∧ w'.cell? ⟨w.heap.size, 1, none⟩ = some (.int .i64 x.f1) ∧ w'.cell? ⟨w.heap.size, 2, none⟩ = some (.string x.f2) ∧ w'.cell? ⟨w.heap.size, 3, none⟩ = some (.slice A x.f3.length c)) ∧ (w'.cell? ⟨w.heap.size + 1, 0, none⟩ = some (.int .i64 y.f0) ∧ w'.cell? ⟨w.heap.size + 1, 1, none⟩ = some (.int .i64 y.f1) ∧ w'.cell? ⟨w.heap.size + 1, 2, none⟩ = some (.string y.f2) ∧ w'.cell? ⟨w.heap.size + 1, 3, none⟩ = some (.slice B y.f3.length d)) ∧ (w'.cell? ⟨w.heap.size + 1 + 1, 0, none⟩ = some (.int .i64 z.f0) ∧ w'.cell? ⟨w.heap.size + 1 + 1, 1, none⟩ = some (.int .i64 z.f1) ∧ w'.cell? ⟨w.heap.size + 1 + 1, 2, none⟩ = some (.string z.f2) ∧ w'.cell? ⟨w.heap.size + 1 + 1, 3, none⟩ = some (.slice C z.f3.length f)) ∧ Below w.heap.size w w') (by kernel_rfl) ⟨hSx, hSy, hSz, below_drew hSB⟩ (fun hHeld => ?_)
      refine wpAnyH_take (i := 0) (oi := { dst := (some 10), op := (Op.load 24 (Operand.tmp 3)), type := 24, pos := "law.go:36", after := #[], guard := none }) (v := ?_) rfl (by kernel_rfl) (by kernel_rfl) (by kernel_rfl) (fun _ _ _ h => h) (Or.inl ⟨by rfl, ?_⟩) hHeld ?_
      rotate_left
      · intro w hSw; (try dsimp only at hSw); go_simp; try with_reducible rfl
      try simp only [Act.put, List.setIfInBounds_toArray, List.set_cons_zero, List.set_cons_succ]
      refine wpAnyH_take (i := 1) (oi := { dst := (some 11), op := (Op.load 24 (Operand.tmp 3)), type := 24, pos := "law.go:36", after := #[], guard := none }) (v := ?_) rfl (by kernel_rfl) (by kernel_rfl) (by kernel_rfl) (fun _ _ _ h => h) (Or.inl ⟨by rfl, ?_⟩) hHeld ?_
      rotate_left
      · intro w hSw; (try dsimp only at hSw); go_simp; try with_reducible rfl
      try simp only [Act.put, List.setIfInBounds_toArray, List.set_cons_zero, List.set_cons_succ]
      refine wpAnyH_ready (rs := [2]) (by kernel_rfl) (by simp) ?_
      refine AllReadyH.cons (o := { dst := (some 12), op := (Op.call { callee := (Callee.value (Operand.func 11)), args := #[(Operand.tmp 10), (Operand.tmp 11)], argTypes := #[24, 24] }), type := 4, pos := "law.go:36", after := #[{ on := 0, ground := Ground.data }, { on := 1, ground := Ground.data }], guard := none }) rfl (fun K hK => ?_) AllReadyH.nil
      go_simp
      refine (same_calls _ _ _ _ _ _ _ (Kd.C_below (by first | exact HCx.out | exact HCy.out | exact HCz.out) (HQ.out _ hHeld)) (by first | exact HLx.out | exact HLy.out | exact HLz.out) (Kd.C_below (by first | exact HCx.out | exact HCy.out | exact HCz.out) (HQ.out _ hHeld)) (by first | exact HLx.out | exact HLy.out | exact HLz.out)).mono ?_
      rintro e w2 ⟨rfl, hb2⟩
      go_wp2_with fail
      refine hK.out _ _ (HK.out _ _ hb2 hHeld) (fun hHeld => ?_)
      clear hK K
      try simp only [Act.put, List.setIfInBounds_toArray, List.set_cons_zero, List.set_cons_succ]
      refine wpAnyH_take (i := 3) (oi := { dst := (some 13), op := (Op.unOp UnOp.not 4 (Operand.tmp 12)), type := 4, pos := "law.go:36", after := #[{ on := 2, ground := Ground.data }], guard := none }) (v := ?_) rfl (by kernel_rfl) (by kernel_rfl) (by kernel_rfl) (fun _ _ _ h => h) (Or.inl ⟨by rfl, ?_⟩) hHeld ?_
      rotate_left
      · intro w hSw; (try dsimp only at hSw); go_simp; try with_reducible rfl
      try simp only [Act.put, List.setIfInBounds_toArray, List.set_cons_zero, List.set_cons_succ]
      refine wpAnyH_take (i := 4) (oi := { dst := (some 14), op := (Op.move (Operand.tmp 13)), type := 4, pos := "law.go:36", after := #[{ on := 3, ground := Ground.data }, { on := 2, ground := Ground.chain }], guard := none }) (v := ?_) rfl (by kernel_rfl) (by kernel_rfl) (by kernel_rfl) (fun _ _ _ h => h) (Or.inl ⟨by rfl, ?_⟩) hHeld ?_
      rotate_left
      · intro w hSw; (try dsimp only at hSw); go_simp; try with_reducible rfl
      try simp only [Act.put, List.setIfInBounds_toArray, List.set_cons_zero, List.set_cons_succ]
      refine wpAnyH_take (i := 5) (oi := { dst := (some 15), op := (Op.load 24 (Operand.tmp 3)), type := 24, pos := "law.go:36", after := #[{ on := 4, ground := Ground.guard }], guard := (some (4, false)) }) (v := ?_) rfl (by kernel_rfl) (by kernel_rfl) (by kernel_rfl) (fun _ _ _ h => h) (Or.inl ⟨by rfl, ?_⟩) hHeld ?_
      rotate_left
      · intro w hSw; (try dsimp only at hSw); go_simp; try with_reducible rfl
      try simp only [Act.put, List.setIfInBounds_toArray, List.set_cons_zero, List.set_cons_succ]
      refine wpAnyH_take (i := 6) (oi := { dst := (some 16), op := (Op.load 24 (Operand.tmp 4)), type := 24, pos := "law.go:36", after := #[{ on := 4, ground := Ground.guard }], guard := (some (4, false)) }) (v := ?_) rfl (by kernel_rfl) (by kernel_rfl) (by kernel_rfl) (fun _ _ _ h => h) (Or.inl ⟨by rfl, ?_⟩) hHeld ?_
      rotate_left
      · intro w hSw; (try dsimp only at hSw); go_simp; try with_reducible rfl
      try simp only [Act.put, List.setIfInBounds_toArray, List.set_cons_zero, List.set_cons_succ]
      refine wpAnyH_take (i := 8) (oi := { dst := (some 18), op := (Op.load 24 (Operand.tmp 4)), type := 24, pos := "law.go:36", after := #[{ on := 4, ground := Ground.guard }], guard := (some (4, false)) }) (v := ?_) rfl (by kernel_rfl) (by kernel_rfl) (by kernel_rfl) (fun _ _ _ h => h) (Or.inl ⟨by rfl, ?_⟩) hHeld ?_
      rotate_left
      · intro w hSw; (try dsimp only at hSw); go_simp; try with_reducible rfl
      try simp only [Act.put, List.setIfInBounds_toArray, List.set_cons_zero, List.set_cons_succ]
      refine wpAnyH_take (i := 9) (oi := { dst := (some 19), op := (Op.load 24 (Operand.tmp 3)), type := 24, pos := "law.go:36", after := #[{ on := 4, ground := Ground.guard }], guard := (some (4, false)) }) (v := ?_) rfl (by kernel_rfl) (by kernel_rfl) (by kernel_rfl) (fun _ _ _ h => h) (Or.inl ⟨by rfl, ?_⟩) hHeld ?_
      rotate_left
      · intro w hSw; (try dsimp only at hSw); go_simp; try with_reducible rfl
      try simp only [Act.put, List.setIfInBounds_toArray, List.set_cons_zero, List.set_cons_succ]
      refine wpAnyH_ready (rs := [7]) (by kernel_rfl) (by simp) ?_
      refine AllReadyH.cons (o := { dst := (some 17), op := (Op.call { callee := (Callee.value (Operand.func 11)), args := #[(Operand.tmp 15), (Operand.tmp 16)], argTypes := #[24, 24] }), type := 4, pos := "law.go:36", after := #[{ on := 5, ground := Ground.data }, { on := 6, ground := Ground.data }, { on := 4, ground := Ground.chain }, { on := 4, ground := Ground.guard }], guard := (some (4, false)) }) rfl (fun K hK => ?_) AllReadyH.nil
      go_simp
      refine (same_calls _ _ _ _ _ _ _ (Kd.C_below (by first | exact HCx.out | exact HCy.out | exact HCz.out) (HQ.out _ hHeld)) (by first | exact HLx.out | exact HLy.out | exact HLz.out) (Kd.C_below (by first | exact HCx.out | exact HCy.out | exact HCz.out) (HQ.out _ hHeld)) (by first | exact HLx.out | exact HLy.out | exact HLz.out)).mono ?_
      rintro e w2 ⟨rfl, hb2⟩
      go_wp2_with fail
      refine hK.out _ _ (HK.out _ _ hb2 hHeld) (fun hHeld => ?_)
      clear hK K
      try simp only [Act.put, List.setIfInBounds_toArray, List.set_cons_zero, List.set_cons_succ]
      refine wpAnyH_ready (rs := [10]) (by kernel_rfl) (by simp) ?_
      refine AllReadyH.cons (o := { dst := (some 20), op := (Op.call { callee := (Callee.value (Operand.func 11)), args := #[(Operand.tmp 18), (Operand.tmp 19)], argTypes := #[24, 24] }), type := 4, pos := "law.go:36", after := #[{ on := 8, ground := Ground.data }, { on := 9, ground := Ground.data }, { on := 7, ground := Ground.chain }, { on := 4, ground := Ground.guard }], guard := (some (4, false)) }) rfl (fun K hK => ?_) AllReadyH.nil
      go_simp
      refine (same_calls _ _ _ _ _ _ _ (Kd.C_below (by first | exact HCx.out | exact HCy.out | exact HCz.out) (HQ.out _ hHeld)) (by first | exact HLx.out | exact HLy.out | exact HLz.out) (Kd.C_below (by first | exact HCx.out | exact HCy.out | exact HCz.out) (HQ.out _ hHeld)) (by first | exact HLx.out | exact HLy.out | exact HLz.out)).mono ?_
      rintro e w2 ⟨rfl, hb2⟩
      go_wp2_with fail
      refine hK.out _ _ (HK.out _ _ hb2 hHeld) (fun hHeld => ?_)
      clear hK K
      try simp only [Act.put, List.setIfInBounds_toArray, List.set_cons_zero, List.set_cons_succ]
      refine wpAnyH_take (i := 11) (oi := { dst := (some 21), op := (Op.binOp BinOp.neq 4 (Operand.tmp 17) (Operand.tmp 20) 4), type := 4, pos := "law.go:36", after := #[{ on := 7, ground := Ground.data }, { on := 10, ground := Ground.data }, { on := 4, ground := Ground.guard }], guard := (some (4, false)) }) (v := ?_) rfl (by kernel_rfl) (by kernel_rfl) (by kernel_rfl) (fun _ _ _ h => h) (Or.inl ⟨by rfl, ?_⟩) hHeld ?_
      rotate_left
      · intro w hSw; (try dsimp only at hSw); go_simp; try with_reducible rfl
      try simp only [Act.put, List.setIfInBounds_toArray, List.set_cons_zero, List.set_cons_succ]
      refine wpAnyH_take (i := 12) (oi := { dst := (some 22), op := (Op.pick (Operand.tmp 14) (Operand.const (Value.bool true)) (Operand.tmp 21)), type := 4, pos := "law.go:36", after := #[{ on := 4, ground := Ground.data }, { on := 11, ground := Ground.data }], guard := none }) (v := ?_) rfl (by kernel_rfl) (by kernel_rfl) (by kernel_rfl) (fun _ _ _ h => h) (Or.inl ⟨by rfl, ?_⟩) hHeld ?_
      rotate_left
      · intro w hSw; (try dsimp only at hSw); go_simp; try with_reducible rfl
      try simp only [Act.put, List.setIfInBounds_toArray, List.set_cons_zero, List.set_cons_succ]
      refine wpAnyH_take (i := 13) (oi := { dst := (some 23), op := (Op.move (Operand.tmp 22)), type := 4, pos := "law.go:36", after := #[{ on := 12, ground := Ground.data }, { on := 10, ground := Ground.chain }], guard := none }) (v := ?_) rfl (by kernel_rfl) (by kernel_rfl) (by kernel_rfl) (fun _ _ _ h => h) (Or.inl ⟨by rfl, ?_⟩) hHeld ?_
      rotate_left
      · intro w hSw; (try dsimp only at hSw); go_simp; try with_reducible rfl
      try simp only [Act.put, List.setIfInBounds_toArray, List.set_cons_zero, List.set_cons_succ]
      refine wpAnyH_take (i := 14) (oi := { dst := (some 24), op := (Op.load 24 (Operand.tmp 3)), type := 24, pos := "law.go:36", after := #[{ on := 13, ground := Ground.guard }], guard := (some (13, false)) }) (v := ?_) rfl (by kernel_rfl) (by kernel_rfl) (by kernel_rfl) (fun _ _ _ h => h) (Or.inl ⟨by rfl, ?_⟩) hHeld ?_
      rotate_left
      · intro w hSw; (try dsimp only at hSw); go_simp; try with_reducible rfl
      try simp only [Act.put, List.setIfInBounds_toArray, List.set_cons_zero, List.set_cons_succ]
      refine wpAnyH_take (i := 15) (oi := { dst := (some 25), op := (Op.load 24 (Operand.tmp 4)), type := 24, pos := "law.go:36", after := #[{ on := 13, ground := Ground.guard }], guard := (some (13, false)) }) (v := ?_) rfl (by kernel_rfl) (by kernel_rfl) (by kernel_rfl) (fun _ _ _ h => h) (Or.inl ⟨by rfl, ?_⟩) hHeld ?_
      rotate_left
      · intro w hSw; (try dsimp only at hSw); go_simp; try with_reducible rfl
      try simp only [Act.put, List.setIfInBounds_toArray, List.set_cons_zero, List.set_cons_succ]
      refine wpAnyH_ready (rs := [16]) (by kernel_rfl) (by simp) ?_
      refine AllReadyH.cons (o := { dst := (some 26), op := (Op.call { callee := (Callee.value (Operand.func 11)), args := #[(Operand.tmp 24), (Operand.tmp 25)], argTypes := #[24, 24] }), type := 4, pos := "law.go:36", after := #[{ on := 14, ground := Ground.data }, { on := 15, ground := Ground.data }, { on := 13, ground := Ground.chain }, { on := 13, ground := Ground.guard }], guard := (some (13, false)) }) rfl (fun K hK => ?_) AllReadyH.nil
      go_simp
      refine (same_calls _ _ _ _ _ _ _ (Kd.C_below (by first | exact HCx.out | exact HCy.out | exact HCz.out) (HQ.out _ hHeld)) (by first | exact HLx.out | exact HLy.out | exact HLz.out) (Kd.C_below (by first | exact HCx.out | exact HCy.out | exact HCz.out) (HQ.out _ hHeld)) (by first | exact HLx.out | exact HLy.out | exact HLz.out)).mono ?_
      rintro e w2 ⟨rfl, hb2⟩
      go_wp2_with fail
      refine hK.out _ _ (HK.out _ _ hb2 hHeld) (fun hHeld => ?_)
      clear hK K
      try simp only [Act.put, List.setIfInBounds_toArray, List.set_cons_zero, List.set_cons_succ]
      refine wpAnyH_take (i := 17) (oi := { dst := (some 27), op := (Op.move (Operand.tmp 26)), type := 4, pos := "law.go:36", after := #[{ on := 16, ground := Ground.data }, { on := 16, ground := Ground.chain }, { on := 13, ground := Ground.guard }], guard := (some (13, false)) }) (v := ?_) rfl (by kernel_rfl) (by kernel_rfl) (by kernel_rfl) (fun _ _ _ h => h) (Or.inl ⟨by rfl, ?_⟩) hHeld ?_
      rotate_left
      · intro w hSw; (try dsimp only at hSw); go_simp; try with_reducible rfl
      try simp only [Act.put, List.setIfInBounds_toArray, List.set_cons_zero, List.set_cons_succ]
      refine wpAnyH_take (i := 18) (oi := { dst := (some 28), op := (Op.load 24 (Operand.tmp 4)), type := 24, pos := "law.go:36", after := #[{ on := 17, ground := Ground.guard }], guard := (some (17, true)) }) (v := ?_) rfl (by kernel_rfl) (by kernel_rfl) (by kernel_rfl) (fun _ _ _ h => h) (Or.inl ⟨by rfl, ?_⟩) hHeld ?_
      rotate_left
      · intro w hSw; (try dsimp only at hSw); go_simp; try with_reducible rfl
      try simp only [Act.put, List.setIfInBounds_toArray, List.set_cons_zero, List.set_cons_succ]
      refine wpAnyH_take (i := 19) (oi := { dst := (some 29), op := (Op.load 24 (Operand.tmp 5)), type := 24, pos := "law.go:36", after := #[{ on := 17, ground := Ground.guard }], guard := (some (17, true)) }) (v := ?_) rfl (by kernel_rfl) (by kernel_rfl) (by kernel_rfl) (fun _ _ _ h => h) (Or.inl ⟨by rfl, ?_⟩) hHeld ?_
      rotate_left
      · intro w hSw; (try dsimp only at hSw); go_simp; try with_reducible rfl
      try simp only [Act.put, List.setIfInBounds_toArray, List.set_cons_zero, List.set_cons_succ]
      refine wpAnyH_ready (rs := [20]) (by kernel_rfl) (by simp) ?_
      refine AllReadyH.cons (o := { dst := (some 30), op := (Op.call { callee := (Callee.value (Operand.func 11)), args := #[(Operand.tmp 28), (Operand.tmp 29)], argTypes := #[24, 24] }), type := 4, pos := "law.go:36", after := #[{ on := 18, ground := Ground.data }, { on := 19, ground := Ground.data }, { on := 17, ground := Ground.chain }, { on := 17, ground := Ground.guard }], guard := (some (17, true)) }) rfl (fun K hK => ?_) AllReadyH.nil
      go_simp
      refine (same_calls _ _ _ _ _ _ _ (Kd.C_below (by first | exact HCx.out | exact HCy.out | exact HCz.out) (HQ.out _ hHeld)) (by first | exact HLx.out | exact HLy.out | exact HLz.out) (Kd.C_below (by first | exact HCx.out | exact HCy.out | exact HCz.out) (HQ.out _ hHeld)) (by first | exact HLx.out | exact HLy.out | exact HLz.out)).mono ?_
      rintro e w2 ⟨rfl, hb2⟩
      go_wp2_with fail
      refine hK.out _ _ (HK.out _ _ hb2 hHeld) (fun hHeld => ?_)
      clear hK K
      try simp only [Act.put, List.setIfInBounds_toArray, List.set_cons_zero, List.set_cons_succ]
      refine wpAnyH_take (i := 21) (oi := { dst := (some 31), op := (Op.pick (Operand.tmp 27) (Operand.tmp 30) (Operand.const (Value.bool false))), type := 4, pos := "law.go:36", after := #[{ on := 17, ground := Ground.data }, { on := 20, ground := Ground.data }, { on := 13, ground := Ground.guard }], guard := (some (13, false)) }) (v := ?_) rfl (by kernel_rfl) (by kernel_rfl) (by kernel_rfl) (fun _ _ _ h => h) (Or.inl ⟨by rfl, ?_⟩) hHeld ?_
      rotate_left
      · intro w hSw; (try dsimp only at hSw); go_simp; try with_reducible rfl
      try simp only [Act.put, List.setIfInBounds_toArray, List.set_cons_zero, List.set_cons_succ]
      refine wpAnyH_take (i := 22) (oi := { dst := (some 32), op := (Op.move (Operand.tmp 31)), type := 4, pos := "law.go:36", after := #[{ on := 21, ground := Ground.data }, { on := 20, ground := Ground.chain }, { on := 13, ground := Ground.guard }], guard := (some (13, false)) }) (v := ?_) rfl (by kernel_rfl) (by kernel_rfl) (by kernel_rfl) (fun _ _ _ h => h) (Or.inl ⟨by rfl, ?_⟩) hHeld ?_
      rotate_left
      · intro w hSw; (try dsimp only at hSw); go_simp; try with_reducible rfl
      try simp only [Act.put, List.setIfInBounds_toArray, List.set_cons_zero, List.set_cons_succ]
      refine wpAnyH_take (i := 23) (oi := { dst := (some 33), op := (Op.load 24 (Operand.tmp 3)), type := 24, pos := "law.go:36", after := #[{ on := 22, ground := Ground.guard }], guard := (some (22, true)) }) (v := ?_) rfl (by kernel_rfl) (by kernel_rfl) (by kernel_rfl) (fun _ _ _ h => h) (Or.inl ⟨by rfl, ?_⟩) hHeld ?_
      rotate_left
      · intro w hSw; (try dsimp only at hSw); go_simp; try with_reducible rfl
      try simp only [Act.put, List.setIfInBounds_toArray, List.set_cons_zero, List.set_cons_succ]
      refine wpAnyH_take (i := 24) (oi := { dst := (some 34), op := (Op.load 24 (Operand.tmp 5)), type := 24, pos := "law.go:36", after := #[{ on := 22, ground := Ground.guard }], guard := (some (22, true)) }) (v := ?_) rfl (by kernel_rfl) (by kernel_rfl) (by kernel_rfl) (fun _ _ _ h => h) (Or.inl ⟨by rfl, ?_⟩) hHeld ?_
      rotate_left
      · intro w hSw; (try dsimp only at hSw); go_simp; try with_reducible rfl
      try simp only [Act.put, List.setIfInBounds_toArray, List.set_cons_zero, List.set_cons_succ]
      refine wpAnyH_ready (rs := [25]) (by kernel_rfl) (by simp) ?_
      refine AllReadyH.cons (o := { dst := (some 35), op := (Op.call { callee := (Callee.value (Operand.func 11)), args := #[(Operand.tmp 33), (Operand.tmp 34)], argTypes := #[24, 24] }), type := 4, pos := "law.go:36", after := #[{ on := 23, ground := Ground.data }, { on := 24, ground := Ground.data }, { on := 22, ground := Ground.chain }, { on := 22, ground := Ground.guard }], guard := (some (22, true)) }) rfl (fun K hK => ?_) AllReadyH.nil
      go_simp
      refine (same_calls _ _ _ _ _ _ _ (Kd.C_below (by first | exact HCx.out | exact HCy.out | exact HCz.out) (HQ.out _ hHeld)) (by first | exact HLx.out | exact HLy.out | exact HLz.out) (Kd.C_below (by first | exact HCx.out | exact HCy.out | exact HCz.out) (HQ.out _ hHeld)) (by first | exact HLx.out | exact HLy.out | exact HLz.out)).mono ?_
      rintro e w2 ⟨rfl, hb2⟩
      go_wp2_with fail
      refine hK.out _ _ (HK.out _ _ hb2 hHeld) (fun hHeld => ?_)
      clear hK K
      try simp only [Act.put, List.setIfInBounds_toArray, List.set_cons_zero, List.set_cons_succ]
      refine wpAnyH_take (i := 26) (oi := { dst := (some 36), op := (Op.unOp UnOp.not 4 (Operand.tmp 35)), type := 4, pos := "law.go:36", after := #[{ on := 25, ground := Ground.data }, { on := 22, ground := Ground.guard }], guard := (some (22, true)) }) (v := ?_) rfl (by kernel_rfl) (by kernel_rfl) (by kernel_rfl) (fun _ _ _ h => h) (Or.inl ⟨by rfl, ?_⟩) hHeld ?_
      rotate_left
      · intro w hSw; (try dsimp only at hSw); go_simp; try with_reducible rfl
      try simp only [Act.put, List.setIfInBounds_toArray, List.set_cons_zero, List.set_cons_succ]
      refine wpAnyH_take (i := 27) (oi := { dst := (some 37), op := (Op.pick (Operand.tmp 32) (Operand.tmp 36) (Operand.const (Value.bool false))), type := 4, pos := "law.go:36", after := #[{ on := 22, ground := Ground.data }, { on := 26, ground := Ground.data }, { on := 13, ground := Ground.guard }], guard := (some (13, false)) }) (v := ?_) rfl (by kernel_rfl) (by kernel_rfl) (by kernel_rfl) (fun _ _ _ h => h) (Or.inl ⟨by rfl, ?_⟩) hHeld ?_
      rotate_left
      · intro w hSw; (try dsimp only at hSw); go_simp; try with_reducible rfl
      try simp only [Act.put, List.setIfInBounds_toArray, List.set_cons_zero, List.set_cons_succ]
      refine wpAnyH_take (i := 28) (oi := { dst := (some 38), op := (Op.pick (Operand.tmp 23) (Operand.const (Value.bool true)) (Operand.tmp 37)), type := 4, pos := "law.go:36", after := #[{ on := 13, ground := Ground.data }, { on := 27, ground := Ground.data }], guard := none }) (v := ?_) rfl (by kernel_rfl) (by kernel_rfl) (by kernel_rfl) (fun _ _ _ h => h) (Or.inl ⟨by rfl, ?_⟩) hHeld ?_
      rotate_left
      · intro w hSw; (try dsimp only at hSw); go_simp; try with_reducible rfl
      try simp only [Act.put, List.setIfInBounds_toArray, List.set_cons_zero, List.set_cons_succ]
      refine wpAnyH_done (by kernel_rfl) ?_ _
      clear hxy hyx hyz hxz
      clear hSx hSy hSz hSB
      cases hs : isSc x.f0 with
      | true =>
        have h7 : (x.f0 == 7) = false := beq_eq_false_iff_ne.mpr (by simp [isSc] at hs; omega)
        have h8 : (x.f0 == 8) = false := beq_eq_false_iff_ne.mpr (by simp [isSc] at hs; omega)
        have hf : fitsT x x false = true := by rw [fits_self, hs]; rfl
        go_wp2_with fail
        refine wp_region_held_drew (S := fun w' => (w'.cell? ⟨w.heap.size, 0, none⟩ = some (.int .i64 x.f0) ∧ w'.cell? ⟨w.heap.size, 1, none⟩ = some (.int .i64 x.f1) ∧ w'.cell? ⟨w.heap.size, 2, none⟩ = some (.string x.f2) ∧ w'.cell? ⟨w.heap.size, 3, none⟩ = some (.slice A x.f3.length c)) ∧ (w'.cell? ⟨w.heap.size + 1, 0, none⟩ = some (.int .i64 y.f0) ∧ w'.cell? ⟨w.heap.size + 1, 1, none⟩ = some (.int .i64 y.f1) ∧ w'.cell? ⟨w.heap.size + 1, 2, none⟩ = some (.string y.f2) ∧ w'.cell? ⟨w.heap.size + 1, 3, none⟩ = some (.slice B y.f3.length d)) ∧ (w'.cell? ⟨w.heap.size + 1 + 1, 0, none⟩ = some (.int .i64 z.f0) ∧ w'.cell? ⟨w.heap.size + 1 + 1, 1, none⟩ = some (.int .i64 z.f1) ∧ w'.cell? ⟨w.heap.size + 1 + 1, 2, none⟩ = some (.string z.f2) ∧ w'.cell? ⟨w.heap.size + 1 + 1, 3, none⟩ = some (.slice C z.f3.length f)) ∧ Below w.heap.size w w') (by kernel_rfl) ⟨hHeld.1, hHeld.2.1, hHeld.2.2.1, below_drew hHeld.2.2.2⟩ (fun hHeld => ?_)
        refine wpAnyH_take (i := 0) (oi := { dst := (some 47), op := (Op.move (Operand.tmp 7)), type := 4, pos := "law.go:40", after := #[], guard := none }) (v := ?_) rfl (by kernel_rfl) (by kernel_rfl) (by kernel_rfl) (fun _ _ _ h => h) (Or.inl ⟨by rfl, ?_⟩) hHeld ?_
        rotate_left
        · intro w hSw; (try dsimp only at hSw); go_simp; try with_reducible rfl
        try simp only [Act.put, List.setIfInBounds_toArray, List.set_cons_zero, List.set_cons_succ]
        refine wpAnyH_take (i := 1) (oi := { dst := (some 48), op := (Op.move (Operand.tmp 47)), type := 4, pos := "law.go:40", after := #[{ on := 0, ground := Ground.data }], guard := none }) (v := ?_) rfl (by kernel_rfl) (by kernel_rfl) (by kernel_rfl) (fun _ _ _ h => h) (Or.inl ⟨by rfl, ?_⟩) hHeld ?_
        rotate_left
        · intro w hSw; (try dsimp only at hSw); go_simp; try with_reducible rfl
        try simp only [Act.put, List.setIfInBounds_toArray, List.set_cons_zero, List.set_cons_succ]
        refine wpAnyH_take (i := 2) (oi := { dst := (some 49), op := (Op.load 24 (Operand.tmp 3)), type := 24, pos := "law.go:40", after := #[{ on := 1, ground := Ground.guard }], guard := (some (1, true)) }) (v := ?_) rfl (by kernel_rfl) (by kernel_rfl) (by kernel_rfl) (fun _ _ _ h => h) (Or.inl ⟨by rfl, ?_⟩) hHeld ?_
        rotate_left
        · intro w hSw; (try dsimp only at hSw); go_simp; try with_reducible rfl
        try simp only [Act.put, List.setIfInBounds_toArray, List.set_cons_zero, List.set_cons_succ]
        refine wpAnyH_take (i := 7) (oi := { dst := (some 54), op := (Op.load 24 (Operand.tmp 3)), type := 24, pos := "law.go:40", after := #[{ on := 1, ground := Ground.guard }], guard := (some (1, true)) }) (v := ?_) rfl (by kernel_rfl) (by kernel_rfl) (by kernel_rfl) (fun _ _ _ h => h) (Or.inl ⟨by rfl, ?_⟩) hHeld ?_
        rotate_left
        · intro w hSw; (try dsimp only at hSw); go_simp; try with_reducible rfl
        try simp only [Act.put, List.setIfInBounds_toArray, List.set_cons_zero, List.set_cons_succ]
        refine wpAnyH_take (i := 8) (oi := { dst := (some 55), op := (Op.load 24 (Operand.tmp 3)), type := 24, pos := "law.go:40", after := #[{ on := 1, ground := Ground.guard }], guard := (some (1, true)) }) (v := ?_) rfl (by kernel_rfl) (by kernel_rfl) (by kernel_rfl) (fun _ _ _ h => h) (Or.inl ⟨by rfl, ?_⟩) hHeld ?_
        rotate_left
        · intro w hSw; (try dsimp only at hSw); go_simp; try with_reducible rfl
        try simp only [Act.put, List.setIfInBounds_toArray, List.set_cons_zero, List.set_cons_succ]
        refine wpAnyH_ready (rs := [3]) (by kernel_rfl) (by simp) ?_
        refine AllReadyH.cons (o := { dst := (some 50), op := (Op.call { callee := (Callee.value (Operand.func 17)), args := #[(Operand.tmp 49)], argTypes := #[24] }), type := 4, pos := "law.go:40", after := #[{ on := 2, ground := Ground.data }, { on := 1, ground := Ground.chain }, { on := 1, ground := Ground.guard }], guard := (some (1, true)) }) rfl (fun K hK => ?_) AllReadyH.nil
        go_simp
        refine (scalar_calls _ _ _ _ _ _ _).mono ?_
        rintro e w2 ⟨rfl, hb2⟩
        go_wp2_with fail
        refine hK.out _ _ (HK.out _ _ hb2 hHeld) (fun hHeld => ?_)
        clear hK K
        try simp only [Act.put, List.setIfInBounds_toArray, List.set_cons_zero, List.set_cons_succ]
        refine wpAnyH_take (i := 4) (oi := { dst := (some 51), op := (Op.move (Operand.tmp 50)), type := 4, pos := "law.go:40", after := #[{ on := 3, ground := Ground.data }, { on := 3, ground := Ground.chain }, { on := 1, ground := Ground.guard }], guard := (some (1, true)) }) (v := ?_) rfl (by kernel_rfl) (by kernel_rfl) (by kernel_rfl) (fun _ _ _ h => h) (Or.inl ⟨by rfl, ?_⟩) hHeld ?_
        rotate_left
        · intro w hSw; (try dsimp only at hSw); go_simp; try with_reducible rfl
        try simp only [Act.put, List.setIfInBounds_toArray, List.set_cons_zero, List.set_cons_succ]
        refine wpAnyH_take (i := 5) (oi := { dst := (some 52), op := (Op.move (Operand.tmp 8)), type := 4, pos := "law.go:40", after := #[{ on := 4, ground := Ground.guard }], guard := (some (4, false)) }) rfl (by kernel_rfl) (by kernel_rfl) (by kernel_rfl) (fun _ _ _ h => h) (Or.inr ⟨by rfl, rfl⟩) hHeld ?_
        try simp only [Act.put, List.setIfInBounds_toArray, List.set_cons_zero, List.set_cons_succ]
        refine wpAnyH_take (i := 6) (oi := { dst := (some 53), op := (Op.pick (Operand.tmp 51) (Operand.const (Value.bool true)) (Operand.tmp 52)), type := 4, pos := "law.go:40", after := #[{ on := 4, ground := Ground.data }, { on := 5, ground := Ground.data }, { on := 1, ground := Ground.guard }], guard := (some (1, true)) }) (v := ?_) rfl (by kernel_rfl) (by kernel_rfl) (by kernel_rfl) (fun _ _ _ h => h) (Or.inl ⟨by rfl, ?_⟩) hHeld ?_
        rotate_left
        · intro w hSw; (try dsimp only at hSw); go_simp; try with_reducible rfl
        try simp only [Act.put, List.setIfInBounds_toArray, List.set_cons_zero, List.set_cons_succ]
        refine wpAnyH_ready (rs := [9]) (by kernel_rfl) (by simp) ?_
        refine AllReadyH.cons (o := { dst := (some 56), op := (Op.call { callee := (Callee.value (Operand.func 13)), args := #[(Operand.tmp 54), (Operand.tmp 55), (Operand.const (Value.bool false))], argTypes := #[24, 24, 4] }), type := 4, pos := "law.go:40", after := #[{ on := 7, ground := Ground.data }, { on := 8, ground := Ground.data }, { on := 4, ground := Ground.chain }, { on := 1, ground := Ground.guard }], guard := (some (1, true)) }) rfl (fun K hK => ?_) AllReadyH.nil
        go_simp
        refine (fits_calls _ _ _ _ _ _ _ _ (Kd.C_below (by first | exact HCx.out | exact HCy.out | exact HCz.out) (HQ.out _ hHeld)) (by first | exact HLx.out | exact HLy.out | exact HLz.out) (Kd.C_below (by first | exact HCx.out | exact HCy.out | exact HCz.out) (HQ.out _ hHeld)) (by first | exact HLx.out | exact HLy.out | exact HLz.out)).mono ?_
        rintro e w2 ⟨rfl, hb2⟩
        go_wp2_with fail
        refine hK.out _ _ (HK.out _ _ hb2 hHeld) (fun hHeld => ?_)
        clear hK K
        try simp only [Act.put, List.setIfInBounds_toArray, List.set_cons_zero, List.set_cons_succ]
        refine wpAnyH_take (i := 10) (oi := { dst := (some 57), op := (Op.binOp BinOp.eql 4 (Operand.tmp 53) (Operand.tmp 56) 4), type := 4, pos := "law.go:40", after := #[{ on := 6, ground := Ground.data }, { on := 9, ground := Ground.data }, { on := 1, ground := Ground.guard }], guard := (some (1, true)) }) (v := ?_) rfl (by kernel_rfl) (by kernel_rfl) (by kernel_rfl) (fun _ _ _ h => h) (Or.inl ⟨by rfl, ?_⟩) hHeld ?_
        rotate_left
        · intro w hSw; (try dsimp only at hSw); go_simp; try with_reducible rfl
        try simp only [Act.put, List.setIfInBounds_toArray, List.set_cons_zero, List.set_cons_succ]
        refine wpAnyH_take (i := 11) (oi := { dst := (some 58), op := (Op.pick (Operand.tmp 48) (Operand.tmp 57) (Operand.const (Value.bool false))), type := 4, pos := "law.go:40", after := #[{ on := 1, ground := Ground.data }, { on := 10, ground := Ground.data }], guard := none }) (v := ?_) rfl (by kernel_rfl) (by kernel_rfl) (by kernel_rfl) (fun _ _ _ h => h) (Or.inl ⟨by rfl, ?_⟩) hHeld ?_
        rotate_left
        · intro w hSw; (try dsimp only at hSw); go_simp; try with_reducible rfl
        try simp only [Act.put, List.setIfInBounds_toArray, List.set_cons_zero, List.set_cons_succ]
        refine wpAnyH_take (i := 12) (oi := { dst := (some 6), op := (Op.assign (Operand.tmp 58)), type := 4, pos := "law.go:40", after := #[{ on := 11, ground := Ground.data }, { on := 9, ground := Ground.chain }, { on := 0, ground := Ground.phase }, { on := 1, ground := Ground.phase }, { on := 2, ground := Ground.phase }, { on := 3, ground := Ground.phase }, { on := 4, ground := Ground.phase }, { on := 5, ground := Ground.phase }, { on := 6, ground := Ground.phase }, { on := 7, ground := Ground.phase }, { on := 8, ground := Ground.phase }, { on := 9, ground := Ground.phase }, { on := 10, ground := Ground.phase }, { on := 11, ground := Ground.phase }], guard := none }) (v := ?_) rfl (by kernel_rfl) (by kernel_rfl) (by kernel_rfl) (fun _ _ _ h => h) (Or.inl ⟨by rfl, ?_⟩) hHeld ?_
        rotate_left
        · intro w hSw; (try dsimp only at hSw); go_simp; try with_reducible rfl
        try simp only [Act.put, List.setIfInBounds_toArray, List.set_cons_zero, List.set_cons_succ]
        refine wpAnyH_done (by kernel_rfl) ?_ _
        go_wp2_with fail
        go_ret
        exact ⟨rfl, HQ.out _ hHeld⟩
      | false =>
        cases h7 : (x.f0 == 7) with
        | true =>
          have hf : fitsT x x false = true := by rw [fits_self, hs, beq_iff_eq.mp h7]; rfl
          go_wp2_with fail
          refine wp_region_held_drew (S := fun w' => (w'.cell? ⟨w.heap.size, 0, none⟩ = some (.int .i64 x.f0) ∧ w'.cell? ⟨w.heap.size, 1, none⟩ = some (.int .i64 x.f1) ∧ w'.cell? ⟨w.heap.size, 2, none⟩ = some (.string x.f2) ∧ w'.cell? ⟨w.heap.size, 3, none⟩ = some (.slice A x.f3.length c)) ∧ (w'.cell? ⟨w.heap.size + 1, 0, none⟩ = some (.int .i64 y.f0) ∧ w'.cell? ⟨w.heap.size + 1, 1, none⟩ = some (.int .i64 y.f1) ∧ w'.cell? ⟨w.heap.size + 1, 2, none⟩ = some (.string y.f2) ∧ w'.cell? ⟨w.heap.size + 1, 3, none⟩ = some (.slice B y.f3.length d)) ∧ (w'.cell? ⟨w.heap.size + 1 + 1, 0, none⟩ = some (.int .i64 z.f0) ∧ w'.cell? ⟨w.heap.size + 1 + 1, 1, none⟩ = some (.int .i64 z.f1) ∧ w'.cell? ⟨w.heap.size + 1 + 1, 2, none⟩ = some (.string z.f2) ∧ w'.cell? ⟨w.heap.size + 1 + 1, 3, none⟩ = some (.slice C z.f3.length f)) ∧ Below w.heap.size w w') (by kernel_rfl) ⟨hHeld.1, hHeld.2.1, hHeld.2.2.1, below_drew hHeld.2.2.2⟩ (fun hHeld => ?_)
          refine wpAnyH_take (i := 0) (oi := { dst := (some 47), op := (Op.move (Operand.tmp 7)), type := 4, pos := "law.go:40", after := #[], guard := none }) (v := ?_) rfl (by kernel_rfl) (by kernel_rfl) (by kernel_rfl) (fun _ _ _ h => h) (Or.inl ⟨by rfl, ?_⟩) hHeld ?_
          rotate_left
          · intro w hSw; (try dsimp only at hSw); go_simp; try with_reducible rfl
          try simp only [Act.put, List.setIfInBounds_toArray, List.set_cons_zero, List.set_cons_succ]
          refine wpAnyH_take (i := 1) (oi := { dst := (some 48), op := (Op.move (Operand.tmp 47)), type := 4, pos := "law.go:40", after := #[{ on := 0, ground := Ground.data }], guard := none }) (v := ?_) rfl (by kernel_rfl) (by kernel_rfl) (by kernel_rfl) (fun _ _ _ h => h) (Or.inl ⟨by rfl, ?_⟩) hHeld ?_
          rotate_left
          · intro w hSw; (try dsimp only at hSw); go_simp; try with_reducible rfl
          try simp only [Act.put, List.setIfInBounds_toArray, List.set_cons_zero, List.set_cons_succ]
          refine wpAnyH_take (i := 2) (oi := { dst := (some 49), op := (Op.load 24 (Operand.tmp 3)), type := 24, pos := "law.go:40", after := #[{ on := 1, ground := Ground.guard }], guard := (some (1, true)) }) (v := ?_) rfl (by kernel_rfl) (by kernel_rfl) (by kernel_rfl) (fun _ _ _ h => h) (Or.inl ⟨by rfl, ?_⟩) hHeld ?_
          rotate_left
          · intro w hSw; (try dsimp only at hSw); go_simp; try with_reducible rfl
          try simp only [Act.put, List.setIfInBounds_toArray, List.set_cons_zero, List.set_cons_succ]
          refine wpAnyH_take (i := 7) (oi := { dst := (some 54), op := (Op.load 24 (Operand.tmp 3)), type := 24, pos := "law.go:40", after := #[{ on := 1, ground := Ground.guard }], guard := (some (1, true)) }) (v := ?_) rfl (by kernel_rfl) (by kernel_rfl) (by kernel_rfl) (fun _ _ _ h => h) (Or.inl ⟨by rfl, ?_⟩) hHeld ?_
          rotate_left
          · intro w hSw; (try dsimp only at hSw); go_simp; try with_reducible rfl
          try simp only [Act.put, List.setIfInBounds_toArray, List.set_cons_zero, List.set_cons_succ]
          refine wpAnyH_take (i := 8) (oi := { dst := (some 55), op := (Op.load 24 (Operand.tmp 3)), type := 24, pos := "law.go:40", after := #[{ on := 1, ground := Ground.guard }], guard := (some (1, true)) }) (v := ?_) rfl (by kernel_rfl) (by kernel_rfl) (by kernel_rfl) (fun _ _ _ h => h) (Or.inl ⟨by rfl, ?_⟩) hHeld ?_
          rotate_left
          · intro w hSw; (try dsimp only at hSw); go_simp; try with_reducible rfl
          try simp only [Act.put, List.setIfInBounds_toArray, List.set_cons_zero, List.set_cons_succ]
          refine wpAnyH_ready (rs := [3]) (by kernel_rfl) (by simp) ?_
          refine AllReadyH.cons (o := { dst := (some 50), op := (Op.call { callee := (Callee.value (Operand.func 17)), args := #[(Operand.tmp 49)], argTypes := #[24] }), type := 4, pos := "law.go:40", after := #[{ on := 2, ground := Ground.data }, { on := 1, ground := Ground.chain }, { on := 1, ground := Ground.guard }], guard := (some (1, true)) }) rfl (fun K hK => ?_) AllReadyH.nil
          go_simp
          refine (scalar_calls _ _ _ _ _ _ _).mono ?_
          rintro e w2 ⟨rfl, hb2⟩
          go_wp2_with fail
          refine hK.out _ _ (HK.out _ _ hb2 hHeld) (fun hHeld => ?_)
          clear hK K
          try simp only [Act.put, List.setIfInBounds_toArray, List.set_cons_zero, List.set_cons_succ]
          refine wpAnyH_take (i := 4) (oi := { dst := (some 51), op := (Op.move (Operand.tmp 50)), type := 4, pos := "law.go:40", after := #[{ on := 3, ground := Ground.data }, { on := 3, ground := Ground.chain }, { on := 1, ground := Ground.guard }], guard := (some (1, true)) }) (v := ?_) rfl (by kernel_rfl) (by kernel_rfl) (by kernel_rfl) (fun _ _ _ h => h) (Or.inl ⟨by rfl, ?_⟩) hHeld ?_
          rotate_left
          · intro w hSw; (try dsimp only at hSw); go_simp; try with_reducible rfl
          try simp only [Act.put, List.setIfInBounds_toArray, List.set_cons_zero, List.set_cons_succ]
          refine wpAnyH_take (i := 5) (oi := { dst := (some 52), op := (Op.move (Operand.tmp 8)), type := 4, pos := "law.go:40", after := #[{ on := 4, ground := Ground.guard }], guard := (some (4, false)) }) (v := ?_) rfl (by kernel_rfl) (by kernel_rfl) (by kernel_rfl) (fun _ _ _ h => h) (Or.inl ⟨by rfl, ?_⟩) hHeld ?_
          rotate_left
          · intro w hSw; (try dsimp only at hSw); go_simp; try with_reducible rfl
          try simp only [Act.put, List.setIfInBounds_toArray, List.set_cons_zero, List.set_cons_succ]
          refine wpAnyH_take (i := 6) (oi := { dst := (some 53), op := (Op.pick (Operand.tmp 51) (Operand.const (Value.bool true)) (Operand.tmp 52)), type := 4, pos := "law.go:40", after := #[{ on := 4, ground := Ground.data }, { on := 5, ground := Ground.data }, { on := 1, ground := Ground.guard }], guard := (some (1, true)) }) (v := ?_) rfl (by kernel_rfl) (by kernel_rfl) (by kernel_rfl) (fun _ _ _ h => h) (Or.inl ⟨by rfl, ?_⟩) hHeld ?_
          rotate_left
          · intro w hSw; (try dsimp only at hSw); go_simp; try with_reducible rfl
          try simp only [Act.put, List.setIfInBounds_toArray, List.set_cons_zero, List.set_cons_succ]
          refine wpAnyH_ready (rs := [9]) (by kernel_rfl) (by simp) ?_
          refine AllReadyH.cons (o := { dst := (some 56), op := (Op.call { callee := (Callee.value (Operand.func 13)), args := #[(Operand.tmp 54), (Operand.tmp 55), (Operand.const (Value.bool false))], argTypes := #[24, 24, 4] }), type := 4, pos := "law.go:40", after := #[{ on := 7, ground := Ground.data }, { on := 8, ground := Ground.data }, { on := 4, ground := Ground.chain }, { on := 1, ground := Ground.guard }], guard := (some (1, true)) }) rfl (fun K hK => ?_) AllReadyH.nil
          go_simp
          refine (fits_calls _ _ _ _ _ _ _ _ (Kd.C_below (by first | exact HCx.out | exact HCy.out | exact HCz.out) (HQ.out _ hHeld)) (by first | exact HLx.out | exact HLy.out | exact HLz.out) (Kd.C_below (by first | exact HCx.out | exact HCy.out | exact HCz.out) (HQ.out _ hHeld)) (by first | exact HLx.out | exact HLy.out | exact HLz.out)).mono ?_
          rintro e w2 ⟨rfl, hb2⟩
          go_wp2_with fail
          refine hK.out _ _ (HK.out _ _ hb2 hHeld) (fun hHeld => ?_)
          clear hK K
          try simp only [Act.put, List.setIfInBounds_toArray, List.set_cons_zero, List.set_cons_succ]
          refine wpAnyH_take (i := 10) (oi := { dst := (some 57), op := (Op.binOp BinOp.eql 4 (Operand.tmp 53) (Operand.tmp 56) 4), type := 4, pos := "law.go:40", after := #[{ on := 6, ground := Ground.data }, { on := 9, ground := Ground.data }, { on := 1, ground := Ground.guard }], guard := (some (1, true)) }) (v := ?_) rfl (by kernel_rfl) (by kernel_rfl) (by kernel_rfl) (fun _ _ _ h => h) (Or.inl ⟨by rfl, ?_⟩) hHeld ?_
          rotate_left
          · intro w hSw; (try dsimp only at hSw); go_simp; try with_reducible rfl
          try simp only [Act.put, List.setIfInBounds_toArray, List.set_cons_zero, List.set_cons_succ]
          refine wpAnyH_take (i := 11) (oi := { dst := (some 58), op := (Op.pick (Operand.tmp 48) (Operand.tmp 57) (Operand.const (Value.bool false))), type := 4, pos := "law.go:40", after := #[{ on := 1, ground := Ground.data }, { on := 10, ground := Ground.data }], guard := none }) (v := ?_) rfl (by kernel_rfl) (by kernel_rfl) (by kernel_rfl) (fun _ _ _ h => h) (Or.inl ⟨by rfl, ?_⟩) hHeld ?_
          rotate_left
          · intro w hSw; (try dsimp only at hSw); go_simp; try with_reducible rfl
          try simp only [Act.put, List.setIfInBounds_toArray, List.set_cons_zero, List.set_cons_succ]
          refine wpAnyH_take (i := 12) (oi := { dst := (some 6), op := (Op.assign (Operand.tmp 58)), type := 4, pos := "law.go:40", after := #[{ on := 11, ground := Ground.data }, { on := 9, ground := Ground.chain }, { on := 0, ground := Ground.phase }, { on := 1, ground := Ground.phase }, { on := 2, ground := Ground.phase }, { on := 3, ground := Ground.phase }, { on := 4, ground := Ground.phase }, { on := 5, ground := Ground.phase }, { on := 6, ground := Ground.phase }, { on := 7, ground := Ground.phase }, { on := 8, ground := Ground.phase }, { on := 9, ground := Ground.phase }, { on := 10, ground := Ground.phase }, { on := 11, ground := Ground.phase }], guard := none }) (v := ?_) rfl (by kernel_rfl) (by kernel_rfl) (by kernel_rfl) (fun _ _ _ h => h) (Or.inl ⟨by rfl, ?_⟩) hHeld ?_
          rotate_left
          · intro w hSw; (try dsimp only at hSw); go_simp; try with_reducible rfl
          try simp only [Act.put, List.setIfInBounds_toArray, List.set_cons_zero, List.set_cons_succ]
          refine wpAnyH_done (by kernel_rfl) ?_ _
          go_wp2_with fail
          go_ret
          exact ⟨rfl, HQ.out _ hHeld⟩
        | false =>
          cases h8 : (x.f0 == 8) with
          | true =>
            have hf : fitsT x x false = true := by rw [fits_self, hs, beq_iff_eq.mp h8]; rfl
            go_wp2_with fail
            refine wp_region_held_drew (S := fun w' => (w'.cell? ⟨w.heap.size, 0, none⟩ = some (.int .i64 x.f0) ∧ w'.cell? ⟨w.heap.size, 1, none⟩ = some (.int .i64 x.f1) ∧ w'.cell? ⟨w.heap.size, 2, none⟩ = some (.string x.f2) ∧ w'.cell? ⟨w.heap.size, 3, none⟩ = some (.slice A x.f3.length c)) ∧ (w'.cell? ⟨w.heap.size + 1, 0, none⟩ = some (.int .i64 y.f0) ∧ w'.cell? ⟨w.heap.size + 1, 1, none⟩ = some (.int .i64 y.f1) ∧ w'.cell? ⟨w.heap.size + 1, 2, none⟩ = some (.string y.f2) ∧ w'.cell? ⟨w.heap.size + 1, 3, none⟩ = some (.slice B y.f3.length d)) ∧ (w'.cell? ⟨w.heap.size + 1 + 1, 0, none⟩ = some (.int .i64 z.f0) ∧ w'.cell? ⟨w.heap.size + 1 + 1, 1, none⟩ = some (.int .i64 z.f1) ∧ w'.cell? ⟨w.heap.size + 1 + 1, 2, none⟩ = some (.string z.f2) ∧ w'.cell? ⟨w.heap.size + 1 + 1, 3, none⟩ = some (.slice C z.f3.length f)) ∧ Below w.heap.size w w') (by kernel_rfl) ⟨hHeld.1, hHeld.2.1, hHeld.2.2.1, below_drew hHeld.2.2.2⟩ (fun hHeld => ?_)
            refine wpAnyH_take (i := 0) (oi := { dst := (some 47), op := (Op.move (Operand.tmp 7)), type := 4, pos := "law.go:40", after := #[], guard := none }) (v := ?_) rfl (by kernel_rfl) (by kernel_rfl) (by kernel_rfl) (fun _ _ _ h => h) (Or.inl ⟨by rfl, ?_⟩) hHeld ?_
            rotate_left
            · intro w hSw; (try dsimp only at hSw); go_simp; try with_reducible rfl
            try simp only [Act.put, List.setIfInBounds_toArray, List.set_cons_zero, List.set_cons_succ]
            refine wpAnyH_take (i := 1) (oi := { dst := (some 48), op := (Op.move (Operand.tmp 47)), type := 4, pos := "law.go:40", after := #[{ on := 0, ground := Ground.data }], guard := none }) (v := ?_) rfl (by kernel_rfl) (by kernel_rfl) (by kernel_rfl) (fun _ _ _ h => h) (Or.inl ⟨by rfl, ?_⟩) hHeld ?_
            rotate_left
            · intro w hSw; (try dsimp only at hSw); go_simp; try with_reducible rfl
            try simp only [Act.put, List.setIfInBounds_toArray, List.set_cons_zero, List.set_cons_succ]
            refine wpAnyH_take (i := 2) (oi := { dst := (some 49), op := (Op.load 24 (Operand.tmp 3)), type := 24, pos := "law.go:40", after := #[{ on := 1, ground := Ground.guard }], guard := (some (1, true)) }) (v := ?_) rfl (by kernel_rfl) (by kernel_rfl) (by kernel_rfl) (fun _ _ _ h => h) (Or.inl ⟨by rfl, ?_⟩) hHeld ?_
            rotate_left
            · intro w hSw; (try dsimp only at hSw); go_simp; try with_reducible rfl
            try simp only [Act.put, List.setIfInBounds_toArray, List.set_cons_zero, List.set_cons_succ]
            refine wpAnyH_take (i := 7) (oi := { dst := (some 54), op := (Op.load 24 (Operand.tmp 3)), type := 24, pos := "law.go:40", after := #[{ on := 1, ground := Ground.guard }], guard := (some (1, true)) }) (v := ?_) rfl (by kernel_rfl) (by kernel_rfl) (by kernel_rfl) (fun _ _ _ h => h) (Or.inl ⟨by rfl, ?_⟩) hHeld ?_
            rotate_left
            · intro w hSw; (try dsimp only at hSw); go_simp; try with_reducible rfl
            try simp only [Act.put, List.setIfInBounds_toArray, List.set_cons_zero, List.set_cons_succ]
            refine wpAnyH_take (i := 8) (oi := { dst := (some 55), op := (Op.load 24 (Operand.tmp 3)), type := 24, pos := "law.go:40", after := #[{ on := 1, ground := Ground.guard }], guard := (some (1, true)) }) (v := ?_) rfl (by kernel_rfl) (by kernel_rfl) (by kernel_rfl) (fun _ _ _ h => h) (Or.inl ⟨by rfl, ?_⟩) hHeld ?_
            rotate_left
            · intro w hSw; (try dsimp only at hSw); go_simp; try with_reducible rfl
            try simp only [Act.put, List.setIfInBounds_toArray, List.set_cons_zero, List.set_cons_succ]
            refine wpAnyH_ready (rs := [3]) (by kernel_rfl) (by simp) ?_
            refine AllReadyH.cons (o := { dst := (some 50), op := (Op.call { callee := (Callee.value (Operand.func 17)), args := #[(Operand.tmp 49)], argTypes := #[24] }), type := 4, pos := "law.go:40", after := #[{ on := 2, ground := Ground.data }, { on := 1, ground := Ground.chain }, { on := 1, ground := Ground.guard }], guard := (some (1, true)) }) rfl (fun K hK => ?_) AllReadyH.nil
            go_simp
            refine (scalar_calls _ _ _ _ _ _ _).mono ?_
            rintro e w2 ⟨rfl, hb2⟩
            go_wp2_with fail
            refine hK.out _ _ (HK.out _ _ hb2 hHeld) (fun hHeld => ?_)
            clear hK K
            try simp only [Act.put, List.setIfInBounds_toArray, List.set_cons_zero, List.set_cons_succ]
            refine wpAnyH_take (i := 4) (oi := { dst := (some 51), op := (Op.move (Operand.tmp 50)), type := 4, pos := "law.go:40", after := #[{ on := 3, ground := Ground.data }, { on := 3, ground := Ground.chain }, { on := 1, ground := Ground.guard }], guard := (some (1, true)) }) (v := ?_) rfl (by kernel_rfl) (by kernel_rfl) (by kernel_rfl) (fun _ _ _ h => h) (Or.inl ⟨by rfl, ?_⟩) hHeld ?_
            rotate_left
            · intro w hSw; (try dsimp only at hSw); go_simp; try with_reducible rfl
            try simp only [Act.put, List.setIfInBounds_toArray, List.set_cons_zero, List.set_cons_succ]
            refine wpAnyH_take (i := 5) (oi := { dst := (some 52), op := (Op.move (Operand.tmp 8)), type := 4, pos := "law.go:40", after := #[{ on := 4, ground := Ground.guard }], guard := (some (4, false)) }) (v := ?_) rfl (by kernel_rfl) (by kernel_rfl) (by kernel_rfl) (fun _ _ _ h => h) (Or.inl ⟨by rfl, ?_⟩) hHeld ?_
            rotate_left
            · intro w hSw; (try dsimp only at hSw); go_simp; try with_reducible rfl
            try simp only [Act.put, List.setIfInBounds_toArray, List.set_cons_zero, List.set_cons_succ]
            refine wpAnyH_take (i := 6) (oi := { dst := (some 53), op := (Op.pick (Operand.tmp 51) (Operand.const (Value.bool true)) (Operand.tmp 52)), type := 4, pos := "law.go:40", after := #[{ on := 4, ground := Ground.data }, { on := 5, ground := Ground.data }, { on := 1, ground := Ground.guard }], guard := (some (1, true)) }) (v := ?_) rfl (by kernel_rfl) (by kernel_rfl) (by kernel_rfl) (fun _ _ _ h => h) (Or.inl ⟨by rfl, ?_⟩) hHeld ?_
            rotate_left
            · intro w hSw; (try dsimp only at hSw); go_simp; try with_reducible rfl
            try simp only [Act.put, List.setIfInBounds_toArray, List.set_cons_zero, List.set_cons_succ]
            refine wpAnyH_ready (rs := [9]) (by kernel_rfl) (by simp) ?_
            refine AllReadyH.cons (o := { dst := (some 56), op := (Op.call { callee := (Callee.value (Operand.func 13)), args := #[(Operand.tmp 54), (Operand.tmp 55), (Operand.const (Value.bool false))], argTypes := #[24, 24, 4] }), type := 4, pos := "law.go:40", after := #[{ on := 7, ground := Ground.data }, { on := 8, ground := Ground.data }, { on := 4, ground := Ground.chain }, { on := 1, ground := Ground.guard }], guard := (some (1, true)) }) rfl (fun K hK => ?_) AllReadyH.nil
            go_simp
            refine (fits_calls _ _ _ _ _ _ _ _ (Kd.C_below (by first | exact HCx.out | exact HCy.out | exact HCz.out) (HQ.out _ hHeld)) (by first | exact HLx.out | exact HLy.out | exact HLz.out) (Kd.C_below (by first | exact HCx.out | exact HCy.out | exact HCz.out) (HQ.out _ hHeld)) (by first | exact HLx.out | exact HLy.out | exact HLz.out)).mono ?_
            rintro e w2 ⟨rfl, hb2⟩
            go_wp2_with fail
            refine hK.out _ _ (HK.out _ _ hb2 hHeld) (fun hHeld => ?_)
            clear hK K
            try simp only [Act.put, List.setIfInBounds_toArray, List.set_cons_zero, List.set_cons_succ]
            refine wpAnyH_take (i := 10) (oi := { dst := (some 57), op := (Op.binOp BinOp.eql 4 (Operand.tmp 53) (Operand.tmp 56) 4), type := 4, pos := "law.go:40", after := #[{ on := 6, ground := Ground.data }, { on := 9, ground := Ground.data }, { on := 1, ground := Ground.guard }], guard := (some (1, true)) }) (v := ?_) rfl (by kernel_rfl) (by kernel_rfl) (by kernel_rfl) (fun _ _ _ h => h) (Or.inl ⟨by rfl, ?_⟩) hHeld ?_
            rotate_left
            · intro w hSw; (try dsimp only at hSw); go_simp; try with_reducible rfl
            try simp only [Act.put, List.setIfInBounds_toArray, List.set_cons_zero, List.set_cons_succ]
            refine wpAnyH_take (i := 11) (oi := { dst := (some 58), op := (Op.pick (Operand.tmp 48) (Operand.tmp 57) (Operand.const (Value.bool false))), type := 4, pos := "law.go:40", after := #[{ on := 1, ground := Ground.data }, { on := 10, ground := Ground.data }], guard := none }) (v := ?_) rfl (by kernel_rfl) (by kernel_rfl) (by kernel_rfl) (fun _ _ _ h => h) (Or.inl ⟨by rfl, ?_⟩) hHeld ?_
            rotate_left
            · intro w hSw; (try dsimp only at hSw); go_simp; try with_reducible rfl
            try simp only [Act.put, List.setIfInBounds_toArray, List.set_cons_zero, List.set_cons_succ]
            refine wpAnyH_take (i := 12) (oi := { dst := (some 6), op := (Op.assign (Operand.tmp 58)), type := 4, pos := "law.go:40", after := #[{ on := 11, ground := Ground.data }, { on := 9, ground := Ground.chain }, { on := 0, ground := Ground.phase }, { on := 1, ground := Ground.phase }, { on := 2, ground := Ground.phase }, { on := 3, ground := Ground.phase }, { on := 4, ground := Ground.phase }, { on := 5, ground := Ground.phase }, { on := 6, ground := Ground.phase }, { on := 7, ground := Ground.phase }, { on := 8, ground := Ground.phase }, { on := 9, ground := Ground.phase }, { on := 10, ground := Ground.phase }, { on := 11, ground := Ground.phase }], guard := none }) (v := ?_) rfl (by kernel_rfl) (by kernel_rfl) (by kernel_rfl) (fun _ _ _ h => h) (Or.inl ⟨by rfl, ?_⟩) hHeld ?_
            rotate_left
            · intro w hSw; (try dsimp only at hSw); go_simp; try with_reducible rfl
            try simp only [Act.put, List.setIfInBounds_toArray, List.set_cons_zero, List.set_cons_succ]
            refine wpAnyH_done (by kernel_rfl) ?_ _
            go_wp2_with fail
            go_ret
            exact ⟨rfl, HQ.out _ hHeld⟩
          | false =>
            have hf : fitsT x x false = false := by rw [fits_self, hs, decide_eq_false (beq_eq_false_iff_ne.mp h7), decide_eq_false (beq_eq_false_iff_ne.mp h8)]; rfl
            go_wp2_with fail
            refine wp_region_held_drew (S := fun w' => (w'.cell? ⟨w.heap.size, 0, none⟩ = some (.int .i64 x.f0) ∧ w'.cell? ⟨w.heap.size, 1, none⟩ = some (.int .i64 x.f1) ∧ w'.cell? ⟨w.heap.size, 2, none⟩ = some (.string x.f2) ∧ w'.cell? ⟨w.heap.size, 3, none⟩ = some (.slice A x.f3.length c)) ∧ (w'.cell? ⟨w.heap.size + 1, 0, none⟩ = some (.int .i64 y.f0) ∧ w'.cell? ⟨w.heap.size + 1, 1, none⟩ = some (.int .i64 y.f1) ∧ w'.cell? ⟨w.heap.size + 1, 2, none⟩ = some (.string y.f2) ∧ w'.cell? ⟨w.heap.size + 1, 3, none⟩ = some (.slice B y.f3.length d)) ∧ (w'.cell? ⟨w.heap.size + 1 + 1, 0, none⟩ = some (.int .i64 z.f0) ∧ w'.cell? ⟨w.heap.size + 1 + 1, 1, none⟩ = some (.int .i64 z.f1) ∧ w'.cell? ⟨w.heap.size + 1 + 1, 2, none⟩ = some (.string z.f2) ∧ w'.cell? ⟨w.heap.size + 1 + 1, 3, none⟩ = some (.slice C z.f3.length f)) ∧ Below w.heap.size w w') (by kernel_rfl) ⟨hHeld.1, hHeld.2.1, hHeld.2.2.1, below_drew hHeld.2.2.2⟩ (fun hHeld => ?_)
            refine wpAnyH_take (i := 0) (oi := { dst := (some 47), op := (Op.move (Operand.tmp 7)), type := 4, pos := "law.go:40", after := #[], guard := none }) (v := ?_) rfl (by kernel_rfl) (by kernel_rfl) (by kernel_rfl) (fun _ _ _ h => h) (Or.inl ⟨by rfl, ?_⟩) hHeld ?_
            rotate_left
            · intro w hSw; (try dsimp only at hSw); go_simp; try with_reducible rfl
            try simp only [Act.put, List.setIfInBounds_toArray, List.set_cons_zero, List.set_cons_succ]
            refine wpAnyH_take (i := 1) (oi := { dst := (some 48), op := (Op.move (Operand.tmp 47)), type := 4, pos := "law.go:40", after := #[{ on := 0, ground := Ground.data }], guard := none }) (v := ?_) rfl (by kernel_rfl) (by kernel_rfl) (by kernel_rfl) (fun _ _ _ h => h) (Or.inl ⟨by rfl, ?_⟩) hHeld ?_
            rotate_left
            · intro w hSw; (try dsimp only at hSw); go_simp; try with_reducible rfl
            try simp only [Act.put, List.setIfInBounds_toArray, List.set_cons_zero, List.set_cons_succ]
            refine wpAnyH_take (i := 2) (oi := { dst := (some 49), op := (Op.load 24 (Operand.tmp 3)), type := 24, pos := "law.go:40", after := #[{ on := 1, ground := Ground.guard }], guard := (some (1, true)) }) (v := ?_) rfl (by kernel_rfl) (by kernel_rfl) (by kernel_rfl) (fun _ _ _ h => h) (Or.inl ⟨by rfl, ?_⟩) hHeld ?_
            rotate_left
            · intro w hSw; (try dsimp only at hSw); go_simp; try with_reducible rfl
            try simp only [Act.put, List.setIfInBounds_toArray, List.set_cons_zero, List.set_cons_succ]
            refine wpAnyH_take (i := 7) (oi := { dst := (some 54), op := (Op.load 24 (Operand.tmp 3)), type := 24, pos := "law.go:40", after := #[{ on := 1, ground := Ground.guard }], guard := (some (1, true)) }) (v := ?_) rfl (by kernel_rfl) (by kernel_rfl) (by kernel_rfl) (fun _ _ _ h => h) (Or.inl ⟨by rfl, ?_⟩) hHeld ?_
            rotate_left
            · intro w hSw; (try dsimp only at hSw); go_simp; try with_reducible rfl
            try simp only [Act.put, List.setIfInBounds_toArray, List.set_cons_zero, List.set_cons_succ]
            refine wpAnyH_take (i := 8) (oi := { dst := (some 55), op := (Op.load 24 (Operand.tmp 3)), type := 24, pos := "law.go:40", after := #[{ on := 1, ground := Ground.guard }], guard := (some (1, true)) }) (v := ?_) rfl (by kernel_rfl) (by kernel_rfl) (by kernel_rfl) (fun _ _ _ h => h) (Or.inl ⟨by rfl, ?_⟩) hHeld ?_
            rotate_left
            · intro w hSw; (try dsimp only at hSw); go_simp; try with_reducible rfl
            try simp only [Act.put, List.setIfInBounds_toArray, List.set_cons_zero, List.set_cons_succ]
            refine wpAnyH_ready (rs := [3]) (by kernel_rfl) (by simp) ?_
            refine AllReadyH.cons (o := { dst := (some 50), op := (Op.call { callee := (Callee.value (Operand.func 17)), args := #[(Operand.tmp 49)], argTypes := #[24] }), type := 4, pos := "law.go:40", after := #[{ on := 2, ground := Ground.data }, { on := 1, ground := Ground.chain }, { on := 1, ground := Ground.guard }], guard := (some (1, true)) }) rfl (fun K hK => ?_) AllReadyH.nil
            go_simp
            refine (scalar_calls _ _ _ _ _ _ _).mono ?_
            rintro e w2 ⟨rfl, hb2⟩
            go_wp2_with fail
            refine hK.out _ _ (HK.out _ _ hb2 hHeld) (fun hHeld => ?_)
            clear hK K
            try simp only [Act.put, List.setIfInBounds_toArray, List.set_cons_zero, List.set_cons_succ]
            refine wpAnyH_take (i := 4) (oi := { dst := (some 51), op := (Op.move (Operand.tmp 50)), type := 4, pos := "law.go:40", after := #[{ on := 3, ground := Ground.data }, { on := 3, ground := Ground.chain }, { on := 1, ground := Ground.guard }], guard := (some (1, true)) }) (v := ?_) rfl (by kernel_rfl) (by kernel_rfl) (by kernel_rfl) (fun _ _ _ h => h) (Or.inl ⟨by rfl, ?_⟩) hHeld ?_
            rotate_left
            · intro w hSw; (try dsimp only at hSw); go_simp; try with_reducible rfl
            try simp only [Act.put, List.setIfInBounds_toArray, List.set_cons_zero, List.set_cons_succ]
            refine wpAnyH_take (i := 5) (oi := { dst := (some 52), op := (Op.move (Operand.tmp 8)), type := 4, pos := "law.go:40", after := #[{ on := 4, ground := Ground.guard }], guard := (some (4, false)) }) (v := ?_) rfl (by kernel_rfl) (by kernel_rfl) (by kernel_rfl) (fun _ _ _ h => h) (Or.inl ⟨by rfl, ?_⟩) hHeld ?_
            rotate_left
            · intro w hSw; (try dsimp only at hSw); go_simp; try with_reducible rfl
            try simp only [Act.put, List.setIfInBounds_toArray, List.set_cons_zero, List.set_cons_succ]
            refine wpAnyH_take (i := 6) (oi := { dst := (some 53), op := (Op.pick (Operand.tmp 51) (Operand.const (Value.bool true)) (Operand.tmp 52)), type := 4, pos := "law.go:40", after := #[{ on := 4, ground := Ground.data }, { on := 5, ground := Ground.data }, { on := 1, ground := Ground.guard }], guard := (some (1, true)) }) (v := ?_) rfl (by kernel_rfl) (by kernel_rfl) (by kernel_rfl) (fun _ _ _ h => h) (Or.inl ⟨by rfl, ?_⟩) hHeld ?_
            rotate_left
            · intro w hSw; (try dsimp only at hSw); go_simp; try with_reducible rfl
            try simp only [Act.put, List.setIfInBounds_toArray, List.set_cons_zero, List.set_cons_succ]
            refine wpAnyH_ready (rs := [9]) (by kernel_rfl) (by simp) ?_
            refine AllReadyH.cons (o := { dst := (some 56), op := (Op.call { callee := (Callee.value (Operand.func 13)), args := #[(Operand.tmp 54), (Operand.tmp 55), (Operand.const (Value.bool false))], argTypes := #[24, 24, 4] }), type := 4, pos := "law.go:40", after := #[{ on := 7, ground := Ground.data }, { on := 8, ground := Ground.data }, { on := 4, ground := Ground.chain }, { on := 1, ground := Ground.guard }], guard := (some (1, true)) }) rfl (fun K hK => ?_) AllReadyH.nil
            go_simp
            refine (fits_calls _ _ _ _ _ _ _ _ (Kd.C_below (by first | exact HCx.out | exact HCy.out | exact HCz.out) (HQ.out _ hHeld)) (by first | exact HLx.out | exact HLy.out | exact HLz.out) (Kd.C_below (by first | exact HCx.out | exact HCy.out | exact HCz.out) (HQ.out _ hHeld)) (by first | exact HLx.out | exact HLy.out | exact HLz.out)).mono ?_
            rintro e w2 ⟨rfl, hb2⟩
            go_wp2_with fail
            refine hK.out _ _ (HK.out _ _ hb2 hHeld) (fun hHeld => ?_)
            clear hK K
            try simp only [Act.put, List.setIfInBounds_toArray, List.set_cons_zero, List.set_cons_succ]
            refine wpAnyH_take (i := 10) (oi := { dst := (some 57), op := (Op.binOp BinOp.eql 4 (Operand.tmp 53) (Operand.tmp 56) 4), type := 4, pos := "law.go:40", after := #[{ on := 6, ground := Ground.data }, { on := 9, ground := Ground.data }, { on := 1, ground := Ground.guard }], guard := (some (1, true)) }) (v := ?_) rfl (by kernel_rfl) (by kernel_rfl) (by kernel_rfl) (fun _ _ _ h => h) (Or.inl ⟨by rfl, ?_⟩) hHeld ?_
            rotate_left
            · intro w hSw; (try dsimp only at hSw); go_simp; try with_reducible rfl
            try simp only [Act.put, List.setIfInBounds_toArray, List.set_cons_zero, List.set_cons_succ]
            refine wpAnyH_take (i := 11) (oi := { dst := (some 58), op := (Op.pick (Operand.tmp 48) (Operand.tmp 57) (Operand.const (Value.bool false))), type := 4, pos := "law.go:40", after := #[{ on := 1, ground := Ground.data }, { on := 10, ground := Ground.data }], guard := none }) (v := ?_) rfl (by kernel_rfl) (by kernel_rfl) (by kernel_rfl) (fun _ _ _ h => h) (Or.inl ⟨by rfl, ?_⟩) hHeld ?_
            rotate_left
            · intro w hSw; (try dsimp only at hSw); go_simp; try with_reducible rfl
            try simp only [Act.put, List.setIfInBounds_toArray, List.set_cons_zero, List.set_cons_succ]
            refine wpAnyH_take (i := 12) (oi := { dst := (some 6), op := (Op.assign (Operand.tmp 58)), type := 4, pos := "law.go:40", after := #[{ on := 11, ground := Ground.data }, { on := 9, ground := Ground.chain }, { on := 0, ground := Ground.phase }, { on := 1, ground := Ground.phase }, { on := 2, ground := Ground.phase }, { on := 3, ground := Ground.phase }, { on := 4, ground := Ground.phase }, { on := 5, ground := Ground.phase }, { on := 6, ground := Ground.phase }, { on := 7, ground := Ground.phase }, { on := 8, ground := Ground.phase }, { on := 9, ground := Ground.phase }, { on := 10, ground := Ground.phase }, { on := 11, ground := Ground.phase }], guard := none }) (v := ?_) rfl (by kernel_rfl) (by kernel_rfl) (by kernel_rfl) (fun _ _ _ h => h) (Or.inl ⟨by rfl, ?_⟩) hHeld ?_
            rotate_left
            · intro w hSw; (try dsimp only at hSw); go_simp; try with_reducible rfl
            try simp only [Act.put, List.setIfInBounds_toArray, List.set_cons_zero, List.set_cons_succ]
            refine wpAnyH_done (by kernel_rfl) ?_ _
            go_wp2_with fail
            go_ret
            exact ⟨rfl, HQ.out _ hHeld⟩
    | false =>
      go_wp2_with fail
      refine wp_region_held_drew (S := fun w' => (w'.cell? ⟨w.heap.size, 0, none⟩ = some (.int .i64 x.f0) ∧ w'.cell? ⟨w.heap.size, 1, none⟩ = some (.int .i64 x.f1) ∧ w'.cell? ⟨w.heap.size, 2, none⟩ = some (.string x.f2) ∧ w'.cell? ⟨w.heap.size, 3, none⟩ = some (.slice A x.f3.length c)) ∧ (w'.cell? ⟨w.heap.size + 1, 0, none⟩ = some (.int .i64 y.f0) ∧ w'.cell? ⟨w.heap.size + 1, 1, none⟩ = some (.int .i64 y.f1) ∧ w'.cell? ⟨w.heap.size + 1, 2, none⟩ = some (.string y.f2) ∧ w'.cell? ⟨w.heap.size + 1, 3, none⟩ = some (.slice B y.f3.length d)) ∧ (w'.cell? ⟨w.heap.size + 1 + 1, 0, none⟩ = some (.int .i64 z.f0) ∧ w'.cell? ⟨w.heap.size + 1 + 1, 1, none⟩ = some (.int .i64 z.f1) ∧ w'.cell? ⟨w.heap.size + 1 + 1, 2, none⟩ = some (.string z.f2) ∧ w'.cell? ⟨w.heap.size + 1 + 1, 3, none⟩ = some (.slice C z.f3.length f)) ∧ Below w.heap.size w w') (by kernel_rfl) ⟨hSx, hSy, hSz, below_drew hSB⟩ (fun hHeld => ?_)
      refine wpAnyH_take (i := 0) (oi := { dst := (some 10), op := (Op.load 24 (Operand.tmp 3)), type := 24, pos := "law.go:36", after := #[], guard := none }) (v := ?_) rfl (by kernel_rfl) (by kernel_rfl) (by kernel_rfl) (fun _ _ _ h => h) (Or.inl ⟨by rfl, ?_⟩) hHeld ?_
      rotate_left
      · intro w hSw; (try dsimp only at hSw); go_simp; try with_reducible rfl
      try simp only [Act.put, List.setIfInBounds_toArray, List.set_cons_zero, List.set_cons_succ]
      refine wpAnyH_take (i := 1) (oi := { dst := (some 11), op := (Op.load 24 (Operand.tmp 3)), type := 24, pos := "law.go:36", after := #[], guard := none }) (v := ?_) rfl (by kernel_rfl) (by kernel_rfl) (by kernel_rfl) (fun _ _ _ h => h) (Or.inl ⟨by rfl, ?_⟩) hHeld ?_
      rotate_left
      · intro w hSw; (try dsimp only at hSw); go_simp; try with_reducible rfl
      try simp only [Act.put, List.setIfInBounds_toArray, List.set_cons_zero, List.set_cons_succ]
      refine wpAnyH_ready (rs := [2]) (by kernel_rfl) (by simp) ?_
      refine AllReadyH.cons (o := { dst := (some 12), op := (Op.call { callee := (Callee.value (Operand.func 11)), args := #[(Operand.tmp 10), (Operand.tmp 11)], argTypes := #[24, 24] }), type := 4, pos := "law.go:36", after := #[{ on := 0, ground := Ground.data }, { on := 1, ground := Ground.data }], guard := none }) rfl (fun K hK => ?_) AllReadyH.nil
      go_simp
      refine (same_calls _ _ _ _ _ _ _ (Kd.C_below (by first | exact HCx.out | exact HCy.out | exact HCz.out) (HQ.out _ hHeld)) (by first | exact HLx.out | exact HLy.out | exact HLz.out) (Kd.C_below (by first | exact HCx.out | exact HCy.out | exact HCz.out) (HQ.out _ hHeld)) (by first | exact HLx.out | exact HLy.out | exact HLz.out)).mono ?_
      rintro e w2 ⟨rfl, hb2⟩
      go_wp2_with fail
      refine hK.out _ _ (HK.out _ _ hb2 hHeld) (fun hHeld => ?_)
      clear hK K
      try simp only [Act.put, List.setIfInBounds_toArray, List.set_cons_zero, List.set_cons_succ]
      refine wpAnyH_take (i := 3) (oi := { dst := (some 13), op := (Op.unOp UnOp.not 4 (Operand.tmp 12)), type := 4, pos := "law.go:36", after := #[{ on := 2, ground := Ground.data }], guard := none }) (v := ?_) rfl (by kernel_rfl) (by kernel_rfl) (by kernel_rfl) (fun _ _ _ h => h) (Or.inl ⟨by rfl, ?_⟩) hHeld ?_
      rotate_left
      · intro w hSw; (try dsimp only at hSw); go_simp; try with_reducible rfl
      try simp only [Act.put, List.setIfInBounds_toArray, List.set_cons_zero, List.set_cons_succ]
      refine wpAnyH_take (i := 4) (oi := { dst := (some 14), op := (Op.move (Operand.tmp 13)), type := 4, pos := "law.go:36", after := #[{ on := 3, ground := Ground.data }, { on := 2, ground := Ground.chain }], guard := none }) (v := ?_) rfl (by kernel_rfl) (by kernel_rfl) (by kernel_rfl) (fun _ _ _ h => h) (Or.inl ⟨by rfl, ?_⟩) hHeld ?_
      rotate_left
      · intro w hSw; (try dsimp only at hSw); go_simp; try with_reducible rfl
      try simp only [Act.put, List.setIfInBounds_toArray, List.set_cons_zero, List.set_cons_succ]
      refine wpAnyH_take (i := 5) (oi := { dst := (some 15), op := (Op.load 24 (Operand.tmp 3)), type := 24, pos := "law.go:36", after := #[{ on := 4, ground := Ground.guard }], guard := (some (4, false)) }) (v := ?_) rfl (by kernel_rfl) (by kernel_rfl) (by kernel_rfl) (fun _ _ _ h => h) (Or.inl ⟨by rfl, ?_⟩) hHeld ?_
      rotate_left
      · intro w hSw; (try dsimp only at hSw); go_simp; try with_reducible rfl
      try simp only [Act.put, List.setIfInBounds_toArray, List.set_cons_zero, List.set_cons_succ]
      refine wpAnyH_take (i := 6) (oi := { dst := (some 16), op := (Op.load 24 (Operand.tmp 4)), type := 24, pos := "law.go:36", after := #[{ on := 4, ground := Ground.guard }], guard := (some (4, false)) }) (v := ?_) rfl (by kernel_rfl) (by kernel_rfl) (by kernel_rfl) (fun _ _ _ h => h) (Or.inl ⟨by rfl, ?_⟩) hHeld ?_
      rotate_left
      · intro w hSw; (try dsimp only at hSw); go_simp; try with_reducible rfl
      try simp only [Act.put, List.setIfInBounds_toArray, List.set_cons_zero, List.set_cons_succ]
      refine wpAnyH_take (i := 8) (oi := { dst := (some 18), op := (Op.load 24 (Operand.tmp 4)), type := 24, pos := "law.go:36", after := #[{ on := 4, ground := Ground.guard }], guard := (some (4, false)) }) (v := ?_) rfl (by kernel_rfl) (by kernel_rfl) (by kernel_rfl) (fun _ _ _ h => h) (Or.inl ⟨by rfl, ?_⟩) hHeld ?_
      rotate_left
      · intro w hSw; (try dsimp only at hSw); go_simp; try with_reducible rfl
      try simp only [Act.put, List.setIfInBounds_toArray, List.set_cons_zero, List.set_cons_succ]
      refine wpAnyH_take (i := 9) (oi := { dst := (some 19), op := (Op.load 24 (Operand.tmp 3)), type := 24, pos := "law.go:36", after := #[{ on := 4, ground := Ground.guard }], guard := (some (4, false)) }) (v := ?_) rfl (by kernel_rfl) (by kernel_rfl) (by kernel_rfl) (fun _ _ _ h => h) (Or.inl ⟨by rfl, ?_⟩) hHeld ?_
      rotate_left
      · intro w hSw; (try dsimp only at hSw); go_simp; try with_reducible rfl
      try simp only [Act.put, List.setIfInBounds_toArray, List.set_cons_zero, List.set_cons_succ]
      refine wpAnyH_ready (rs := [7]) (by kernel_rfl) (by simp) ?_
      refine AllReadyH.cons (o := { dst := (some 17), op := (Op.call { callee := (Callee.value (Operand.func 11)), args := #[(Operand.tmp 15), (Operand.tmp 16)], argTypes := #[24, 24] }), type := 4, pos := "law.go:36", after := #[{ on := 5, ground := Ground.data }, { on := 6, ground := Ground.data }, { on := 4, ground := Ground.chain }, { on := 4, ground := Ground.guard }], guard := (some (4, false)) }) rfl (fun K hK => ?_) AllReadyH.nil
      go_simp
      refine (same_calls _ _ _ _ _ _ _ (Kd.C_below (by first | exact HCx.out | exact HCy.out | exact HCz.out) (HQ.out _ hHeld)) (by first | exact HLx.out | exact HLy.out | exact HLz.out) (Kd.C_below (by first | exact HCx.out | exact HCy.out | exact HCz.out) (HQ.out _ hHeld)) (by first | exact HLx.out | exact HLy.out | exact HLz.out)).mono ?_
      rintro e w2 ⟨rfl, hb2⟩
      go_wp2_with fail
      refine hK.out _ _ (HK.out _ _ hb2 hHeld) (fun hHeld => ?_)
      clear hK K
      try simp only [Act.put, List.setIfInBounds_toArray, List.set_cons_zero, List.set_cons_succ]
      refine wpAnyH_ready (rs := [10]) (by kernel_rfl) (by simp) ?_
      refine AllReadyH.cons (o := { dst := (some 20), op := (Op.call { callee := (Callee.value (Operand.func 11)), args := #[(Operand.tmp 18), (Operand.tmp 19)], argTypes := #[24, 24] }), type := 4, pos := "law.go:36", after := #[{ on := 8, ground := Ground.data }, { on := 9, ground := Ground.data }, { on := 7, ground := Ground.chain }, { on := 4, ground := Ground.guard }], guard := (some (4, false)) }) rfl (fun K hK => ?_) AllReadyH.nil
      go_simp
      refine (same_calls _ _ _ _ _ _ _ (Kd.C_below (by first | exact HCx.out | exact HCy.out | exact HCz.out) (HQ.out _ hHeld)) (by first | exact HLx.out | exact HLy.out | exact HLz.out) (Kd.C_below (by first | exact HCx.out | exact HCy.out | exact HCz.out) (HQ.out _ hHeld)) (by first | exact HLx.out | exact HLy.out | exact HLz.out)).mono ?_
      rintro e w2 ⟨rfl, hb2⟩
      go_wp2_with fail
      refine hK.out _ _ (HK.out _ _ hb2 hHeld) (fun hHeld => ?_)
      clear hK K
      try simp only [Act.put, List.setIfInBounds_toArray, List.set_cons_zero, List.set_cons_succ]
      refine wpAnyH_take (i := 11) (oi := { dst := (some 21), op := (Op.binOp BinOp.neq 4 (Operand.tmp 17) (Operand.tmp 20) 4), type := 4, pos := "law.go:36", after := #[{ on := 7, ground := Ground.data }, { on := 10, ground := Ground.data }, { on := 4, ground := Ground.guard }], guard := (some (4, false)) }) (v := ?_) rfl (by kernel_rfl) (by kernel_rfl) (by kernel_rfl) (fun _ _ _ h => h) (Or.inl ⟨by rfl, ?_⟩) hHeld ?_
      rotate_left
      · intro w hSw; (try dsimp only at hSw); go_simp; try with_reducible rfl
      try simp only [Act.put, List.setIfInBounds_toArray, List.set_cons_zero, List.set_cons_succ]
      refine wpAnyH_take (i := 12) (oi := { dst := (some 22), op := (Op.pick (Operand.tmp 14) (Operand.const (Value.bool true)) (Operand.tmp 21)), type := 4, pos := "law.go:36", after := #[{ on := 4, ground := Ground.data }, { on := 11, ground := Ground.data }], guard := none }) (v := ?_) rfl (by kernel_rfl) (by kernel_rfl) (by kernel_rfl) (fun _ _ _ h => h) (Or.inl ⟨by rfl, ?_⟩) hHeld ?_
      rotate_left
      · intro w hSw; (try dsimp only at hSw); go_simp; try with_reducible rfl
      try simp only [Act.put, List.setIfInBounds_toArray, List.set_cons_zero, List.set_cons_succ]
      refine wpAnyH_take (i := 13) (oi := { dst := (some 23), op := (Op.move (Operand.tmp 22)), type := 4, pos := "law.go:36", after := #[{ on := 12, ground := Ground.data }, { on := 10, ground := Ground.chain }], guard := none }) (v := ?_) rfl (by kernel_rfl) (by kernel_rfl) (by kernel_rfl) (fun _ _ _ h => h) (Or.inl ⟨by rfl, ?_⟩) hHeld ?_
      rotate_left
      · intro w hSw; (try dsimp only at hSw); go_simp; try with_reducible rfl
      try simp only [Act.put, List.setIfInBounds_toArray, List.set_cons_zero, List.set_cons_succ]
      refine wpAnyH_take (i := 14) (oi := { dst := (some 24), op := (Op.load 24 (Operand.tmp 3)), type := 24, pos := "law.go:36", after := #[{ on := 13, ground := Ground.guard }], guard := (some (13, false)) }) (v := ?_) rfl (by kernel_rfl) (by kernel_rfl) (by kernel_rfl) (fun _ _ _ h => h) (Or.inl ⟨by rfl, ?_⟩) hHeld ?_
      rotate_left
      · intro w hSw; (try dsimp only at hSw); go_simp; try with_reducible rfl
      try simp only [Act.put, List.setIfInBounds_toArray, List.set_cons_zero, List.set_cons_succ]
      refine wpAnyH_take (i := 15) (oi := { dst := (some 25), op := (Op.load 24 (Operand.tmp 4)), type := 24, pos := "law.go:36", after := #[{ on := 13, ground := Ground.guard }], guard := (some (13, false)) }) (v := ?_) rfl (by kernel_rfl) (by kernel_rfl) (by kernel_rfl) (fun _ _ _ h => h) (Or.inl ⟨by rfl, ?_⟩) hHeld ?_
      rotate_left
      · intro w hSw; (try dsimp only at hSw); go_simp; try with_reducible rfl
      try simp only [Act.put, List.setIfInBounds_toArray, List.set_cons_zero, List.set_cons_succ]
      refine wpAnyH_ready (rs := [16]) (by kernel_rfl) (by simp) ?_
      refine AllReadyH.cons (o := { dst := (some 26), op := (Op.call { callee := (Callee.value (Operand.func 11)), args := #[(Operand.tmp 24), (Operand.tmp 25)], argTypes := #[24, 24] }), type := 4, pos := "law.go:36", after := #[{ on := 14, ground := Ground.data }, { on := 15, ground := Ground.data }, { on := 13, ground := Ground.chain }, { on := 13, ground := Ground.guard }], guard := (some (13, false)) }) rfl (fun K hK => ?_) AllReadyH.nil
      go_simp
      refine (same_calls _ _ _ _ _ _ _ (Kd.C_below (by first | exact HCx.out | exact HCy.out | exact HCz.out) (HQ.out _ hHeld)) (by first | exact HLx.out | exact HLy.out | exact HLz.out) (Kd.C_below (by first | exact HCx.out | exact HCy.out | exact HCz.out) (HQ.out _ hHeld)) (by first | exact HLx.out | exact HLy.out | exact HLz.out)).mono ?_
      rintro e w2 ⟨rfl, hb2⟩
      go_wp2_with fail
      refine hK.out _ _ (HK.out _ _ hb2 hHeld) (fun hHeld => ?_)
      clear hK K
      try simp only [Act.put, List.setIfInBounds_toArray, List.set_cons_zero, List.set_cons_succ]
      refine wpAnyH_take (i := 17) (oi := { dst := (some 27), op := (Op.move (Operand.tmp 26)), type := 4, pos := "law.go:36", after := #[{ on := 16, ground := Ground.data }, { on := 16, ground := Ground.chain }, { on := 13, ground := Ground.guard }], guard := (some (13, false)) }) (v := ?_) rfl (by kernel_rfl) (by kernel_rfl) (by kernel_rfl) (fun _ _ _ h => h) (Or.inl ⟨by rfl, ?_⟩) hHeld ?_
      rotate_left
      · intro w hSw; (try dsimp only at hSw); go_simp; try with_reducible rfl
      try simp only [Act.put, List.setIfInBounds_toArray, List.set_cons_zero, List.set_cons_succ]
      refine wpAnyH_take (i := 18) (oi := { dst := (some 28), op := (Op.load 24 (Operand.tmp 4)), type := 24, pos := "law.go:36", after := #[{ on := 17, ground := Ground.guard }], guard := (some (17, true)) }) (v := ?_) rfl (by kernel_rfl) (by kernel_rfl) (by kernel_rfl) (fun _ _ _ h => h) (Or.inl ⟨by rfl, ?_⟩) hHeld ?_
      rotate_left
      · intro w hSw; (try dsimp only at hSw); go_simp; try with_reducible rfl
      try simp only [Act.put, List.setIfInBounds_toArray, List.set_cons_zero, List.set_cons_succ]
      refine wpAnyH_take (i := 19) (oi := { dst := (some 29), op := (Op.load 24 (Operand.tmp 5)), type := 24, pos := "law.go:36", after := #[{ on := 17, ground := Ground.guard }], guard := (some (17, true)) }) (v := ?_) rfl (by kernel_rfl) (by kernel_rfl) (by kernel_rfl) (fun _ _ _ h => h) (Or.inl ⟨by rfl, ?_⟩) hHeld ?_
      rotate_left
      · intro w hSw; (try dsimp only at hSw); go_simp; try with_reducible rfl
      try simp only [Act.put, List.setIfInBounds_toArray, List.set_cons_zero, List.set_cons_succ]
      refine wpAnyH_ready (rs := [20]) (by kernel_rfl) (by simp) ?_
      refine AllReadyH.cons (o := { dst := (some 30), op := (Op.call { callee := (Callee.value (Operand.func 11)), args := #[(Operand.tmp 28), (Operand.tmp 29)], argTypes := #[24, 24] }), type := 4, pos := "law.go:36", after := #[{ on := 18, ground := Ground.data }, { on := 19, ground := Ground.data }, { on := 17, ground := Ground.chain }, { on := 17, ground := Ground.guard }], guard := (some (17, true)) }) rfl (fun K hK => ?_) AllReadyH.nil
      go_simp
      refine (same_calls _ _ _ _ _ _ _ (Kd.C_below (by first | exact HCx.out | exact HCy.out | exact HCz.out) (HQ.out _ hHeld)) (by first | exact HLx.out | exact HLy.out | exact HLz.out) (Kd.C_below (by first | exact HCx.out | exact HCy.out | exact HCz.out) (HQ.out _ hHeld)) (by first | exact HLx.out | exact HLy.out | exact HLz.out)).mono ?_
      rintro e w2 ⟨rfl, hb2⟩
      go_wp2_with fail
      refine hK.out _ _ (HK.out _ _ hb2 hHeld) (fun hHeld => ?_)
      clear hK K
      try simp only [Act.put, List.setIfInBounds_toArray, List.set_cons_zero, List.set_cons_succ]
      refine wpAnyH_take (i := 21) (oi := { dst := (some 31), op := (Op.pick (Operand.tmp 27) (Operand.tmp 30) (Operand.const (Value.bool false))), type := 4, pos := "law.go:36", after := #[{ on := 17, ground := Ground.data }, { on := 20, ground := Ground.data }, { on := 13, ground := Ground.guard }], guard := (some (13, false)) }) (v := ?_) rfl (by kernel_rfl) (by kernel_rfl) (by kernel_rfl) (fun _ _ _ h => h) (Or.inl ⟨by rfl, ?_⟩) hHeld ?_
      rotate_left
      · intro w hSw; (try dsimp only at hSw); go_simp; try with_reducible rfl
      try simp only [Act.put, List.setIfInBounds_toArray, List.set_cons_zero, List.set_cons_succ]
      refine wpAnyH_take (i := 22) (oi := { dst := (some 32), op := (Op.move (Operand.tmp 31)), type := 4, pos := "law.go:36", after := #[{ on := 21, ground := Ground.data }, { on := 20, ground := Ground.chain }, { on := 13, ground := Ground.guard }], guard := (some (13, false)) }) (v := ?_) rfl (by kernel_rfl) (by kernel_rfl) (by kernel_rfl) (fun _ _ _ h => h) (Or.inl ⟨by rfl, ?_⟩) hHeld ?_
      rotate_left
      · intro w hSw; (try dsimp only at hSw); go_simp; try with_reducible rfl
      try simp only [Act.put, List.setIfInBounds_toArray, List.set_cons_zero, List.set_cons_succ]
      refine wpAnyH_take (i := 23) (oi := { dst := (some 33), op := (Op.load 24 (Operand.tmp 3)), type := 24, pos := "law.go:36", after := #[{ on := 22, ground := Ground.guard }], guard := (some (22, true)) }) rfl (by kernel_rfl) (by kernel_rfl) (by kernel_rfl) (fun _ _ _ h => h) (Or.inr ⟨by rfl, rfl⟩) hHeld ?_
      try simp only [Act.put, List.setIfInBounds_toArray, List.set_cons_zero, List.set_cons_succ]
      refine wpAnyH_take (i := 24) (oi := { dst := (some 34), op := (Op.load 24 (Operand.tmp 5)), type := 24, pos := "law.go:36", after := #[{ on := 22, ground := Ground.guard }], guard := (some (22, true)) }) rfl (by kernel_rfl) (by kernel_rfl) (by kernel_rfl) (fun _ _ _ h => h) (Or.inr ⟨by rfl, rfl⟩) hHeld ?_
      try simp only [Act.put, List.setIfInBounds_toArray, List.set_cons_zero, List.set_cons_succ]
      refine wpAnyH_take (i := 25) (oi := { dst := (some 35), op := (Op.call { callee := (Callee.value (Operand.func 11)), args := #[(Operand.tmp 33), (Operand.tmp 34)], argTypes := #[24, 24] }), type := 4, pos := "law.go:36", after := #[{ on := 23, ground := Ground.data }, { on := 24, ground := Ground.data }, { on := 22, ground := Ground.chain }, { on := 22, ground := Ground.guard }], guard := (some (22, true)) }) rfl (by kernel_rfl) (by kernel_rfl) (by kernel_rfl) (fun _ _ _ h => h) (Or.inr ⟨by rfl, rfl⟩) hHeld ?_
      try simp only [Act.put, List.setIfInBounds_toArray, List.set_cons_zero, List.set_cons_succ]
      refine wpAnyH_take (i := 26) (oi := { dst := (some 36), op := (Op.unOp UnOp.not 4 (Operand.tmp 35)), type := 4, pos := "law.go:36", after := #[{ on := 25, ground := Ground.data }, { on := 22, ground := Ground.guard }], guard := (some (22, true)) }) rfl (by kernel_rfl) (by kernel_rfl) (by kernel_rfl) (fun _ _ _ h => h) (Or.inr ⟨by rfl, rfl⟩) hHeld ?_
      try simp only [Act.put, List.setIfInBounds_toArray, List.set_cons_zero, List.set_cons_succ]
      refine wpAnyH_take (i := 27) (oi := { dst := (some 37), op := (Op.pick (Operand.tmp 32) (Operand.tmp 36) (Operand.const (Value.bool false))), type := 4, pos := "law.go:36", after := #[{ on := 22, ground := Ground.data }, { on := 26, ground := Ground.data }, { on := 13, ground := Ground.guard }], guard := (some (13, false)) }) (v := ?_) rfl (by kernel_rfl) (by kernel_rfl) (by kernel_rfl) (fun _ _ _ h => h) (Or.inl ⟨by rfl, ?_⟩) hHeld ?_
      rotate_left
      · intro w hSw; (try dsimp only at hSw); go_simp; try with_reducible rfl
      try simp only [Act.put, List.setIfInBounds_toArray, List.set_cons_zero, List.set_cons_succ]
      refine wpAnyH_take (i := 28) (oi := { dst := (some 38), op := (Op.pick (Operand.tmp 23) (Operand.const (Value.bool true)) (Operand.tmp 37)), type := 4, pos := "law.go:36", after := #[{ on := 13, ground := Ground.data }, { on := 27, ground := Ground.data }], guard := none }) (v := ?_) rfl (by kernel_rfl) (by kernel_rfl) (by kernel_rfl) (fun _ _ _ h => h) (Or.inl ⟨by rfl, ?_⟩) hHeld ?_
      rotate_left
      · intro w hSw; (try dsimp only at hSw); go_simp; try with_reducible rfl
      try simp only [Act.put, List.setIfInBounds_toArray, List.set_cons_zero, List.set_cons_succ]
      refine wpAnyH_done (by kernel_rfl) ?_ _
      clear hxy hyx hyz
      clear hSx hSy hSz hSB
      cases hs : isSc x.f0 with
      | true =>
        have h7 : (x.f0 == 7) = false := beq_eq_false_iff_ne.mpr (by simp [isSc] at hs; omega)
        have h8 : (x.f0 == 8) = false := beq_eq_false_iff_ne.mpr (by simp [isSc] at hs; omega)
        have hf : fitsT x x false = true := by rw [fits_self, hs]; rfl
        go_wp2_with fail
        refine wp_region_held_drew (S := fun w' => (w'.cell? ⟨w.heap.size, 0, none⟩ = some (.int .i64 x.f0) ∧ w'.cell? ⟨w.heap.size, 1, none⟩ = some (.int .i64 x.f1) ∧ w'.cell? ⟨w.heap.size, 2, none⟩ = some (.string x.f2) ∧ w'.cell? ⟨w.heap.size, 3, none⟩ = some (.slice A x.f3.length c)) ∧ (w'.cell? ⟨w.heap.size + 1, 0, none⟩ = some (.int .i64 y.f0) ∧ w'.cell? ⟨w.heap.size + 1, 1, none⟩ = some (.int .i64 y.f1) ∧ w'.cell? ⟨w.heap.size + 1, 2, none⟩ = some (.string y.f2) ∧ w'.cell? ⟨w.heap.size + 1, 3, none⟩ = some (.slice B y.f3.length d)) ∧ (w'.cell? ⟨w.heap.size + 1 + 1, 0, none⟩ = some (.int .i64 z.f0) ∧ w'.cell? ⟨w.heap.size + 1 + 1, 1, none⟩ = some (.int .i64 z.f1) ∧ w'.cell? ⟨w.heap.size + 1 + 1, 2, none⟩ = some (.string z.f2) ∧ w'.cell? ⟨w.heap.size + 1 + 1, 3, none⟩ = some (.slice C z.f3.length f)) ∧ Below w.heap.size w w') (by kernel_rfl) ⟨hHeld.1, hHeld.2.1, hHeld.2.2.1, below_drew hHeld.2.2.2⟩ (fun hHeld => ?_)
        refine wpAnyH_take (i := 0) (oi := { dst := (some 47), op := (Op.move (Operand.tmp 7)), type := 4, pos := "law.go:40", after := #[], guard := none }) (v := ?_) rfl (by kernel_rfl) (by kernel_rfl) (by kernel_rfl) (fun _ _ _ h => h) (Or.inl ⟨by rfl, ?_⟩) hHeld ?_
        rotate_left
        · intro w hSw; (try dsimp only at hSw); go_simp; try with_reducible rfl
        try simp only [Act.put, List.setIfInBounds_toArray, List.set_cons_zero, List.set_cons_succ]
        refine wpAnyH_take (i := 1) (oi := { dst := (some 48), op := (Op.move (Operand.tmp 47)), type := 4, pos := "law.go:40", after := #[{ on := 0, ground := Ground.data }], guard := none }) (v := ?_) rfl (by kernel_rfl) (by kernel_rfl) (by kernel_rfl) (fun _ _ _ h => h) (Or.inl ⟨by rfl, ?_⟩) hHeld ?_
        rotate_left
        · intro w hSw; (try dsimp only at hSw); go_simp; try with_reducible rfl
        try simp only [Act.put, List.setIfInBounds_toArray, List.set_cons_zero, List.set_cons_succ]
        refine wpAnyH_take (i := 2) (oi := { dst := (some 49), op := (Op.load 24 (Operand.tmp 3)), type := 24, pos := "law.go:40", after := #[{ on := 1, ground := Ground.guard }], guard := (some (1, true)) }) (v := ?_) rfl (by kernel_rfl) (by kernel_rfl) (by kernel_rfl) (fun _ _ _ h => h) (Or.inl ⟨by rfl, ?_⟩) hHeld ?_
        rotate_left
        · intro w hSw; (try dsimp only at hSw); go_simp; try with_reducible rfl
        try simp only [Act.put, List.setIfInBounds_toArray, List.set_cons_zero, List.set_cons_succ]
        refine wpAnyH_take (i := 7) (oi := { dst := (some 54), op := (Op.load 24 (Operand.tmp 3)), type := 24, pos := "law.go:40", after := #[{ on := 1, ground := Ground.guard }], guard := (some (1, true)) }) (v := ?_) rfl (by kernel_rfl) (by kernel_rfl) (by kernel_rfl) (fun _ _ _ h => h) (Or.inl ⟨by rfl, ?_⟩) hHeld ?_
        rotate_left
        · intro w hSw; (try dsimp only at hSw); go_simp; try with_reducible rfl
        try simp only [Act.put, List.setIfInBounds_toArray, List.set_cons_zero, List.set_cons_succ]
        refine wpAnyH_take (i := 8) (oi := { dst := (some 55), op := (Op.load 24 (Operand.tmp 3)), type := 24, pos := "law.go:40", after := #[{ on := 1, ground := Ground.guard }], guard := (some (1, true)) }) (v := ?_) rfl (by kernel_rfl) (by kernel_rfl) (by kernel_rfl) (fun _ _ _ h => h) (Or.inl ⟨by rfl, ?_⟩) hHeld ?_
        rotate_left
        · intro w hSw; (try dsimp only at hSw); go_simp; try with_reducible rfl
        try simp only [Act.put, List.setIfInBounds_toArray, List.set_cons_zero, List.set_cons_succ]
        refine wpAnyH_ready (rs := [3]) (by kernel_rfl) (by simp) ?_
        refine AllReadyH.cons (o := { dst := (some 50), op := (Op.call { callee := (Callee.value (Operand.func 17)), args := #[(Operand.tmp 49)], argTypes := #[24] }), type := 4, pos := "law.go:40", after := #[{ on := 2, ground := Ground.data }, { on := 1, ground := Ground.chain }, { on := 1, ground := Ground.guard }], guard := (some (1, true)) }) rfl (fun K hK => ?_) AllReadyH.nil
        go_simp
        refine (scalar_calls _ _ _ _ _ _ _).mono ?_
        rintro e w2 ⟨rfl, hb2⟩
        go_wp2_with fail
        refine hK.out _ _ (HK.out _ _ hb2 hHeld) (fun hHeld => ?_)
        clear hK K
        try simp only [Act.put, List.setIfInBounds_toArray, List.set_cons_zero, List.set_cons_succ]
        refine wpAnyH_take (i := 4) (oi := { dst := (some 51), op := (Op.move (Operand.tmp 50)), type := 4, pos := "law.go:40", after := #[{ on := 3, ground := Ground.data }, { on := 3, ground := Ground.chain }, { on := 1, ground := Ground.guard }], guard := (some (1, true)) }) (v := ?_) rfl (by kernel_rfl) (by kernel_rfl) (by kernel_rfl) (fun _ _ _ h => h) (Or.inl ⟨by rfl, ?_⟩) hHeld ?_
        rotate_left
        · intro w hSw; (try dsimp only at hSw); go_simp; try with_reducible rfl
        try simp only [Act.put, List.setIfInBounds_toArray, List.set_cons_zero, List.set_cons_succ]
        refine wpAnyH_take (i := 5) (oi := { dst := (some 52), op := (Op.move (Operand.tmp 8)), type := 4, pos := "law.go:40", after := #[{ on := 4, ground := Ground.guard }], guard := (some (4, false)) }) rfl (by kernel_rfl) (by kernel_rfl) (by kernel_rfl) (fun _ _ _ h => h) (Or.inr ⟨by rfl, rfl⟩) hHeld ?_
        try simp only [Act.put, List.setIfInBounds_toArray, List.set_cons_zero, List.set_cons_succ]
        refine wpAnyH_take (i := 6) (oi := { dst := (some 53), op := (Op.pick (Operand.tmp 51) (Operand.const (Value.bool true)) (Operand.tmp 52)), type := 4, pos := "law.go:40", after := #[{ on := 4, ground := Ground.data }, { on := 5, ground := Ground.data }, { on := 1, ground := Ground.guard }], guard := (some (1, true)) }) (v := ?_) rfl (by kernel_rfl) (by kernel_rfl) (by kernel_rfl) (fun _ _ _ h => h) (Or.inl ⟨by rfl, ?_⟩) hHeld ?_
        rotate_left
        · intro w hSw; (try dsimp only at hSw); go_simp; try with_reducible rfl
        try simp only [Act.put, List.setIfInBounds_toArray, List.set_cons_zero, List.set_cons_succ]
        refine wpAnyH_ready (rs := [9]) (by kernel_rfl) (by simp) ?_
        refine AllReadyH.cons (o := { dst := (some 56), op := (Op.call { callee := (Callee.value (Operand.func 13)), args := #[(Operand.tmp 54), (Operand.tmp 55), (Operand.const (Value.bool false))], argTypes := #[24, 24, 4] }), type := 4, pos := "law.go:40", after := #[{ on := 7, ground := Ground.data }, { on := 8, ground := Ground.data }, { on := 4, ground := Ground.chain }, { on := 1, ground := Ground.guard }], guard := (some (1, true)) }) rfl (fun K hK => ?_) AllReadyH.nil
        go_simp
        refine (fits_calls _ _ _ _ _ _ _ _ (Kd.C_below (by first | exact HCx.out | exact HCy.out | exact HCz.out) (HQ.out _ hHeld)) (by first | exact HLx.out | exact HLy.out | exact HLz.out) (Kd.C_below (by first | exact HCx.out | exact HCy.out | exact HCz.out) (HQ.out _ hHeld)) (by first | exact HLx.out | exact HLy.out | exact HLz.out)).mono ?_
        rintro e w2 ⟨rfl, hb2⟩
        go_wp2_with fail
        refine hK.out _ _ (HK.out _ _ hb2 hHeld) (fun hHeld => ?_)
        clear hK K
        try simp only [Act.put, List.setIfInBounds_toArray, List.set_cons_zero, List.set_cons_succ]
        refine wpAnyH_take (i := 10) (oi := { dst := (some 57), op := (Op.binOp BinOp.eql 4 (Operand.tmp 53) (Operand.tmp 56) 4), type := 4, pos := "law.go:40", after := #[{ on := 6, ground := Ground.data }, { on := 9, ground := Ground.data }, { on := 1, ground := Ground.guard }], guard := (some (1, true)) }) (v := ?_) rfl (by kernel_rfl) (by kernel_rfl) (by kernel_rfl) (fun _ _ _ h => h) (Or.inl ⟨by rfl, ?_⟩) hHeld ?_
        rotate_left
        · intro w hSw; (try dsimp only at hSw); go_simp; try with_reducible rfl
        try simp only [Act.put, List.setIfInBounds_toArray, List.set_cons_zero, List.set_cons_succ]
        refine wpAnyH_take (i := 11) (oi := { dst := (some 58), op := (Op.pick (Operand.tmp 48) (Operand.tmp 57) (Operand.const (Value.bool false))), type := 4, pos := "law.go:40", after := #[{ on := 1, ground := Ground.data }, { on := 10, ground := Ground.data }], guard := none }) (v := ?_) rfl (by kernel_rfl) (by kernel_rfl) (by kernel_rfl) (fun _ _ _ h => h) (Or.inl ⟨by rfl, ?_⟩) hHeld ?_
        rotate_left
        · intro w hSw; (try dsimp only at hSw); go_simp; try with_reducible rfl
        try simp only [Act.put, List.setIfInBounds_toArray, List.set_cons_zero, List.set_cons_succ]
        refine wpAnyH_take (i := 12) (oi := { dst := (some 6), op := (Op.assign (Operand.tmp 58)), type := 4, pos := "law.go:40", after := #[{ on := 11, ground := Ground.data }, { on := 9, ground := Ground.chain }, { on := 0, ground := Ground.phase }, { on := 1, ground := Ground.phase }, { on := 2, ground := Ground.phase }, { on := 3, ground := Ground.phase }, { on := 4, ground := Ground.phase }, { on := 5, ground := Ground.phase }, { on := 6, ground := Ground.phase }, { on := 7, ground := Ground.phase }, { on := 8, ground := Ground.phase }, { on := 9, ground := Ground.phase }, { on := 10, ground := Ground.phase }, { on := 11, ground := Ground.phase }], guard := none }) (v := ?_) rfl (by kernel_rfl) (by kernel_rfl) (by kernel_rfl) (fun _ _ _ h => h) (Or.inl ⟨by rfl, ?_⟩) hHeld ?_
        rotate_left
        · intro w hSw; (try dsimp only at hSw); go_simp; try with_reducible rfl
        try simp only [Act.put, List.setIfInBounds_toArray, List.set_cons_zero, List.set_cons_succ]
        refine wpAnyH_done (by kernel_rfl) ?_ _
        go_wp2_with fail
        go_ret
        exact ⟨rfl, HQ.out _ hHeld⟩
      | false =>
        cases h7 : (x.f0 == 7) with
        | true =>
          have hf : fitsT x x false = true := by rw [fits_self, hs, beq_iff_eq.mp h7]; rfl
          go_wp2_with fail
          refine wp_region_held_drew (S := fun w' => (w'.cell? ⟨w.heap.size, 0, none⟩ = some (.int .i64 x.f0) ∧ w'.cell? ⟨w.heap.size, 1, none⟩ = some (.int .i64 x.f1) ∧ w'.cell? ⟨w.heap.size, 2, none⟩ = some (.string x.f2) ∧ w'.cell? ⟨w.heap.size, 3, none⟩ = some (.slice A x.f3.length c)) ∧ (w'.cell? ⟨w.heap.size + 1, 0, none⟩ = some (.int .i64 y.f0) ∧ w'.cell? ⟨w.heap.size + 1, 1, none⟩ = some (.int .i64 y.f1) ∧ w'.cell? ⟨w.heap.size + 1, 2, none⟩ = some (.string y.f2) ∧ w'.cell? ⟨w.heap.size + 1, 3, none⟩ = some (.slice B y.f3.length d)) ∧ (w'.cell? ⟨w.heap.size + 1 + 1, 0, none⟩ = some (.int .i64 z.f0) ∧ w'.cell? ⟨w.heap.size + 1 + 1, 1, none⟩ = some (.int .i64 z.f1) ∧ w'.cell? ⟨w.heap.size + 1 + 1, 2, none⟩ = some (.string z.f2) ∧ w'.cell? ⟨w.heap.size + 1 + 1, 3, none⟩ = some (.slice C z.f3.length f)) ∧ Below w.heap.size w w') (by kernel_rfl) ⟨hHeld.1, hHeld.2.1, hHeld.2.2.1, below_drew hHeld.2.2.2⟩ (fun hHeld => ?_)
          refine wpAnyH_take (i := 0) (oi := { dst := (some 47), op := (Op.move (Operand.tmp 7)), type := 4, pos := "law.go:40", after := #[], guard := none }) (v := ?_) rfl (by kernel_rfl) (by kernel_rfl) (by kernel_rfl) (fun _ _ _ h => h) (Or.inl ⟨by rfl, ?_⟩) hHeld ?_
          rotate_left
          · intro w hSw; (try dsimp only at hSw); go_simp; try with_reducible rfl
          try simp only [Act.put, List.setIfInBounds_toArray, List.set_cons_zero, List.set_cons_succ]
          refine wpAnyH_take (i := 1) (oi := { dst := (some 48), op := (Op.move (Operand.tmp 47)), type := 4, pos := "law.go:40", after := #[{ on := 0, ground := Ground.data }], guard := none }) (v := ?_) rfl (by kernel_rfl) (by kernel_rfl) (by kernel_rfl) (fun _ _ _ h => h) (Or.inl ⟨by rfl, ?_⟩) hHeld ?_
          rotate_left
          · intro w hSw; (try dsimp only at hSw); go_simp; try with_reducible rfl
          try simp only [Act.put, List.setIfInBounds_toArray, List.set_cons_zero, List.set_cons_succ]
          refine wpAnyH_take (i := 2) (oi := { dst := (some 49), op := (Op.load 24 (Operand.tmp 3)), type := 24, pos := "law.go:40", after := #[{ on := 1, ground := Ground.guard }], guard := (some (1, true)) }) (v := ?_) rfl (by kernel_rfl) (by kernel_rfl) (by kernel_rfl) (fun _ _ _ h => h) (Or.inl ⟨by rfl, ?_⟩) hHeld ?_
          rotate_left
          · intro w hSw; (try dsimp only at hSw); go_simp; try with_reducible rfl
          try simp only [Act.put, List.setIfInBounds_toArray, List.set_cons_zero, List.set_cons_succ]
          refine wpAnyH_take (i := 7) (oi := { dst := (some 54), op := (Op.load 24 (Operand.tmp 3)), type := 24, pos := "law.go:40", after := #[{ on := 1, ground := Ground.guard }], guard := (some (1, true)) }) (v := ?_) rfl (by kernel_rfl) (by kernel_rfl) (by kernel_rfl) (fun _ _ _ h => h) (Or.inl ⟨by rfl, ?_⟩) hHeld ?_
          rotate_left
          · intro w hSw; (try dsimp only at hSw); go_simp; try with_reducible rfl
          try simp only [Act.put, List.setIfInBounds_toArray, List.set_cons_zero, List.set_cons_succ]
          refine wpAnyH_take (i := 8) (oi := { dst := (some 55), op := (Op.load 24 (Operand.tmp 3)), type := 24, pos := "law.go:40", after := #[{ on := 1, ground := Ground.guard }], guard := (some (1, true)) }) (v := ?_) rfl (by kernel_rfl) (by kernel_rfl) (by kernel_rfl) (fun _ _ _ h => h) (Or.inl ⟨by rfl, ?_⟩) hHeld ?_
          rotate_left
          · intro w hSw; (try dsimp only at hSw); go_simp; try with_reducible rfl
          try simp only [Act.put, List.setIfInBounds_toArray, List.set_cons_zero, List.set_cons_succ]
          refine wpAnyH_ready (rs := [3]) (by kernel_rfl) (by simp) ?_
          refine AllReadyH.cons (o := { dst := (some 50), op := (Op.call { callee := (Callee.value (Operand.func 17)), args := #[(Operand.tmp 49)], argTypes := #[24] }), type := 4, pos := "law.go:40", after := #[{ on := 2, ground := Ground.data }, { on := 1, ground := Ground.chain }, { on := 1, ground := Ground.guard }], guard := (some (1, true)) }) rfl (fun K hK => ?_) AllReadyH.nil
          go_simp
          refine (scalar_calls _ _ _ _ _ _ _).mono ?_
          rintro e w2 ⟨rfl, hb2⟩
          go_wp2_with fail
          refine hK.out _ _ (HK.out _ _ hb2 hHeld) (fun hHeld => ?_)
          clear hK K
          try simp only [Act.put, List.setIfInBounds_toArray, List.set_cons_zero, List.set_cons_succ]
          refine wpAnyH_take (i := 4) (oi := { dst := (some 51), op := (Op.move (Operand.tmp 50)), type := 4, pos := "law.go:40", after := #[{ on := 3, ground := Ground.data }, { on := 3, ground := Ground.chain }, { on := 1, ground := Ground.guard }], guard := (some (1, true)) }) (v := ?_) rfl (by kernel_rfl) (by kernel_rfl) (by kernel_rfl) (fun _ _ _ h => h) (Or.inl ⟨by rfl, ?_⟩) hHeld ?_
          rotate_left
          · intro w hSw; (try dsimp only at hSw); go_simp; try with_reducible rfl
          try simp only [Act.put, List.setIfInBounds_toArray, List.set_cons_zero, List.set_cons_succ]
          refine wpAnyH_take (i := 5) (oi := { dst := (some 52), op := (Op.move (Operand.tmp 8)), type := 4, pos := "law.go:40", after := #[{ on := 4, ground := Ground.guard }], guard := (some (4, false)) }) (v := ?_) rfl (by kernel_rfl) (by kernel_rfl) (by kernel_rfl) (fun _ _ _ h => h) (Or.inl ⟨by rfl, ?_⟩) hHeld ?_
          rotate_left
          · intro w hSw; (try dsimp only at hSw); go_simp; try with_reducible rfl
          try simp only [Act.put, List.setIfInBounds_toArray, List.set_cons_zero, List.set_cons_succ]
          refine wpAnyH_take (i := 6) (oi := { dst := (some 53), op := (Op.pick (Operand.tmp 51) (Operand.const (Value.bool true)) (Operand.tmp 52)), type := 4, pos := "law.go:40", after := #[{ on := 4, ground := Ground.data }, { on := 5, ground := Ground.data }, { on := 1, ground := Ground.guard }], guard := (some (1, true)) }) (v := ?_) rfl (by kernel_rfl) (by kernel_rfl) (by kernel_rfl) (fun _ _ _ h => h) (Or.inl ⟨by rfl, ?_⟩) hHeld ?_
          rotate_left
          · intro w hSw; (try dsimp only at hSw); go_simp; try with_reducible rfl
          try simp only [Act.put, List.setIfInBounds_toArray, List.set_cons_zero, List.set_cons_succ]
          refine wpAnyH_ready (rs := [9]) (by kernel_rfl) (by simp) ?_
          refine AllReadyH.cons (o := { dst := (some 56), op := (Op.call { callee := (Callee.value (Operand.func 13)), args := #[(Operand.tmp 54), (Operand.tmp 55), (Operand.const (Value.bool false))], argTypes := #[24, 24, 4] }), type := 4, pos := "law.go:40", after := #[{ on := 7, ground := Ground.data }, { on := 8, ground := Ground.data }, { on := 4, ground := Ground.chain }, { on := 1, ground := Ground.guard }], guard := (some (1, true)) }) rfl (fun K hK => ?_) AllReadyH.nil
          go_simp
          refine (fits_calls _ _ _ _ _ _ _ _ (Kd.C_below (by first | exact HCx.out | exact HCy.out | exact HCz.out) (HQ.out _ hHeld)) (by first | exact HLx.out | exact HLy.out | exact HLz.out) (Kd.C_below (by first | exact HCx.out | exact HCy.out | exact HCz.out) (HQ.out _ hHeld)) (by first | exact HLx.out | exact HLy.out | exact HLz.out)).mono ?_
          rintro e w2 ⟨rfl, hb2⟩
          go_wp2_with fail
          refine hK.out _ _ (HK.out _ _ hb2 hHeld) (fun hHeld => ?_)
          clear hK K
          try simp only [Act.put, List.setIfInBounds_toArray, List.set_cons_zero, List.set_cons_succ]
          refine wpAnyH_take (i := 10) (oi := { dst := (some 57), op := (Op.binOp BinOp.eql 4 (Operand.tmp 53) (Operand.tmp 56) 4), type := 4, pos := "law.go:40", after := #[{ on := 6, ground := Ground.data }, { on := 9, ground := Ground.data }, { on := 1, ground := Ground.guard }], guard := (some (1, true)) }) (v := ?_) rfl (by kernel_rfl) (by kernel_rfl) (by kernel_rfl) (fun _ _ _ h => h) (Or.inl ⟨by rfl, ?_⟩) hHeld ?_
          rotate_left
          · intro w hSw; (try dsimp only at hSw); go_simp; try with_reducible rfl
          try simp only [Act.put, List.setIfInBounds_toArray, List.set_cons_zero, List.set_cons_succ]
          refine wpAnyH_take (i := 11) (oi := { dst := (some 58), op := (Op.pick (Operand.tmp 48) (Operand.tmp 57) (Operand.const (Value.bool false))), type := 4, pos := "law.go:40", after := #[{ on := 1, ground := Ground.data }, { on := 10, ground := Ground.data }], guard := none }) (v := ?_) rfl (by kernel_rfl) (by kernel_rfl) (by kernel_rfl) (fun _ _ _ h => h) (Or.inl ⟨by rfl, ?_⟩) hHeld ?_
          rotate_left
          · intro w hSw; (try dsimp only at hSw); go_simp; try with_reducible rfl
          try simp only [Act.put, List.setIfInBounds_toArray, List.set_cons_zero, List.set_cons_succ]
          refine wpAnyH_take (i := 12) (oi := { dst := (some 6), op := (Op.assign (Operand.tmp 58)), type := 4, pos := "law.go:40", after := #[{ on := 11, ground := Ground.data }, { on := 9, ground := Ground.chain }, { on := 0, ground := Ground.phase }, { on := 1, ground := Ground.phase }, { on := 2, ground := Ground.phase }, { on := 3, ground := Ground.phase }, { on := 4, ground := Ground.phase }, { on := 5, ground := Ground.phase }, { on := 6, ground := Ground.phase }, { on := 7, ground := Ground.phase }, { on := 8, ground := Ground.phase }, { on := 9, ground := Ground.phase }, { on := 10, ground := Ground.phase }, { on := 11, ground := Ground.phase }], guard := none }) (v := ?_) rfl (by kernel_rfl) (by kernel_rfl) (by kernel_rfl) (fun _ _ _ h => h) (Or.inl ⟨by rfl, ?_⟩) hHeld ?_
          rotate_left
          · intro w hSw; (try dsimp only at hSw); go_simp; try with_reducible rfl
          try simp only [Act.put, List.setIfInBounds_toArray, List.set_cons_zero, List.set_cons_succ]
          refine wpAnyH_done (by kernel_rfl) ?_ _
          go_wp2_with fail
          go_ret
          exact ⟨rfl, HQ.out _ hHeld⟩
        | false =>
          cases h8 : (x.f0 == 8) with
          | true =>
            have hf : fitsT x x false = true := by rw [fits_self, hs, beq_iff_eq.mp h8]; rfl
            go_wp2_with fail
            refine wp_region_held_drew (S := fun w' => (w'.cell? ⟨w.heap.size, 0, none⟩ = some (.int .i64 x.f0) ∧ w'.cell? ⟨w.heap.size, 1, none⟩ = some (.int .i64 x.f1) ∧ w'.cell? ⟨w.heap.size, 2, none⟩ = some (.string x.f2) ∧ w'.cell? ⟨w.heap.size, 3, none⟩ = some (.slice A x.f3.length c)) ∧ (w'.cell? ⟨w.heap.size + 1, 0, none⟩ = some (.int .i64 y.f0) ∧ w'.cell? ⟨w.heap.size + 1, 1, none⟩ = some (.int .i64 y.f1) ∧ w'.cell? ⟨w.heap.size + 1, 2, none⟩ = some (.string y.f2) ∧ w'.cell? ⟨w.heap.size + 1, 3, none⟩ = some (.slice B y.f3.length d)) ∧ (w'.cell? ⟨w.heap.size + 1 + 1, 0, none⟩ = some (.int .i64 z.f0) ∧ w'.cell? ⟨w.heap.size + 1 + 1, 1, none⟩ = some (.int .i64 z.f1) ∧ w'.cell? ⟨w.heap.size + 1 + 1, 2, none⟩ = some (.string z.f2) ∧ w'.cell? ⟨w.heap.size + 1 + 1, 3, none⟩ = some (.slice C z.f3.length f)) ∧ Below w.heap.size w w') (by kernel_rfl) ⟨hHeld.1, hHeld.2.1, hHeld.2.2.1, below_drew hHeld.2.2.2⟩ (fun hHeld => ?_)
            refine wpAnyH_take (i := 0) (oi := { dst := (some 47), op := (Op.move (Operand.tmp 7)), type := 4, pos := "law.go:40", after := #[], guard := none }) (v := ?_) rfl (by kernel_rfl) (by kernel_rfl) (by kernel_rfl) (fun _ _ _ h => h) (Or.inl ⟨by rfl, ?_⟩) hHeld ?_
            rotate_left
            · intro w hSw; (try dsimp only at hSw); go_simp; try with_reducible rfl
            try simp only [Act.put, List.setIfInBounds_toArray, List.set_cons_zero, List.set_cons_succ]
            refine wpAnyH_take (i := 1) (oi := { dst := (some 48), op := (Op.move (Operand.tmp 47)), type := 4, pos := "law.go:40", after := #[{ on := 0, ground := Ground.data }], guard := none }) (v := ?_) rfl (by kernel_rfl) (by kernel_rfl) (by kernel_rfl) (fun _ _ _ h => h) (Or.inl ⟨by rfl, ?_⟩) hHeld ?_
            rotate_left
            · intro w hSw; (try dsimp only at hSw); go_simp; try with_reducible rfl
            try simp only [Act.put, List.setIfInBounds_toArray, List.set_cons_zero, List.set_cons_succ]
            refine wpAnyH_take (i := 2) (oi := { dst := (some 49), op := (Op.load 24 (Operand.tmp 3)), type := 24, pos := "law.go:40", after := #[{ on := 1, ground := Ground.guard }], guard := (some (1, true)) }) (v := ?_) rfl (by kernel_rfl) (by kernel_rfl) (by kernel_rfl) (fun _ _ _ h => h) (Or.inl ⟨by rfl, ?_⟩) hHeld ?_
            rotate_left
            · intro w hSw; (try dsimp only at hSw); go_simp; try with_reducible rfl
            try simp only [Act.put, List.setIfInBounds_toArray, List.set_cons_zero, List.set_cons_succ]
            refine wpAnyH_take (i := 7) (oi := { dst := (some 54), op := (Op.load 24 (Operand.tmp 3)), type := 24, pos := "law.go:40", after := #[{ on := 1, ground := Ground.guard }], guard := (some (1, true)) }) (v := ?_) rfl (by kernel_rfl) (by kernel_rfl) (by kernel_rfl) (fun _ _ _ h => h) (Or.inl ⟨by rfl, ?_⟩) hHeld ?_
            rotate_left
            · intro w hSw; (try dsimp only at hSw); go_simp; try with_reducible rfl
            try simp only [Act.put, List.setIfInBounds_toArray, List.set_cons_zero, List.set_cons_succ]
            refine wpAnyH_take (i := 8) (oi := { dst := (some 55), op := (Op.load 24 (Operand.tmp 3)), type := 24, pos := "law.go:40", after := #[{ on := 1, ground := Ground.guard }], guard := (some (1, true)) }) (v := ?_) rfl (by kernel_rfl) (by kernel_rfl) (by kernel_rfl) (fun _ _ _ h => h) (Or.inl ⟨by rfl, ?_⟩) hHeld ?_
            rotate_left
            · intro w hSw; (try dsimp only at hSw); go_simp; try with_reducible rfl
            try simp only [Act.put, List.setIfInBounds_toArray, List.set_cons_zero, List.set_cons_succ]
            refine wpAnyH_ready (rs := [3]) (by kernel_rfl) (by simp) ?_
            refine AllReadyH.cons (o := { dst := (some 50), op := (Op.call { callee := (Callee.value (Operand.func 17)), args := #[(Operand.tmp 49)], argTypes := #[24] }), type := 4, pos := "law.go:40", after := #[{ on := 2, ground := Ground.data }, { on := 1, ground := Ground.chain }, { on := 1, ground := Ground.guard }], guard := (some (1, true)) }) rfl (fun K hK => ?_) AllReadyH.nil
            go_simp
            refine (scalar_calls _ _ _ _ _ _ _).mono ?_
            rintro e w2 ⟨rfl, hb2⟩
            go_wp2_with fail
            refine hK.out _ _ (HK.out _ _ hb2 hHeld) (fun hHeld => ?_)
            clear hK K
            try simp only [Act.put, List.setIfInBounds_toArray, List.set_cons_zero, List.set_cons_succ]
            refine wpAnyH_take (i := 4) (oi := { dst := (some 51), op := (Op.move (Operand.tmp 50)), type := 4, pos := "law.go:40", after := #[{ on := 3, ground := Ground.data }, { on := 3, ground := Ground.chain }, { on := 1, ground := Ground.guard }], guard := (some (1, true)) }) (v := ?_) rfl (by kernel_rfl) (by kernel_rfl) (by kernel_rfl) (fun _ _ _ h => h) (Or.inl ⟨by rfl, ?_⟩) hHeld ?_
            rotate_left
            · intro w hSw; (try dsimp only at hSw); go_simp; try with_reducible rfl
            try simp only [Act.put, List.setIfInBounds_toArray, List.set_cons_zero, List.set_cons_succ]
            refine wpAnyH_take (i := 5) (oi := { dst := (some 52), op := (Op.move (Operand.tmp 8)), type := 4, pos := "law.go:40", after := #[{ on := 4, ground := Ground.guard }], guard := (some (4, false)) }) (v := ?_) rfl (by kernel_rfl) (by kernel_rfl) (by kernel_rfl) (fun _ _ _ h => h) (Or.inl ⟨by rfl, ?_⟩) hHeld ?_
            rotate_left
            · intro w hSw; (try dsimp only at hSw); go_simp; try with_reducible rfl
            try simp only [Act.put, List.setIfInBounds_toArray, List.set_cons_zero, List.set_cons_succ]
            refine wpAnyH_take (i := 6) (oi := { dst := (some 53), op := (Op.pick (Operand.tmp 51) (Operand.const (Value.bool true)) (Operand.tmp 52)), type := 4, pos := "law.go:40", after := #[{ on := 4, ground := Ground.data }, { on := 5, ground := Ground.data }, { on := 1, ground := Ground.guard }], guard := (some (1, true)) }) (v := ?_) rfl (by kernel_rfl) (by kernel_rfl) (by kernel_rfl) (fun _ _ _ h => h) (Or.inl ⟨by rfl, ?_⟩) hHeld ?_
            rotate_left
            · intro w hSw; (try dsimp only at hSw); go_simp; try with_reducible rfl
            try simp only [Act.put, List.setIfInBounds_toArray, List.set_cons_zero, List.set_cons_succ]
            refine wpAnyH_ready (rs := [9]) (by kernel_rfl) (by simp) ?_
            refine AllReadyH.cons (o := { dst := (some 56), op := (Op.call { callee := (Callee.value (Operand.func 13)), args := #[(Operand.tmp 54), (Operand.tmp 55), (Operand.const (Value.bool false))], argTypes := #[24, 24, 4] }), type := 4, pos := "law.go:40", after := #[{ on := 7, ground := Ground.data }, { on := 8, ground := Ground.data }, { on := 4, ground := Ground.chain }, { on := 1, ground := Ground.guard }], guard := (some (1, true)) }) rfl (fun K hK => ?_) AllReadyH.nil
            go_simp
            refine (fits_calls _ _ _ _ _ _ _ _ (Kd.C_below (by first | exact HCx.out | exact HCy.out | exact HCz.out) (HQ.out _ hHeld)) (by first | exact HLx.out | exact HLy.out | exact HLz.out) (Kd.C_below (by first | exact HCx.out | exact HCy.out | exact HCz.out) (HQ.out _ hHeld)) (by first | exact HLx.out | exact HLy.out | exact HLz.out)).mono ?_
            rintro e w2 ⟨rfl, hb2⟩
            go_wp2_with fail
            refine hK.out _ _ (HK.out _ _ hb2 hHeld) (fun hHeld => ?_)
            clear hK K
            try simp only [Act.put, List.setIfInBounds_toArray, List.set_cons_zero, List.set_cons_succ]
            refine wpAnyH_take (i := 10) (oi := { dst := (some 57), op := (Op.binOp BinOp.eql 4 (Operand.tmp 53) (Operand.tmp 56) 4), type := 4, pos := "law.go:40", after := #[{ on := 6, ground := Ground.data }, { on := 9, ground := Ground.data }, { on := 1, ground := Ground.guard }], guard := (some (1, true)) }) (v := ?_) rfl (by kernel_rfl) (by kernel_rfl) (by kernel_rfl) (fun _ _ _ h => h) (Or.inl ⟨by rfl, ?_⟩) hHeld ?_
            rotate_left
            · intro w hSw; (try dsimp only at hSw); go_simp; try with_reducible rfl
            try simp only [Act.put, List.setIfInBounds_toArray, List.set_cons_zero, List.set_cons_succ]
            refine wpAnyH_take (i := 11) (oi := { dst := (some 58), op := (Op.pick (Operand.tmp 48) (Operand.tmp 57) (Operand.const (Value.bool false))), type := 4, pos := "law.go:40", after := #[{ on := 1, ground := Ground.data }, { on := 10, ground := Ground.data }], guard := none }) (v := ?_) rfl (by kernel_rfl) (by kernel_rfl) (by kernel_rfl) (fun _ _ _ h => h) (Or.inl ⟨by rfl, ?_⟩) hHeld ?_
            rotate_left
            · intro w hSw; (try dsimp only at hSw); go_simp; try with_reducible rfl
            try simp only [Act.put, List.setIfInBounds_toArray, List.set_cons_zero, List.set_cons_succ]
            refine wpAnyH_take (i := 12) (oi := { dst := (some 6), op := (Op.assign (Operand.tmp 58)), type := 4, pos := "law.go:40", after := #[{ on := 11, ground := Ground.data }, { on := 9, ground := Ground.chain }, { on := 0, ground := Ground.phase }, { on := 1, ground := Ground.phase }, { on := 2, ground := Ground.phase }, { on := 3, ground := Ground.phase }, { on := 4, ground := Ground.phase }, { on := 5, ground := Ground.phase }, { on := 6, ground := Ground.phase }, { on := 7, ground := Ground.phase }, { on := 8, ground := Ground.phase }, { on := 9, ground := Ground.phase }, { on := 10, ground := Ground.phase }, { on := 11, ground := Ground.phase }], guard := none }) (v := ?_) rfl (by kernel_rfl) (by kernel_rfl) (by kernel_rfl) (fun _ _ _ h => h) (Or.inl ⟨by rfl, ?_⟩) hHeld ?_
            rotate_left
            · intro w hSw; (try dsimp only at hSw); go_simp; try with_reducible rfl
            try simp only [Act.put, List.setIfInBounds_toArray, List.set_cons_zero, List.set_cons_succ]
            refine wpAnyH_done (by kernel_rfl) ?_ _
            go_wp2_with fail
            go_ret
            exact ⟨rfl, HQ.out _ hHeld⟩
          | false =>
            have hf : fitsT x x false = false := by rw [fits_self, hs, decide_eq_false (beq_eq_false_iff_ne.mp h7), decide_eq_false (beq_eq_false_iff_ne.mp h8)]; rfl
            go_wp2_with fail
            refine wp_region_held_drew (S := fun w' => (w'.cell? ⟨w.heap.size, 0, none⟩ = some (.int .i64 x.f0) ∧ w'.cell? ⟨w.heap.size, 1, none⟩ = some (.int .i64 x.f1) ∧ w'.cell? ⟨w.heap.size, 2, none⟩ = some (.string x.f2) ∧ w'.cell? ⟨w.heap.size, 3, none⟩ = some (.slice A x.f3.length c)) ∧ (w'.cell? ⟨w.heap.size + 1, 0, none⟩ = some (.int .i64 y.f0) ∧ w'.cell? ⟨w.heap.size + 1, 1, none⟩ = some (.int .i64 y.f1) ∧ w'.cell? ⟨w.heap.size + 1, 2, none⟩ = some (.string y.f2) ∧ w'.cell? ⟨w.heap.size + 1, 3, none⟩ = some (.slice B y.f3.length d)) ∧ (w'.cell? ⟨w.heap.size + 1 + 1, 0, none⟩ = some (.int .i64 z.f0) ∧ w'.cell? ⟨w.heap.size + 1 + 1, 1, none⟩ = some (.int .i64 z.f1) ∧ w'.cell? ⟨w.heap.size + 1 + 1, 2, none⟩ = some (.string z.f2) ∧ w'.cell? ⟨w.heap.size + 1 + 1, 3, none⟩ = some (.slice C z.f3.length f)) ∧ Below w.heap.size w w') (by kernel_rfl) ⟨hHeld.1, hHeld.2.1, hHeld.2.2.1, below_drew hHeld.2.2.2⟩ (fun hHeld => ?_)
            refine wpAnyH_take (i := 0) (oi := { dst := (some 47), op := (Op.move (Operand.tmp 7)), type := 4, pos := "law.go:40", after := #[], guard := none }) (v := ?_) rfl (by kernel_rfl) (by kernel_rfl) (by kernel_rfl) (fun _ _ _ h => h) (Or.inl ⟨by rfl, ?_⟩) hHeld ?_
            rotate_left
            · intro w hSw; (try dsimp only at hSw); go_simp; try with_reducible rfl
            try simp only [Act.put, List.setIfInBounds_toArray, List.set_cons_zero, List.set_cons_succ]
            refine wpAnyH_take (i := 1) (oi := { dst := (some 48), op := (Op.move (Operand.tmp 47)), type := 4, pos := "law.go:40", after := #[{ on := 0, ground := Ground.data }], guard := none }) (v := ?_) rfl (by kernel_rfl) (by kernel_rfl) (by kernel_rfl) (fun _ _ _ h => h) (Or.inl ⟨by rfl, ?_⟩) hHeld ?_
            rotate_left
            · intro w hSw; (try dsimp only at hSw); go_simp; try with_reducible rfl
            try simp only [Act.put, List.setIfInBounds_toArray, List.set_cons_zero, List.set_cons_succ]
            refine wpAnyH_take (i := 2) (oi := { dst := (some 49), op := (Op.load 24 (Operand.tmp 3)), type := 24, pos := "law.go:40", after := #[{ on := 1, ground := Ground.guard }], guard := (some (1, true)) }) (v := ?_) rfl (by kernel_rfl) (by kernel_rfl) (by kernel_rfl) (fun _ _ _ h => h) (Or.inl ⟨by rfl, ?_⟩) hHeld ?_
            rotate_left
            · intro w hSw; (try dsimp only at hSw); go_simp; try with_reducible rfl
            try simp only [Act.put, List.setIfInBounds_toArray, List.set_cons_zero, List.set_cons_succ]
            refine wpAnyH_take (i := 7) (oi := { dst := (some 54), op := (Op.load 24 (Operand.tmp 3)), type := 24, pos := "law.go:40", after := #[{ on := 1, ground := Ground.guard }], guard := (some (1, true)) }) (v := ?_) rfl (by kernel_rfl) (by kernel_rfl) (by kernel_rfl) (fun _ _ _ h => h) (Or.inl ⟨by rfl, ?_⟩) hHeld ?_
            rotate_left
            · intro w hSw; (try dsimp only at hSw); go_simp; try with_reducible rfl
            try simp only [Act.put, List.setIfInBounds_toArray, List.set_cons_zero, List.set_cons_succ]
            refine wpAnyH_take (i := 8) (oi := { dst := (some 55), op := (Op.load 24 (Operand.tmp 3)), type := 24, pos := "law.go:40", after := #[{ on := 1, ground := Ground.guard }], guard := (some (1, true)) }) (v := ?_) rfl (by kernel_rfl) (by kernel_rfl) (by kernel_rfl) (fun _ _ _ h => h) (Or.inl ⟨by rfl, ?_⟩) hHeld ?_
            rotate_left
            · intro w hSw; (try dsimp only at hSw); go_simp; try with_reducible rfl
            try simp only [Act.put, List.setIfInBounds_toArray, List.set_cons_zero, List.set_cons_succ]
            refine wpAnyH_ready (rs := [3]) (by kernel_rfl) (by simp) ?_
            refine AllReadyH.cons (o := { dst := (some 50), op := (Op.call { callee := (Callee.value (Operand.func 17)), args := #[(Operand.tmp 49)], argTypes := #[24] }), type := 4, pos := "law.go:40", after := #[{ on := 2, ground := Ground.data }, { on := 1, ground := Ground.chain }, { on := 1, ground := Ground.guard }], guard := (some (1, true)) }) rfl (fun K hK => ?_) AllReadyH.nil
            go_simp
            refine (scalar_calls _ _ _ _ _ _ _).mono ?_
            rintro e w2 ⟨rfl, hb2⟩
            go_wp2_with fail
            refine hK.out _ _ (HK.out _ _ hb2 hHeld) (fun hHeld => ?_)
            clear hK K
            try simp only [Act.put, List.setIfInBounds_toArray, List.set_cons_zero, List.set_cons_succ]
            refine wpAnyH_take (i := 4) (oi := { dst := (some 51), op := (Op.move (Operand.tmp 50)), type := 4, pos := "law.go:40", after := #[{ on := 3, ground := Ground.data }, { on := 3, ground := Ground.chain }, { on := 1, ground := Ground.guard }], guard := (some (1, true)) }) (v := ?_) rfl (by kernel_rfl) (by kernel_rfl) (by kernel_rfl) (fun _ _ _ h => h) (Or.inl ⟨by rfl, ?_⟩) hHeld ?_
            rotate_left
            · intro w hSw; (try dsimp only at hSw); go_simp; try with_reducible rfl
            try simp only [Act.put, List.setIfInBounds_toArray, List.set_cons_zero, List.set_cons_succ]
            refine wpAnyH_take (i := 5) (oi := { dst := (some 52), op := (Op.move (Operand.tmp 8)), type := 4, pos := "law.go:40", after := #[{ on := 4, ground := Ground.guard }], guard := (some (4, false)) }) (v := ?_) rfl (by kernel_rfl) (by kernel_rfl) (by kernel_rfl) (fun _ _ _ h => h) (Or.inl ⟨by rfl, ?_⟩) hHeld ?_
            rotate_left
            · intro w hSw; (try dsimp only at hSw); go_simp; try with_reducible rfl
            try simp only [Act.put, List.setIfInBounds_toArray, List.set_cons_zero, List.set_cons_succ]
            refine wpAnyH_take (i := 6) (oi := { dst := (some 53), op := (Op.pick (Operand.tmp 51) (Operand.const (Value.bool true)) (Operand.tmp 52)), type := 4, pos := "law.go:40", after := #[{ on := 4, ground := Ground.data }, { on := 5, ground := Ground.data }, { on := 1, ground := Ground.guard }], guard := (some (1, true)) }) (v := ?_) rfl (by kernel_rfl) (by kernel_rfl) (by kernel_rfl) (fun _ _ _ h => h) (Or.inl ⟨by rfl, ?_⟩) hHeld ?_
            rotate_left
            · intro w hSw; (try dsimp only at hSw); go_simp; try with_reducible rfl
            try simp only [Act.put, List.setIfInBounds_toArray, List.set_cons_zero, List.set_cons_succ]
            refine wpAnyH_ready (rs := [9]) (by kernel_rfl) (by simp) ?_
            refine AllReadyH.cons (o := { dst := (some 56), op := (Op.call { callee := (Callee.value (Operand.func 13)), args := #[(Operand.tmp 54), (Operand.tmp 55), (Operand.const (Value.bool false))], argTypes := #[24, 24, 4] }), type := 4, pos := "law.go:40", after := #[{ on := 7, ground := Ground.data }, { on := 8, ground := Ground.data }, { on := 4, ground := Ground.chain }, { on := 1, ground := Ground.guard }], guard := (some (1, true)) }) rfl (fun K hK => ?_) AllReadyH.nil
            go_simp
            refine (fits_calls _ _ _ _ _ _ _ _ (Kd.C_below (by first | exact HCx.out | exact HCy.out | exact HCz.out) (HQ.out _ hHeld)) (by first | exact HLx.out | exact HLy.out | exact HLz.out) (Kd.C_below (by first | exact HCx.out | exact HCy.out | exact HCz.out) (HQ.out _ hHeld)) (by first | exact HLx.out | exact HLy.out | exact HLz.out)).mono ?_
            rintro e w2 ⟨rfl, hb2⟩
            go_wp2_with fail
            refine hK.out _ _ (HK.out _ _ hb2 hHeld) (fun hHeld => ?_)
            clear hK K
            try simp only [Act.put, List.setIfInBounds_toArray, List.set_cons_zero, List.set_cons_succ]
            refine wpAnyH_take (i := 10) (oi := { dst := (some 57), op := (Op.binOp BinOp.eql 4 (Operand.tmp 53) (Operand.tmp 56) 4), type := 4, pos := "law.go:40", after := #[{ on := 6, ground := Ground.data }, { on := 9, ground := Ground.data }, { on := 1, ground := Ground.guard }], guard := (some (1, true)) }) (v := ?_) rfl (by kernel_rfl) (by kernel_rfl) (by kernel_rfl) (fun _ _ _ h => h) (Or.inl ⟨by rfl, ?_⟩) hHeld ?_
            rotate_left
            · intro w hSw; (try dsimp only at hSw); go_simp; try with_reducible rfl
            try simp only [Act.put, List.setIfInBounds_toArray, List.set_cons_zero, List.set_cons_succ]
            refine wpAnyH_take (i := 11) (oi := { dst := (some 58), op := (Op.pick (Operand.tmp 48) (Operand.tmp 57) (Operand.const (Value.bool false))), type := 4, pos := "law.go:40", after := #[{ on := 1, ground := Ground.data }, { on := 10, ground := Ground.data }], guard := none }) (v := ?_) rfl (by kernel_rfl) (by kernel_rfl) (by kernel_rfl) (fun _ _ _ h => h) (Or.inl ⟨by rfl, ?_⟩) hHeld ?_
            rotate_left
            · intro w hSw; (try dsimp only at hSw); go_simp; try with_reducible rfl
            try simp only [Act.put, List.setIfInBounds_toArray, List.set_cons_zero, List.set_cons_succ]
            refine wpAnyH_take (i := 12) (oi := { dst := (some 6), op := (Op.assign (Operand.tmp 58)), type := 4, pos := "law.go:40", after := #[{ on := 11, ground := Ground.data }, { on := 9, ground := Ground.chain }, { on := 0, ground := Ground.phase }, { on := 1, ground := Ground.phase }, { on := 2, ground := Ground.phase }, { on := 3, ground := Ground.phase }, { on := 4, ground := Ground.phase }, { on := 5, ground := Ground.phase }, { on := 6, ground := Ground.phase }, { on := 7, ground := Ground.phase }, { on := 8, ground := Ground.phase }, { on := 9, ground := Ground.phase }, { on := 10, ground := Ground.phase }, { on := 11, ground := Ground.phase }], guard := none }) (v := ?_) rfl (by kernel_rfl) (by kernel_rfl) (by kernel_rfl) (fun _ _ _ h => h) (Or.inl ⟨by rfl, ?_⟩) hHeld ?_
            rotate_left
            · intro w hSw; (try dsimp only at hSw); go_simp; try with_reducible rfl
            try simp only [Act.put, List.setIfInBounds_toArray, List.set_cons_zero, List.set_cons_succ]
            refine wpAnyH_done (by kernel_rfl) ?_ _
            go_wp2_with fail
            go_ret
            exact ⟨rfl, HQ.out _ hHeld⟩
  | false =>
    have hyx : sameT y x = false := by rw [sameT_symm]; exact hxy
    go_wp2_with fail
    refine wp_region_held_drew (S := fun w' => (w'.cell? ⟨w.heap.size, 0, none⟩ = some (.int .i64 x.f0) ∧ w'.cell? ⟨w.heap.size, 1, none⟩ = some (.int .i64 x.f1) ∧ w'.cell? ⟨w.heap.size, 2, none⟩ = some (.string x.f2) ∧ w'.cell? ⟨w.heap.size, 3, none⟩ = some (.slice A x.f3.length c)) ∧ (w'.cell? ⟨w.heap.size + 1, 0, none⟩ = some (.int .i64 y.f0) ∧ w'.cell? ⟨w.heap.size + 1, 1, none⟩ = some (.int .i64 y.f1) ∧ w'.cell? ⟨w.heap.size + 1, 2, none⟩ = some (.string y.f2) ∧ w'.cell? ⟨w.heap.size + 1, 3, none⟩ = some (.slice B y.f3.length d)) ∧ (w'.cell? ⟨w.heap.size + 1 + 1, 0, none⟩ = some (.int .i64 z.f0) ∧ w'.cell? ⟨w.heap.size + 1 + 1, 1, none⟩ = some (.int .i64 z.f1) ∧ w'.cell? ⟨w.heap.size + 1 + 1, 2, none⟩ = some (.string z.f2) ∧ w'.cell? ⟨w.heap.size + 1 + 1, 3, none⟩ = some (.slice C z.f3.length f)) ∧ Below w.heap.size w w') (by kernel_rfl) ⟨hSx, hSy, hSz, below_drew hSB⟩ (fun hHeld => ?_)
    refine wpAnyH_take (i := 0) (oi := { dst := (some 10), op := (Op.load 24 (Operand.tmp 3)), type := 24, pos := "law.go:36", after := #[], guard := none }) (v := ?_) rfl (by kernel_rfl) (by kernel_rfl) (by kernel_rfl) (fun _ _ _ h => h) (Or.inl ⟨by rfl, ?_⟩) hHeld ?_
    rotate_left
    · intro w hSw; (try dsimp only at hSw); go_simp; try with_reducible rfl
    try simp only [Act.put, List.setIfInBounds_toArray, List.set_cons_zero, List.set_cons_succ]
    refine wpAnyH_take (i := 1) (oi := { dst := (some 11), op := (Op.load 24 (Operand.tmp 3)), type := 24, pos := "law.go:36", after := #[], guard := none }) (v := ?_) rfl (by kernel_rfl) (by kernel_rfl) (by kernel_rfl) (fun _ _ _ h => h) (Or.inl ⟨by rfl, ?_⟩) hHeld ?_
    rotate_left
    · intro w hSw; (try dsimp only at hSw); go_simp; try with_reducible rfl
    try simp only [Act.put, List.setIfInBounds_toArray, List.set_cons_zero, List.set_cons_succ]
    refine wpAnyH_ready (rs := [2]) (by kernel_rfl) (by simp) ?_
    refine AllReadyH.cons (o := { dst := (some 12), op := (Op.call { callee := (Callee.value (Operand.func 11)), args := #[(Operand.tmp 10), (Operand.tmp 11)], argTypes := #[24, 24] }), type := 4, pos := "law.go:36", after := #[{ on := 0, ground := Ground.data }, { on := 1, ground := Ground.data }], guard := none }) rfl (fun K hK => ?_) AllReadyH.nil
    go_simp
    refine (same_calls _ _ _ _ _ _ _ (Kd.C_below (by first | exact HCx.out | exact HCy.out | exact HCz.out) (HQ.out _ hHeld)) (by first | exact HLx.out | exact HLy.out | exact HLz.out) (Kd.C_below (by first | exact HCx.out | exact HCy.out | exact HCz.out) (HQ.out _ hHeld)) (by first | exact HLx.out | exact HLy.out | exact HLz.out)).mono ?_
    rintro e w2 ⟨rfl, hb2⟩
    go_wp2_with fail
    refine hK.out _ _ (HK.out _ _ hb2 hHeld) (fun hHeld => ?_)
    clear hK K
    try simp only [Act.put, List.setIfInBounds_toArray, List.set_cons_zero, List.set_cons_succ]
    refine wpAnyH_take (i := 3) (oi := { dst := (some 13), op := (Op.unOp UnOp.not 4 (Operand.tmp 12)), type := 4, pos := "law.go:36", after := #[{ on := 2, ground := Ground.data }], guard := none }) (v := ?_) rfl (by kernel_rfl) (by kernel_rfl) (by kernel_rfl) (fun _ _ _ h => h) (Or.inl ⟨by rfl, ?_⟩) hHeld ?_
    rotate_left
    · intro w hSw; (try dsimp only at hSw); go_simp; try with_reducible rfl
    try simp only [Act.put, List.setIfInBounds_toArray, List.set_cons_zero, List.set_cons_succ]
    refine wpAnyH_take (i := 4) (oi := { dst := (some 14), op := (Op.move (Operand.tmp 13)), type := 4, pos := "law.go:36", after := #[{ on := 3, ground := Ground.data }, { on := 2, ground := Ground.chain }], guard := none }) (v := ?_) rfl (by kernel_rfl) (by kernel_rfl) (by kernel_rfl) (fun _ _ _ h => h) (Or.inl ⟨by rfl, ?_⟩) hHeld ?_
    rotate_left
    · intro w hSw; (try dsimp only at hSw); go_simp; try with_reducible rfl
    try simp only [Act.put, List.setIfInBounds_toArray, List.set_cons_zero, List.set_cons_succ]
    refine wpAnyH_take (i := 5) (oi := { dst := (some 15), op := (Op.load 24 (Operand.tmp 3)), type := 24, pos := "law.go:36", after := #[{ on := 4, ground := Ground.guard }], guard := (some (4, false)) }) (v := ?_) rfl (by kernel_rfl) (by kernel_rfl) (by kernel_rfl) (fun _ _ _ h => h) (Or.inl ⟨by rfl, ?_⟩) hHeld ?_
    rotate_left
    · intro w hSw; (try dsimp only at hSw); go_simp; try with_reducible rfl
    try simp only [Act.put, List.setIfInBounds_toArray, List.set_cons_zero, List.set_cons_succ]
    refine wpAnyH_take (i := 6) (oi := { dst := (some 16), op := (Op.load 24 (Operand.tmp 4)), type := 24, pos := "law.go:36", after := #[{ on := 4, ground := Ground.guard }], guard := (some (4, false)) }) (v := ?_) rfl (by kernel_rfl) (by kernel_rfl) (by kernel_rfl) (fun _ _ _ h => h) (Or.inl ⟨by rfl, ?_⟩) hHeld ?_
    rotate_left
    · intro w hSw; (try dsimp only at hSw); go_simp; try with_reducible rfl
    try simp only [Act.put, List.setIfInBounds_toArray, List.set_cons_zero, List.set_cons_succ]
    refine wpAnyH_take (i := 8) (oi := { dst := (some 18), op := (Op.load 24 (Operand.tmp 4)), type := 24, pos := "law.go:36", after := #[{ on := 4, ground := Ground.guard }], guard := (some (4, false)) }) (v := ?_) rfl (by kernel_rfl) (by kernel_rfl) (by kernel_rfl) (fun _ _ _ h => h) (Or.inl ⟨by rfl, ?_⟩) hHeld ?_
    rotate_left
    · intro w hSw; (try dsimp only at hSw); go_simp; try with_reducible rfl
    try simp only [Act.put, List.setIfInBounds_toArray, List.set_cons_zero, List.set_cons_succ]
    refine wpAnyH_take (i := 9) (oi := { dst := (some 19), op := (Op.load 24 (Operand.tmp 3)), type := 24, pos := "law.go:36", after := #[{ on := 4, ground := Ground.guard }], guard := (some (4, false)) }) (v := ?_) rfl (by kernel_rfl) (by kernel_rfl) (by kernel_rfl) (fun _ _ _ h => h) (Or.inl ⟨by rfl, ?_⟩) hHeld ?_
    rotate_left
    · intro w hSw; (try dsimp only at hSw); go_simp; try with_reducible rfl
    try simp only [Act.put, List.setIfInBounds_toArray, List.set_cons_zero, List.set_cons_succ]
    refine wpAnyH_ready (rs := [7]) (by kernel_rfl) (by simp) ?_
    refine AllReadyH.cons (o := { dst := (some 17), op := (Op.call { callee := (Callee.value (Operand.func 11)), args := #[(Operand.tmp 15), (Operand.tmp 16)], argTypes := #[24, 24] }), type := 4, pos := "law.go:36", after := #[{ on := 5, ground := Ground.data }, { on := 6, ground := Ground.data }, { on := 4, ground := Ground.chain }, { on := 4, ground := Ground.guard }], guard := (some (4, false)) }) rfl (fun K hK => ?_) AllReadyH.nil
    go_simp
    refine (same_calls _ _ _ _ _ _ _ (Kd.C_below (by first | exact HCx.out | exact HCy.out | exact HCz.out) (HQ.out _ hHeld)) (by first | exact HLx.out | exact HLy.out | exact HLz.out) (Kd.C_below (by first | exact HCx.out | exact HCy.out | exact HCz.out) (HQ.out _ hHeld)) (by first | exact HLx.out | exact HLy.out | exact HLz.out)).mono ?_
    rintro e w2 ⟨rfl, hb2⟩
    go_wp2_with fail
    refine hK.out _ _ (HK.out _ _ hb2 hHeld) (fun hHeld => ?_)
    clear hK K
    try simp only [Act.put, List.setIfInBounds_toArray, List.set_cons_zero, List.set_cons_succ]
    refine wpAnyH_ready (rs := [10]) (by kernel_rfl) (by simp) ?_
    refine AllReadyH.cons (o := { dst := (some 20), op := (Op.call { callee := (Callee.value (Operand.func 11)), args := #[(Operand.tmp 18), (Operand.tmp 19)], argTypes := #[24, 24] }), type := 4, pos := "law.go:36", after := #[{ on := 8, ground := Ground.data }, { on := 9, ground := Ground.data }, { on := 7, ground := Ground.chain }, { on := 4, ground := Ground.guard }], guard := (some (4, false)) }) rfl (fun K hK => ?_) AllReadyH.nil
    go_simp
    refine (same_calls _ _ _ _ _ _ _ (Kd.C_below (by first | exact HCx.out | exact HCy.out | exact HCz.out) (HQ.out _ hHeld)) (by first | exact HLx.out | exact HLy.out | exact HLz.out) (Kd.C_below (by first | exact HCx.out | exact HCy.out | exact HCz.out) (HQ.out _ hHeld)) (by first | exact HLx.out | exact HLy.out | exact HLz.out)).mono ?_
    rintro e w2 ⟨rfl, hb2⟩
    go_wp2_with fail
    refine hK.out _ _ (HK.out _ _ hb2 hHeld) (fun hHeld => ?_)
    clear hK K
    try simp only [Act.put, List.setIfInBounds_toArray, List.set_cons_zero, List.set_cons_succ]
    refine wpAnyH_take (i := 11) (oi := { dst := (some 21), op := (Op.binOp BinOp.neq 4 (Operand.tmp 17) (Operand.tmp 20) 4), type := 4, pos := "law.go:36", after := #[{ on := 7, ground := Ground.data }, { on := 10, ground := Ground.data }, { on := 4, ground := Ground.guard }], guard := (some (4, false)) }) (v := ?_) rfl (by kernel_rfl) (by kernel_rfl) (by kernel_rfl) (fun _ _ _ h => h) (Or.inl ⟨by rfl, ?_⟩) hHeld ?_
    rotate_left
    · intro w hSw; (try dsimp only at hSw); go_simp; try with_reducible rfl
    try simp only [Act.put, List.setIfInBounds_toArray, List.set_cons_zero, List.set_cons_succ]
    refine wpAnyH_take (i := 12) (oi := { dst := (some 22), op := (Op.pick (Operand.tmp 14) (Operand.const (Value.bool true)) (Operand.tmp 21)), type := 4, pos := "law.go:36", after := #[{ on := 4, ground := Ground.data }, { on := 11, ground := Ground.data }], guard := none }) (v := ?_) rfl (by kernel_rfl) (by kernel_rfl) (by kernel_rfl) (fun _ _ _ h => h) (Or.inl ⟨by rfl, ?_⟩) hHeld ?_
    rotate_left
    · intro w hSw; (try dsimp only at hSw); go_simp; try with_reducible rfl
    try simp only [Act.put, List.setIfInBounds_toArray, List.set_cons_zero, List.set_cons_succ]
    refine wpAnyH_take (i := 13) (oi := { dst := (some 23), op := (Op.move (Operand.tmp 22)), type := 4, pos := "law.go:36", after := #[{ on := 12, ground := Ground.data }, { on := 10, ground := Ground.chain }], guard := none }) (v := ?_) rfl (by kernel_rfl) (by kernel_rfl) (by kernel_rfl) (fun _ _ _ h => h) (Or.inl ⟨by rfl, ?_⟩) hHeld ?_
    rotate_left
    · intro w hSw; (try dsimp only at hSw); go_simp; try with_reducible rfl
    try simp only [Act.put, List.setIfInBounds_toArray, List.set_cons_zero, List.set_cons_succ]
    refine wpAnyH_take (i := 14) (oi := { dst := (some 24), op := (Op.load 24 (Operand.tmp 3)), type := 24, pos := "law.go:36", after := #[{ on := 13, ground := Ground.guard }], guard := (some (13, false)) }) (v := ?_) rfl (by kernel_rfl) (by kernel_rfl) (by kernel_rfl) (fun _ _ _ h => h) (Or.inl ⟨by rfl, ?_⟩) hHeld ?_
    rotate_left
    · intro w hSw; (try dsimp only at hSw); go_simp; try with_reducible rfl
    try simp only [Act.put, List.setIfInBounds_toArray, List.set_cons_zero, List.set_cons_succ]
    refine wpAnyH_take (i := 15) (oi := { dst := (some 25), op := (Op.load 24 (Operand.tmp 4)), type := 24, pos := "law.go:36", after := #[{ on := 13, ground := Ground.guard }], guard := (some (13, false)) }) (v := ?_) rfl (by kernel_rfl) (by kernel_rfl) (by kernel_rfl) (fun _ _ _ h => h) (Or.inl ⟨by rfl, ?_⟩) hHeld ?_
    rotate_left
    · intro w hSw; (try dsimp only at hSw); go_simp; try with_reducible rfl
    try simp only [Act.put, List.setIfInBounds_toArray, List.set_cons_zero, List.set_cons_succ]
    refine wpAnyH_ready (rs := [16]) (by kernel_rfl) (by simp) ?_
    refine AllReadyH.cons (o := { dst := (some 26), op := (Op.call { callee := (Callee.value (Operand.func 11)), args := #[(Operand.tmp 24), (Operand.tmp 25)], argTypes := #[24, 24] }), type := 4, pos := "law.go:36", after := #[{ on := 14, ground := Ground.data }, { on := 15, ground := Ground.data }, { on := 13, ground := Ground.chain }, { on := 13, ground := Ground.guard }], guard := (some (13, false)) }) rfl (fun K hK => ?_) AllReadyH.nil
    go_simp
    refine (same_calls _ _ _ _ _ _ _ (Kd.C_below (by first | exact HCx.out | exact HCy.out | exact HCz.out) (HQ.out _ hHeld)) (by first | exact HLx.out | exact HLy.out | exact HLz.out) (Kd.C_below (by first | exact HCx.out | exact HCy.out | exact HCz.out) (HQ.out _ hHeld)) (by first | exact HLx.out | exact HLy.out | exact HLz.out)).mono ?_
    rintro e w2 ⟨rfl, hb2⟩
    go_wp2_with fail
    refine hK.out _ _ (HK.out _ _ hb2 hHeld) (fun hHeld => ?_)
    clear hK K
    try simp only [Act.put, List.setIfInBounds_toArray, List.set_cons_zero, List.set_cons_succ]
    refine wpAnyH_take (i := 17) (oi := { dst := (some 27), op := (Op.move (Operand.tmp 26)), type := 4, pos := "law.go:36", after := #[{ on := 16, ground := Ground.data }, { on := 16, ground := Ground.chain }, { on := 13, ground := Ground.guard }], guard := (some (13, false)) }) (v := ?_) rfl (by kernel_rfl) (by kernel_rfl) (by kernel_rfl) (fun _ _ _ h => h) (Or.inl ⟨by rfl, ?_⟩) hHeld ?_
    rotate_left
    · intro w hSw; (try dsimp only at hSw); go_simp; try with_reducible rfl
    try simp only [Act.put, List.setIfInBounds_toArray, List.set_cons_zero, List.set_cons_succ]
    refine wpAnyH_take (i := 18) (oi := { dst := (some 28), op := (Op.load 24 (Operand.tmp 4)), type := 24, pos := "law.go:36", after := #[{ on := 17, ground := Ground.guard }], guard := (some (17, true)) }) rfl (by kernel_rfl) (by kernel_rfl) (by kernel_rfl) (fun _ _ _ h => h) (Or.inr ⟨by rfl, rfl⟩) hHeld ?_
    try simp only [Act.put, List.setIfInBounds_toArray, List.set_cons_zero, List.set_cons_succ]
    refine wpAnyH_take (i := 19) (oi := { dst := (some 29), op := (Op.load 24 (Operand.tmp 5)), type := 24, pos := "law.go:36", after := #[{ on := 17, ground := Ground.guard }], guard := (some (17, true)) }) rfl (by kernel_rfl) (by kernel_rfl) (by kernel_rfl) (fun _ _ _ h => h) (Or.inr ⟨by rfl, rfl⟩) hHeld ?_
    try simp only [Act.put, List.setIfInBounds_toArray, List.set_cons_zero, List.set_cons_succ]
    refine wpAnyH_take (i := 20) (oi := { dst := (some 30), op := (Op.call { callee := (Callee.value (Operand.func 11)), args := #[(Operand.tmp 28), (Operand.tmp 29)], argTypes := #[24, 24] }), type := 4, pos := "law.go:36", after := #[{ on := 18, ground := Ground.data }, { on := 19, ground := Ground.data }, { on := 17, ground := Ground.chain }, { on := 17, ground := Ground.guard }], guard := (some (17, true)) }) rfl (by kernel_rfl) (by kernel_rfl) (by kernel_rfl) (fun _ _ _ h => h) (Or.inr ⟨by rfl, rfl⟩) hHeld ?_
    try simp only [Act.put, List.setIfInBounds_toArray, List.set_cons_zero, List.set_cons_succ]
    refine wpAnyH_take (i := 21) (oi := { dst := (some 31), op := (Op.pick (Operand.tmp 27) (Operand.tmp 30) (Operand.const (Value.bool false))), type := 4, pos := "law.go:36", after := #[{ on := 17, ground := Ground.data }, { on := 20, ground := Ground.data }, { on := 13, ground := Ground.guard }], guard := (some (13, false)) }) (v := ?_) rfl (by kernel_rfl) (by kernel_rfl) (by kernel_rfl) (fun _ _ _ h => h) (Or.inl ⟨by rfl, ?_⟩) hHeld ?_
    rotate_left
    · intro w hSw; (try dsimp only at hSw); go_simp; try with_reducible rfl
    try simp only [Act.put, List.setIfInBounds_toArray, List.set_cons_zero, List.set_cons_succ]
    refine wpAnyH_take (i := 22) (oi := { dst := (some 32), op := (Op.move (Operand.tmp 31)), type := 4, pos := "law.go:36", after := #[{ on := 21, ground := Ground.data }, { on := 20, ground := Ground.chain }, { on := 13, ground := Ground.guard }], guard := (some (13, false)) }) (v := ?_) rfl (by kernel_rfl) (by kernel_rfl) (by kernel_rfl) (fun _ _ _ h => h) (Or.inl ⟨by rfl, ?_⟩) hHeld ?_
    rotate_left
    · intro w hSw; (try dsimp only at hSw); go_simp; try with_reducible rfl
    try simp only [Act.put, List.setIfInBounds_toArray, List.set_cons_zero, List.set_cons_succ]
    refine wpAnyH_take (i := 23) (oi := { dst := (some 33), op := (Op.load 24 (Operand.tmp 3)), type := 24, pos := "law.go:36", after := #[{ on := 22, ground := Ground.guard }], guard := (some (22, true)) }) rfl (by kernel_rfl) (by kernel_rfl) (by kernel_rfl) (fun _ _ _ h => h) (Or.inr ⟨by rfl, rfl⟩) hHeld ?_
    try simp only [Act.put, List.setIfInBounds_toArray, List.set_cons_zero, List.set_cons_succ]
    refine wpAnyH_take (i := 24) (oi := { dst := (some 34), op := (Op.load 24 (Operand.tmp 5)), type := 24, pos := "law.go:36", after := #[{ on := 22, ground := Ground.guard }], guard := (some (22, true)) }) rfl (by kernel_rfl) (by kernel_rfl) (by kernel_rfl) (fun _ _ _ h => h) (Or.inr ⟨by rfl, rfl⟩) hHeld ?_
    try simp only [Act.put, List.setIfInBounds_toArray, List.set_cons_zero, List.set_cons_succ]
    refine wpAnyH_take (i := 25) (oi := { dst := (some 35), op := (Op.call { callee := (Callee.value (Operand.func 11)), args := #[(Operand.tmp 33), (Operand.tmp 34)], argTypes := #[24, 24] }), type := 4, pos := "law.go:36", after := #[{ on := 23, ground := Ground.data }, { on := 24, ground := Ground.data }, { on := 22, ground := Ground.chain }, { on := 22, ground := Ground.guard }], guard := (some (22, true)) }) rfl (by kernel_rfl) (by kernel_rfl) (by kernel_rfl) (fun _ _ _ h => h) (Or.inr ⟨by rfl, rfl⟩) hHeld ?_
    try simp only [Act.put, List.setIfInBounds_toArray, List.set_cons_zero, List.set_cons_succ]
    refine wpAnyH_take (i := 26) (oi := { dst := (some 36), op := (Op.unOp UnOp.not 4 (Operand.tmp 35)), type := 4, pos := "law.go:36", after := #[{ on := 25, ground := Ground.data }, { on := 22, ground := Ground.guard }], guard := (some (22, true)) }) rfl (by kernel_rfl) (by kernel_rfl) (by kernel_rfl) (fun _ _ _ h => h) (Or.inr ⟨by rfl, rfl⟩) hHeld ?_
    try simp only [Act.put, List.setIfInBounds_toArray, List.set_cons_zero, List.set_cons_succ]
    refine wpAnyH_take (i := 27) (oi := { dst := (some 37), op := (Op.pick (Operand.tmp 32) (Operand.tmp 36) (Operand.const (Value.bool false))), type := 4, pos := "law.go:36", after := #[{ on := 22, ground := Ground.data }, { on := 26, ground := Ground.data }, { on := 13, ground := Ground.guard }], guard := (some (13, false)) }) (v := ?_) rfl (by kernel_rfl) (by kernel_rfl) (by kernel_rfl) (fun _ _ _ h => h) (Or.inl ⟨by rfl, ?_⟩) hHeld ?_
    rotate_left
    · intro w hSw; (try dsimp only at hSw); go_simp; try with_reducible rfl
    try simp only [Act.put, List.setIfInBounds_toArray, List.set_cons_zero, List.set_cons_succ]
    refine wpAnyH_take (i := 28) (oi := { dst := (some 38), op := (Op.pick (Operand.tmp 23) (Operand.const (Value.bool true)) (Operand.tmp 37)), type := 4, pos := "law.go:36", after := #[{ on := 13, ground := Ground.data }, { on := 27, ground := Ground.data }], guard := none }) (v := ?_) rfl (by kernel_rfl) (by kernel_rfl) (by kernel_rfl) (fun _ _ _ h => h) (Or.inl ⟨by rfl, ?_⟩) hHeld ?_
    rotate_left
    · intro w hSw; (try dsimp only at hSw); go_simp; try with_reducible rfl
    try simp only [Act.put, List.setIfInBounds_toArray, List.set_cons_zero, List.set_cons_succ]
    refine wpAnyH_done (by kernel_rfl) ?_ _
    clear hxy hyx
    clear hSx hSy hSz hSB
    cases hs : isSc x.f0 with
    | true =>
      have h7 : (x.f0 == 7) = false := beq_eq_false_iff_ne.mpr (by simp [isSc] at hs; omega)
      have h8 : (x.f0 == 8) = false := beq_eq_false_iff_ne.mpr (by simp [isSc] at hs; omega)
      have hf : fitsT x x false = true := by rw [fits_self, hs]; rfl
      go_wp2_with fail
      refine wp_region_held_drew (S := fun w' => (w'.cell? ⟨w.heap.size, 0, none⟩ = some (.int .i64 x.f0) ∧ w'.cell? ⟨w.heap.size, 1, none⟩ = some (.int .i64 x.f1) ∧ w'.cell? ⟨w.heap.size, 2, none⟩ = some (.string x.f2) ∧ w'.cell? ⟨w.heap.size, 3, none⟩ = some (.slice A x.f3.length c)) ∧ (w'.cell? ⟨w.heap.size + 1, 0, none⟩ = some (.int .i64 y.f0) ∧ w'.cell? ⟨w.heap.size + 1, 1, none⟩ = some (.int .i64 y.f1) ∧ w'.cell? ⟨w.heap.size + 1, 2, none⟩ = some (.string y.f2) ∧ w'.cell? ⟨w.heap.size + 1, 3, none⟩ = some (.slice B y.f3.length d)) ∧ (w'.cell? ⟨w.heap.size + 1 + 1, 0, none⟩ = some (.int .i64 z.f0) ∧ w'.cell? ⟨w.heap.size + 1 + 1, 1, none⟩ = some (.int .i64 z.f1) ∧ w'.cell? ⟨w.heap.size + 1 + 1, 2, none⟩ = some (.string z.f2) ∧ w'.cell? ⟨w.heap.size + 1 + 1, 3, none⟩ = some (.slice C z.f3.length f)) ∧ Below w.heap.size w w') (by kernel_rfl) ⟨hHeld.1, hHeld.2.1, hHeld.2.2.1, below_drew hHeld.2.2.2⟩ (fun hHeld => ?_)
      refine wpAnyH_take (i := 0) (oi := { dst := (some 47), op := (Op.move (Operand.tmp 7)), type := 4, pos := "law.go:40", after := #[], guard := none }) (v := ?_) rfl (by kernel_rfl) (by kernel_rfl) (by kernel_rfl) (fun _ _ _ h => h) (Or.inl ⟨by rfl, ?_⟩) hHeld ?_
      rotate_left
      · intro w hSw; (try dsimp only at hSw); go_simp; try with_reducible rfl
      try simp only [Act.put, List.setIfInBounds_toArray, List.set_cons_zero, List.set_cons_succ]
      refine wpAnyH_take (i := 1) (oi := { dst := (some 48), op := (Op.move (Operand.tmp 47)), type := 4, pos := "law.go:40", after := #[{ on := 0, ground := Ground.data }], guard := none }) (v := ?_) rfl (by kernel_rfl) (by kernel_rfl) (by kernel_rfl) (fun _ _ _ h => h) (Or.inl ⟨by rfl, ?_⟩) hHeld ?_
      rotate_left
      · intro w hSw; (try dsimp only at hSw); go_simp; try with_reducible rfl
      try simp only [Act.put, List.setIfInBounds_toArray, List.set_cons_zero, List.set_cons_succ]
      refine wpAnyH_take (i := 2) (oi := { dst := (some 49), op := (Op.load 24 (Operand.tmp 3)), type := 24, pos := "law.go:40", after := #[{ on := 1, ground := Ground.guard }], guard := (some (1, true)) }) (v := ?_) rfl (by kernel_rfl) (by kernel_rfl) (by kernel_rfl) (fun _ _ _ h => h) (Or.inl ⟨by rfl, ?_⟩) hHeld ?_
      rotate_left
      · intro w hSw; (try dsimp only at hSw); go_simp; try with_reducible rfl
      try simp only [Act.put, List.setIfInBounds_toArray, List.set_cons_zero, List.set_cons_succ]
      refine wpAnyH_take (i := 7) (oi := { dst := (some 54), op := (Op.load 24 (Operand.tmp 3)), type := 24, pos := "law.go:40", after := #[{ on := 1, ground := Ground.guard }], guard := (some (1, true)) }) (v := ?_) rfl (by kernel_rfl) (by kernel_rfl) (by kernel_rfl) (fun _ _ _ h => h) (Or.inl ⟨by rfl, ?_⟩) hHeld ?_
      rotate_left
      · intro w hSw; (try dsimp only at hSw); go_simp; try with_reducible rfl
      try simp only [Act.put, List.setIfInBounds_toArray, List.set_cons_zero, List.set_cons_succ]
      refine wpAnyH_take (i := 8) (oi := { dst := (some 55), op := (Op.load 24 (Operand.tmp 3)), type := 24, pos := "law.go:40", after := #[{ on := 1, ground := Ground.guard }], guard := (some (1, true)) }) (v := ?_) rfl (by kernel_rfl) (by kernel_rfl) (by kernel_rfl) (fun _ _ _ h => h) (Or.inl ⟨by rfl, ?_⟩) hHeld ?_
      rotate_left
      · intro w hSw; (try dsimp only at hSw); go_simp; try with_reducible rfl
      try simp only [Act.put, List.setIfInBounds_toArray, List.set_cons_zero, List.set_cons_succ]
      refine wpAnyH_ready (rs := [3]) (by kernel_rfl) (by simp) ?_
      refine AllReadyH.cons (o := { dst := (some 50), op := (Op.call { callee := (Callee.value (Operand.func 17)), args := #[(Operand.tmp 49)], argTypes := #[24] }), type := 4, pos := "law.go:40", after := #[{ on := 2, ground := Ground.data }, { on := 1, ground := Ground.chain }, { on := 1, ground := Ground.guard }], guard := (some (1, true)) }) rfl (fun K hK => ?_) AllReadyH.nil
      go_simp
      refine (scalar_calls _ _ _ _ _ _ _).mono ?_
      rintro e w2 ⟨rfl, hb2⟩
      go_wp2_with fail
      refine hK.out _ _ (HK.out _ _ hb2 hHeld) (fun hHeld => ?_)
      clear hK K
      try simp only [Act.put, List.setIfInBounds_toArray, List.set_cons_zero, List.set_cons_succ]
      refine wpAnyH_take (i := 4) (oi := { dst := (some 51), op := (Op.move (Operand.tmp 50)), type := 4, pos := "law.go:40", after := #[{ on := 3, ground := Ground.data }, { on := 3, ground := Ground.chain }, { on := 1, ground := Ground.guard }], guard := (some (1, true)) }) (v := ?_) rfl (by kernel_rfl) (by kernel_rfl) (by kernel_rfl) (fun _ _ _ h => h) (Or.inl ⟨by rfl, ?_⟩) hHeld ?_
      rotate_left
      · intro w hSw; (try dsimp only at hSw); go_simp; try with_reducible rfl
      try simp only [Act.put, List.setIfInBounds_toArray, List.set_cons_zero, List.set_cons_succ]
      refine wpAnyH_take (i := 5) (oi := { dst := (some 52), op := (Op.move (Operand.tmp 8)), type := 4, pos := "law.go:40", after := #[{ on := 4, ground := Ground.guard }], guard := (some (4, false)) }) rfl (by kernel_rfl) (by kernel_rfl) (by kernel_rfl) (fun _ _ _ h => h) (Or.inr ⟨by rfl, rfl⟩) hHeld ?_
      try simp only [Act.put, List.setIfInBounds_toArray, List.set_cons_zero, List.set_cons_succ]
      refine wpAnyH_take (i := 6) (oi := { dst := (some 53), op := (Op.pick (Operand.tmp 51) (Operand.const (Value.bool true)) (Operand.tmp 52)), type := 4, pos := "law.go:40", after := #[{ on := 4, ground := Ground.data }, { on := 5, ground := Ground.data }, { on := 1, ground := Ground.guard }], guard := (some (1, true)) }) (v := ?_) rfl (by kernel_rfl) (by kernel_rfl) (by kernel_rfl) (fun _ _ _ h => h) (Or.inl ⟨by rfl, ?_⟩) hHeld ?_
      rotate_left
      · intro w hSw; (try dsimp only at hSw); go_simp; try with_reducible rfl
      try simp only [Act.put, List.setIfInBounds_toArray, List.set_cons_zero, List.set_cons_succ]
      refine wpAnyH_ready (rs := [9]) (by kernel_rfl) (by simp) ?_
      refine AllReadyH.cons (o := { dst := (some 56), op := (Op.call { callee := (Callee.value (Operand.func 13)), args := #[(Operand.tmp 54), (Operand.tmp 55), (Operand.const (Value.bool false))], argTypes := #[24, 24, 4] }), type := 4, pos := "law.go:40", after := #[{ on := 7, ground := Ground.data }, { on := 8, ground := Ground.data }, { on := 4, ground := Ground.chain }, { on := 1, ground := Ground.guard }], guard := (some (1, true)) }) rfl (fun K hK => ?_) AllReadyH.nil
      go_simp
      refine (fits_calls _ _ _ _ _ _ _ _ (Kd.C_below (by first | exact HCx.out | exact HCy.out | exact HCz.out) (HQ.out _ hHeld)) (by first | exact HLx.out | exact HLy.out | exact HLz.out) (Kd.C_below (by first | exact HCx.out | exact HCy.out | exact HCz.out) (HQ.out _ hHeld)) (by first | exact HLx.out | exact HLy.out | exact HLz.out)).mono ?_
      rintro e w2 ⟨rfl, hb2⟩
      go_wp2_with fail
      refine hK.out _ _ (HK.out _ _ hb2 hHeld) (fun hHeld => ?_)
      clear hK K
      try simp only [Act.put, List.setIfInBounds_toArray, List.set_cons_zero, List.set_cons_succ]
      refine wpAnyH_take (i := 10) (oi := { dst := (some 57), op := (Op.binOp BinOp.eql 4 (Operand.tmp 53) (Operand.tmp 56) 4), type := 4, pos := "law.go:40", after := #[{ on := 6, ground := Ground.data }, { on := 9, ground := Ground.data }, { on := 1, ground := Ground.guard }], guard := (some (1, true)) }) (v := ?_) rfl (by kernel_rfl) (by kernel_rfl) (by kernel_rfl) (fun _ _ _ h => h) (Or.inl ⟨by rfl, ?_⟩) hHeld ?_
      rotate_left
      · intro w hSw; (try dsimp only at hSw); go_simp; try with_reducible rfl
      try simp only [Act.put, List.setIfInBounds_toArray, List.set_cons_zero, List.set_cons_succ]
      refine wpAnyH_take (i := 11) (oi := { dst := (some 58), op := (Op.pick (Operand.tmp 48) (Operand.tmp 57) (Operand.const (Value.bool false))), type := 4, pos := "law.go:40", after := #[{ on := 1, ground := Ground.data }, { on := 10, ground := Ground.data }], guard := none }) (v := ?_) rfl (by kernel_rfl) (by kernel_rfl) (by kernel_rfl) (fun _ _ _ h => h) (Or.inl ⟨by rfl, ?_⟩) hHeld ?_
      rotate_left
      · intro w hSw; (try dsimp only at hSw); go_simp; try with_reducible rfl
      try simp only [Act.put, List.setIfInBounds_toArray, List.set_cons_zero, List.set_cons_succ]
      refine wpAnyH_take (i := 12) (oi := { dst := (some 6), op := (Op.assign (Operand.tmp 58)), type := 4, pos := "law.go:40", after := #[{ on := 11, ground := Ground.data }, { on := 9, ground := Ground.chain }, { on := 0, ground := Ground.phase }, { on := 1, ground := Ground.phase }, { on := 2, ground := Ground.phase }, { on := 3, ground := Ground.phase }, { on := 4, ground := Ground.phase }, { on := 5, ground := Ground.phase }, { on := 6, ground := Ground.phase }, { on := 7, ground := Ground.phase }, { on := 8, ground := Ground.phase }, { on := 9, ground := Ground.phase }, { on := 10, ground := Ground.phase }, { on := 11, ground := Ground.phase }], guard := none }) (v := ?_) rfl (by kernel_rfl) (by kernel_rfl) (by kernel_rfl) (fun _ _ _ h => h) (Or.inl ⟨by rfl, ?_⟩) hHeld ?_
      rotate_left
      · intro w hSw; (try dsimp only at hSw); go_simp; try with_reducible rfl
      try simp only [Act.put, List.setIfInBounds_toArray, List.set_cons_zero, List.set_cons_succ]
      refine wpAnyH_done (by kernel_rfl) ?_ _
      go_wp2_with fail
      go_ret
      exact ⟨rfl, HQ.out _ hHeld⟩
    | false =>
      cases h7 : (x.f0 == 7) with
      | true =>
        have hf : fitsT x x false = true := by rw [fits_self, hs, beq_iff_eq.mp h7]; rfl
        go_wp2_with fail
        refine wp_region_held_drew (S := fun w' => (w'.cell? ⟨w.heap.size, 0, none⟩ = some (.int .i64 x.f0) ∧ w'.cell? ⟨w.heap.size, 1, none⟩ = some (.int .i64 x.f1) ∧ w'.cell? ⟨w.heap.size, 2, none⟩ = some (.string x.f2) ∧ w'.cell? ⟨w.heap.size, 3, none⟩ = some (.slice A x.f3.length c)) ∧ (w'.cell? ⟨w.heap.size + 1, 0, none⟩ = some (.int .i64 y.f0) ∧ w'.cell? ⟨w.heap.size + 1, 1, none⟩ = some (.int .i64 y.f1) ∧ w'.cell? ⟨w.heap.size + 1, 2, none⟩ = some (.string y.f2) ∧ w'.cell? ⟨w.heap.size + 1, 3, none⟩ = some (.slice B y.f3.length d)) ∧ (w'.cell? ⟨w.heap.size + 1 + 1, 0, none⟩ = some (.int .i64 z.f0) ∧ w'.cell? ⟨w.heap.size + 1 + 1, 1, none⟩ = some (.int .i64 z.f1) ∧ w'.cell? ⟨w.heap.size + 1 + 1, 2, none⟩ = some (.string z.f2) ∧ w'.cell? ⟨w.heap.size + 1 + 1, 3, none⟩ = some (.slice C z.f3.length f)) ∧ Below w.heap.size w w') (by kernel_rfl) ⟨hHeld.1, hHeld.2.1, hHeld.2.2.1, below_drew hHeld.2.2.2⟩ (fun hHeld => ?_)
        refine wpAnyH_take (i := 0) (oi := { dst := (some 47), op := (Op.move (Operand.tmp 7)), type := 4, pos := "law.go:40", after := #[], guard := none }) (v := ?_) rfl (by kernel_rfl) (by kernel_rfl) (by kernel_rfl) (fun _ _ _ h => h) (Or.inl ⟨by rfl, ?_⟩) hHeld ?_
        rotate_left
        · intro w hSw; (try dsimp only at hSw); go_simp; try with_reducible rfl
        try simp only [Act.put, List.setIfInBounds_toArray, List.set_cons_zero, List.set_cons_succ]
        refine wpAnyH_take (i := 1) (oi := { dst := (some 48), op := (Op.move (Operand.tmp 47)), type := 4, pos := "law.go:40", after := #[{ on := 0, ground := Ground.data }], guard := none }) (v := ?_) rfl (by kernel_rfl) (by kernel_rfl) (by kernel_rfl) (fun _ _ _ h => h) (Or.inl ⟨by rfl, ?_⟩) hHeld ?_
        rotate_left
        · intro w hSw; (try dsimp only at hSw); go_simp; try with_reducible rfl
        try simp only [Act.put, List.setIfInBounds_toArray, List.set_cons_zero, List.set_cons_succ]
        refine wpAnyH_take (i := 2) (oi := { dst := (some 49), op := (Op.load 24 (Operand.tmp 3)), type := 24, pos := "law.go:40", after := #[{ on := 1, ground := Ground.guard }], guard := (some (1, true)) }) (v := ?_) rfl (by kernel_rfl) (by kernel_rfl) (by kernel_rfl) (fun _ _ _ h => h) (Or.inl ⟨by rfl, ?_⟩) hHeld ?_
        rotate_left
        · intro w hSw; (try dsimp only at hSw); go_simp; try with_reducible rfl
        try simp only [Act.put, List.setIfInBounds_toArray, List.set_cons_zero, List.set_cons_succ]
        refine wpAnyH_take (i := 7) (oi := { dst := (some 54), op := (Op.load 24 (Operand.tmp 3)), type := 24, pos := "law.go:40", after := #[{ on := 1, ground := Ground.guard }], guard := (some (1, true)) }) (v := ?_) rfl (by kernel_rfl) (by kernel_rfl) (by kernel_rfl) (fun _ _ _ h => h) (Or.inl ⟨by rfl, ?_⟩) hHeld ?_
        rotate_left
        · intro w hSw; (try dsimp only at hSw); go_simp; try with_reducible rfl
        try simp only [Act.put, List.setIfInBounds_toArray, List.set_cons_zero, List.set_cons_succ]
        refine wpAnyH_take (i := 8) (oi := { dst := (some 55), op := (Op.load 24 (Operand.tmp 3)), type := 24, pos := "law.go:40", after := #[{ on := 1, ground := Ground.guard }], guard := (some (1, true)) }) (v := ?_) rfl (by kernel_rfl) (by kernel_rfl) (by kernel_rfl) (fun _ _ _ h => h) (Or.inl ⟨by rfl, ?_⟩) hHeld ?_
        rotate_left
        · intro w hSw; (try dsimp only at hSw); go_simp; try with_reducible rfl
        try simp only [Act.put, List.setIfInBounds_toArray, List.set_cons_zero, List.set_cons_succ]
        refine wpAnyH_ready (rs := [3]) (by kernel_rfl) (by simp) ?_
        refine AllReadyH.cons (o := { dst := (some 50), op := (Op.call { callee := (Callee.value (Operand.func 17)), args := #[(Operand.tmp 49)], argTypes := #[24] }), type := 4, pos := "law.go:40", after := #[{ on := 2, ground := Ground.data }, { on := 1, ground := Ground.chain }, { on := 1, ground := Ground.guard }], guard := (some (1, true)) }) rfl (fun K hK => ?_) AllReadyH.nil
        go_simp
        refine (scalar_calls _ _ _ _ _ _ _).mono ?_
        rintro e w2 ⟨rfl, hb2⟩
        go_wp2_with fail
        refine hK.out _ _ (HK.out _ _ hb2 hHeld) (fun hHeld => ?_)
        clear hK K
        try simp only [Act.put, List.setIfInBounds_toArray, List.set_cons_zero, List.set_cons_succ]
        refine wpAnyH_take (i := 4) (oi := { dst := (some 51), op := (Op.move (Operand.tmp 50)), type := 4, pos := "law.go:40", after := #[{ on := 3, ground := Ground.data }, { on := 3, ground := Ground.chain }, { on := 1, ground := Ground.guard }], guard := (some (1, true)) }) (v := ?_) rfl (by kernel_rfl) (by kernel_rfl) (by kernel_rfl) (fun _ _ _ h => h) (Or.inl ⟨by rfl, ?_⟩) hHeld ?_
        rotate_left
        · intro w hSw; (try dsimp only at hSw); go_simp; try with_reducible rfl
        try simp only [Act.put, List.setIfInBounds_toArray, List.set_cons_zero, List.set_cons_succ]
        refine wpAnyH_take (i := 5) (oi := { dst := (some 52), op := (Op.move (Operand.tmp 8)), type := 4, pos := "law.go:40", after := #[{ on := 4, ground := Ground.guard }], guard := (some (4, false)) }) (v := ?_) rfl (by kernel_rfl) (by kernel_rfl) (by kernel_rfl) (fun _ _ _ h => h) (Or.inl ⟨by rfl, ?_⟩) hHeld ?_
        rotate_left
        · intro w hSw; (try dsimp only at hSw); go_simp; try with_reducible rfl
        try simp only [Act.put, List.setIfInBounds_toArray, List.set_cons_zero, List.set_cons_succ]
        refine wpAnyH_take (i := 6) (oi := { dst := (some 53), op := (Op.pick (Operand.tmp 51) (Operand.const (Value.bool true)) (Operand.tmp 52)), type := 4, pos := "law.go:40", after := #[{ on := 4, ground := Ground.data }, { on := 5, ground := Ground.data }, { on := 1, ground := Ground.guard }], guard := (some (1, true)) }) (v := ?_) rfl (by kernel_rfl) (by kernel_rfl) (by kernel_rfl) (fun _ _ _ h => h) (Or.inl ⟨by rfl, ?_⟩) hHeld ?_
        rotate_left
        · intro w hSw; (try dsimp only at hSw); go_simp; try with_reducible rfl
        try simp only [Act.put, List.setIfInBounds_toArray, List.set_cons_zero, List.set_cons_succ]
        refine wpAnyH_ready (rs := [9]) (by kernel_rfl) (by simp) ?_
        refine AllReadyH.cons (o := { dst := (some 56), op := (Op.call { callee := (Callee.value (Operand.func 13)), args := #[(Operand.tmp 54), (Operand.tmp 55), (Operand.const (Value.bool false))], argTypes := #[24, 24, 4] }), type := 4, pos := "law.go:40", after := #[{ on := 7, ground := Ground.data }, { on := 8, ground := Ground.data }, { on := 4, ground := Ground.chain }, { on := 1, ground := Ground.guard }], guard := (some (1, true)) }) rfl (fun K hK => ?_) AllReadyH.nil
        go_simp
        refine (fits_calls _ _ _ _ _ _ _ _ (Kd.C_below (by first | exact HCx.out | exact HCy.out | exact HCz.out) (HQ.out _ hHeld)) (by first | exact HLx.out | exact HLy.out | exact HLz.out) (Kd.C_below (by first | exact HCx.out | exact HCy.out | exact HCz.out) (HQ.out _ hHeld)) (by first | exact HLx.out | exact HLy.out | exact HLz.out)).mono ?_
        rintro e w2 ⟨rfl, hb2⟩
        go_wp2_with fail
        refine hK.out _ _ (HK.out _ _ hb2 hHeld) (fun hHeld => ?_)
        clear hK K
        try simp only [Act.put, List.setIfInBounds_toArray, List.set_cons_zero, List.set_cons_succ]
        refine wpAnyH_take (i := 10) (oi := { dst := (some 57), op := (Op.binOp BinOp.eql 4 (Operand.tmp 53) (Operand.tmp 56) 4), type := 4, pos := "law.go:40", after := #[{ on := 6, ground := Ground.data }, { on := 9, ground := Ground.data }, { on := 1, ground := Ground.guard }], guard := (some (1, true)) }) (v := ?_) rfl (by kernel_rfl) (by kernel_rfl) (by kernel_rfl) (fun _ _ _ h => h) (Or.inl ⟨by rfl, ?_⟩) hHeld ?_
        rotate_left
        · intro w hSw; (try dsimp only at hSw); go_simp; try with_reducible rfl
        try simp only [Act.put, List.setIfInBounds_toArray, List.set_cons_zero, List.set_cons_succ]
        refine wpAnyH_take (i := 11) (oi := { dst := (some 58), op := (Op.pick (Operand.tmp 48) (Operand.tmp 57) (Operand.const (Value.bool false))), type := 4, pos := "law.go:40", after := #[{ on := 1, ground := Ground.data }, { on := 10, ground := Ground.data }], guard := none }) (v := ?_) rfl (by kernel_rfl) (by kernel_rfl) (by kernel_rfl) (fun _ _ _ h => h) (Or.inl ⟨by rfl, ?_⟩) hHeld ?_
        rotate_left
        · intro w hSw; (try dsimp only at hSw); go_simp; try with_reducible rfl
        try simp only [Act.put, List.setIfInBounds_toArray, List.set_cons_zero, List.set_cons_succ]
        refine wpAnyH_take (i := 12) (oi := { dst := (some 6), op := (Op.assign (Operand.tmp 58)), type := 4, pos := "law.go:40", after := #[{ on := 11, ground := Ground.data }, { on := 9, ground := Ground.chain }, { on := 0, ground := Ground.phase }, { on := 1, ground := Ground.phase }, { on := 2, ground := Ground.phase }, { on := 3, ground := Ground.phase }, { on := 4, ground := Ground.phase }, { on := 5, ground := Ground.phase }, { on := 6, ground := Ground.phase }, { on := 7, ground := Ground.phase }, { on := 8, ground := Ground.phase }, { on := 9, ground := Ground.phase }, { on := 10, ground := Ground.phase }, { on := 11, ground := Ground.phase }], guard := none }) (v := ?_) rfl (by kernel_rfl) (by kernel_rfl) (by kernel_rfl) (fun _ _ _ h => h) (Or.inl ⟨by rfl, ?_⟩) hHeld ?_
        rotate_left
        · intro w hSw; (try dsimp only at hSw); go_simp; try with_reducible rfl
        try simp only [Act.put, List.setIfInBounds_toArray, List.set_cons_zero, List.set_cons_succ]
        refine wpAnyH_done (by kernel_rfl) ?_ _
        go_wp2_with fail
        go_ret
        exact ⟨rfl, HQ.out _ hHeld⟩
      | false =>
        cases h8 : (x.f0 == 8) with
        | true =>
          have hf : fitsT x x false = true := by rw [fits_self, hs, beq_iff_eq.mp h8]; rfl
          go_wp2_with fail
          refine wp_region_held_drew (S := fun w' => (w'.cell? ⟨w.heap.size, 0, none⟩ = some (.int .i64 x.f0) ∧ w'.cell? ⟨w.heap.size, 1, none⟩ = some (.int .i64 x.f1) ∧ w'.cell? ⟨w.heap.size, 2, none⟩ = some (.string x.f2) ∧ w'.cell? ⟨w.heap.size, 3, none⟩ = some (.slice A x.f3.length c)) ∧ (w'.cell? ⟨w.heap.size + 1, 0, none⟩ = some (.int .i64 y.f0) ∧ w'.cell? ⟨w.heap.size + 1, 1, none⟩ = some (.int .i64 y.f1) ∧ w'.cell? ⟨w.heap.size + 1, 2, none⟩ = some (.string y.f2) ∧ w'.cell? ⟨w.heap.size + 1, 3, none⟩ = some (.slice B y.f3.length d)) ∧ (w'.cell? ⟨w.heap.size + 1 + 1, 0, none⟩ = some (.int .i64 z.f0) ∧ w'.cell? ⟨w.heap.size + 1 + 1, 1, none⟩ = some (.int .i64 z.f1) ∧ w'.cell? ⟨w.heap.size + 1 + 1, 2, none⟩ = some (.string z.f2) ∧ w'.cell? ⟨w.heap.size + 1 + 1, 3, none⟩ = some (.slice C z.f3.length f)) ∧ Below w.heap.size w w') (by kernel_rfl) ⟨hHeld.1, hHeld.2.1, hHeld.2.2.1, below_drew hHeld.2.2.2⟩ (fun hHeld => ?_)
          refine wpAnyH_take (i := 0) (oi := { dst := (some 47), op := (Op.move (Operand.tmp 7)), type := 4, pos := "law.go:40", after := #[], guard := none }) (v := ?_) rfl (by kernel_rfl) (by kernel_rfl) (by kernel_rfl) (fun _ _ _ h => h) (Or.inl ⟨by rfl, ?_⟩) hHeld ?_
          rotate_left
          · intro w hSw; (try dsimp only at hSw); go_simp; try with_reducible rfl
          try simp only [Act.put, List.setIfInBounds_toArray, List.set_cons_zero, List.set_cons_succ]
          refine wpAnyH_take (i := 1) (oi := { dst := (some 48), op := (Op.move (Operand.tmp 47)), type := 4, pos := "law.go:40", after := #[{ on := 0, ground := Ground.data }], guard := none }) (v := ?_) rfl (by kernel_rfl) (by kernel_rfl) (by kernel_rfl) (fun _ _ _ h => h) (Or.inl ⟨by rfl, ?_⟩) hHeld ?_
          rotate_left
          · intro w hSw; (try dsimp only at hSw); go_simp; try with_reducible rfl
          try simp only [Act.put, List.setIfInBounds_toArray, List.set_cons_zero, List.set_cons_succ]
          refine wpAnyH_take (i := 2) (oi := { dst := (some 49), op := (Op.load 24 (Operand.tmp 3)), type := 24, pos := "law.go:40", after := #[{ on := 1, ground := Ground.guard }], guard := (some (1, true)) }) (v := ?_) rfl (by kernel_rfl) (by kernel_rfl) (by kernel_rfl) (fun _ _ _ h => h) (Or.inl ⟨by rfl, ?_⟩) hHeld ?_
          rotate_left
          · intro w hSw; (try dsimp only at hSw); go_simp; try with_reducible rfl
          try simp only [Act.put, List.setIfInBounds_toArray, List.set_cons_zero, List.set_cons_succ]
          refine wpAnyH_take (i := 7) (oi := { dst := (some 54), op := (Op.load 24 (Operand.tmp 3)), type := 24, pos := "law.go:40", after := #[{ on := 1, ground := Ground.guard }], guard := (some (1, true)) }) (v := ?_) rfl (by kernel_rfl) (by kernel_rfl) (by kernel_rfl) (fun _ _ _ h => h) (Or.inl ⟨by rfl, ?_⟩) hHeld ?_
          rotate_left
          · intro w hSw; (try dsimp only at hSw); go_simp; try with_reducible rfl
          try simp only [Act.put, List.setIfInBounds_toArray, List.set_cons_zero, List.set_cons_succ]
          refine wpAnyH_take (i := 8) (oi := { dst := (some 55), op := (Op.load 24 (Operand.tmp 3)), type := 24, pos := "law.go:40", after := #[{ on := 1, ground := Ground.guard }], guard := (some (1, true)) }) (v := ?_) rfl (by kernel_rfl) (by kernel_rfl) (by kernel_rfl) (fun _ _ _ h => h) (Or.inl ⟨by rfl, ?_⟩) hHeld ?_
          rotate_left
          · intro w hSw; (try dsimp only at hSw); go_simp; try with_reducible rfl
          try simp only [Act.put, List.setIfInBounds_toArray, List.set_cons_zero, List.set_cons_succ]
          refine wpAnyH_ready (rs := [3]) (by kernel_rfl) (by simp) ?_
          refine AllReadyH.cons (o := { dst := (some 50), op := (Op.call { callee := (Callee.value (Operand.func 17)), args := #[(Operand.tmp 49)], argTypes := #[24] }), type := 4, pos := "law.go:40", after := #[{ on := 2, ground := Ground.data }, { on := 1, ground := Ground.chain }, { on := 1, ground := Ground.guard }], guard := (some (1, true)) }) rfl (fun K hK => ?_) AllReadyH.nil
          go_simp
          refine (scalar_calls _ _ _ _ _ _ _).mono ?_
          rintro e w2 ⟨rfl, hb2⟩
          go_wp2_with fail
          refine hK.out _ _ (HK.out _ _ hb2 hHeld) (fun hHeld => ?_)
          clear hK K
          try simp only [Act.put, List.setIfInBounds_toArray, List.set_cons_zero, List.set_cons_succ]
          refine wpAnyH_take (i := 4) (oi := { dst := (some 51), op := (Op.move (Operand.tmp 50)), type := 4, pos := "law.go:40", after := #[{ on := 3, ground := Ground.data }, { on := 3, ground := Ground.chain }, { on := 1, ground := Ground.guard }], guard := (some (1, true)) }) (v := ?_) rfl (by kernel_rfl) (by kernel_rfl) (by kernel_rfl) (fun _ _ _ h => h) (Or.inl ⟨by rfl, ?_⟩) hHeld ?_
          rotate_left
          · intro w hSw; (try dsimp only at hSw); go_simp; try with_reducible rfl
          try simp only [Act.put, List.setIfInBounds_toArray, List.set_cons_zero, List.set_cons_succ]
          refine wpAnyH_take (i := 5) (oi := { dst := (some 52), op := (Op.move (Operand.tmp 8)), type := 4, pos := "law.go:40", after := #[{ on := 4, ground := Ground.guard }], guard := (some (4, false)) }) (v := ?_) rfl (by kernel_rfl) (by kernel_rfl) (by kernel_rfl) (fun _ _ _ h => h) (Or.inl ⟨by rfl, ?_⟩) hHeld ?_
          rotate_left
          · intro w hSw; (try dsimp only at hSw); go_simp; try with_reducible rfl
          try simp only [Act.put, List.setIfInBounds_toArray, List.set_cons_zero, List.set_cons_succ]
          refine wpAnyH_take (i := 6) (oi := { dst := (some 53), op := (Op.pick (Operand.tmp 51) (Operand.const (Value.bool true)) (Operand.tmp 52)), type := 4, pos := "law.go:40", after := #[{ on := 4, ground := Ground.data }, { on := 5, ground := Ground.data }, { on := 1, ground := Ground.guard }], guard := (some (1, true)) }) (v := ?_) rfl (by kernel_rfl) (by kernel_rfl) (by kernel_rfl) (fun _ _ _ h => h) (Or.inl ⟨by rfl, ?_⟩) hHeld ?_
          rotate_left
          · intro w hSw; (try dsimp only at hSw); go_simp; try with_reducible rfl
          try simp only [Act.put, List.setIfInBounds_toArray, List.set_cons_zero, List.set_cons_succ]
          refine wpAnyH_ready (rs := [9]) (by kernel_rfl) (by simp) ?_
          refine AllReadyH.cons (o := { dst := (some 56), op := (Op.call { callee := (Callee.value (Operand.func 13)), args := #[(Operand.tmp 54), (Operand.tmp 55), (Operand.const (Value.bool false))], argTypes := #[24, 24, 4] }), type := 4, pos := "law.go:40", after := #[{ on := 7, ground := Ground.data }, { on := 8, ground := Ground.data }, { on := 4, ground := Ground.chain }, { on := 1, ground := Ground.guard }], guard := (some (1, true)) }) rfl (fun K hK => ?_) AllReadyH.nil
          go_simp
          refine (fits_calls _ _ _ _ _ _ _ _ (Kd.C_below (by first | exact HCx.out | exact HCy.out | exact HCz.out) (HQ.out _ hHeld)) (by first | exact HLx.out | exact HLy.out | exact HLz.out) (Kd.C_below (by first | exact HCx.out | exact HCy.out | exact HCz.out) (HQ.out _ hHeld)) (by first | exact HLx.out | exact HLy.out | exact HLz.out)).mono ?_
          rintro e w2 ⟨rfl, hb2⟩
          go_wp2_with fail
          refine hK.out _ _ (HK.out _ _ hb2 hHeld) (fun hHeld => ?_)
          clear hK K
          try simp only [Act.put, List.setIfInBounds_toArray, List.set_cons_zero, List.set_cons_succ]
          refine wpAnyH_take (i := 10) (oi := { dst := (some 57), op := (Op.binOp BinOp.eql 4 (Operand.tmp 53) (Operand.tmp 56) 4), type := 4, pos := "law.go:40", after := #[{ on := 6, ground := Ground.data }, { on := 9, ground := Ground.data }, { on := 1, ground := Ground.guard }], guard := (some (1, true)) }) (v := ?_) rfl (by kernel_rfl) (by kernel_rfl) (by kernel_rfl) (fun _ _ _ h => h) (Or.inl ⟨by rfl, ?_⟩) hHeld ?_
          rotate_left
          · intro w hSw; (try dsimp only at hSw); go_simp; try with_reducible rfl
          try simp only [Act.put, List.setIfInBounds_toArray, List.set_cons_zero, List.set_cons_succ]
          refine wpAnyH_take (i := 11) (oi := { dst := (some 58), op := (Op.pick (Operand.tmp 48) (Operand.tmp 57) (Operand.const (Value.bool false))), type := 4, pos := "law.go:40", after := #[{ on := 1, ground := Ground.data }, { on := 10, ground := Ground.data }], guard := none }) (v := ?_) rfl (by kernel_rfl) (by kernel_rfl) (by kernel_rfl) (fun _ _ _ h => h) (Or.inl ⟨by rfl, ?_⟩) hHeld ?_
          rotate_left
          · intro w hSw; (try dsimp only at hSw); go_simp; try with_reducible rfl
          try simp only [Act.put, List.setIfInBounds_toArray, List.set_cons_zero, List.set_cons_succ]
          refine wpAnyH_take (i := 12) (oi := { dst := (some 6), op := (Op.assign (Operand.tmp 58)), type := 4, pos := "law.go:40", after := #[{ on := 11, ground := Ground.data }, { on := 9, ground := Ground.chain }, { on := 0, ground := Ground.phase }, { on := 1, ground := Ground.phase }, { on := 2, ground := Ground.phase }, { on := 3, ground := Ground.phase }, { on := 4, ground := Ground.phase }, { on := 5, ground := Ground.phase }, { on := 6, ground := Ground.phase }, { on := 7, ground := Ground.phase }, { on := 8, ground := Ground.phase }, { on := 9, ground := Ground.phase }, { on := 10, ground := Ground.phase }, { on := 11, ground := Ground.phase }], guard := none }) (v := ?_) rfl (by kernel_rfl) (by kernel_rfl) (by kernel_rfl) (fun _ _ _ h => h) (Or.inl ⟨by rfl, ?_⟩) hHeld ?_
          rotate_left
          · intro w hSw; (try dsimp only at hSw); go_simp; try with_reducible rfl
          try simp only [Act.put, List.setIfInBounds_toArray, List.set_cons_zero, List.set_cons_succ]
          refine wpAnyH_done (by kernel_rfl) ?_ _
          go_wp2_with fail
          go_ret
          exact ⟨rfl, HQ.out _ hHeld⟩
        | false =>
          have hf : fitsT x x false = false := by rw [fits_self, hs, decide_eq_false (beq_eq_false_iff_ne.mp h7), decide_eq_false (beq_eq_false_iff_ne.mp h8)]; rfl
          go_wp2_with fail
          refine wp_region_held_drew (S := fun w' => (w'.cell? ⟨w.heap.size, 0, none⟩ = some (.int .i64 x.f0) ∧ w'.cell? ⟨w.heap.size, 1, none⟩ = some (.int .i64 x.f1) ∧ w'.cell? ⟨w.heap.size, 2, none⟩ = some (.string x.f2) ∧ w'.cell? ⟨w.heap.size, 3, none⟩ = some (.slice A x.f3.length c)) ∧ (w'.cell? ⟨w.heap.size + 1, 0, none⟩ = some (.int .i64 y.f0) ∧ w'.cell? ⟨w.heap.size + 1, 1, none⟩ = some (.int .i64 y.f1) ∧ w'.cell? ⟨w.heap.size + 1, 2, none⟩ = some (.string y.f2) ∧ w'.cell? ⟨w.heap.size + 1, 3, none⟩ = some (.slice B y.f3.length d)) ∧ (w'.cell? ⟨w.heap.size + 1 + 1, 0, none⟩ = some (.int .i64 z.f0) ∧ w'.cell? ⟨w.heap.size + 1 + 1, 1, none⟩ = some (.int .i64 z.f1) ∧ w'.cell? ⟨w.heap.size + 1 + 1, 2, none⟩ = some (.string z.f2) ∧ w'.cell? ⟨w.heap.size + 1 + 1, 3, none⟩ = some (.slice C z.f3.length f)) ∧ Below w.heap.size w w') (by kernel_rfl) ⟨hHeld.1, hHeld.2.1, hHeld.2.2.1, below_drew hHeld.2.2.2⟩ (fun hHeld => ?_)
          refine wpAnyH_take (i := 0) (oi := { dst := (some 47), op := (Op.move (Operand.tmp 7)), type := 4, pos := "law.go:40", after := #[], guard := none }) (v := ?_) rfl (by kernel_rfl) (by kernel_rfl) (by kernel_rfl) (fun _ _ _ h => h) (Or.inl ⟨by rfl, ?_⟩) hHeld ?_
          rotate_left
          · intro w hSw; (try dsimp only at hSw); go_simp; try with_reducible rfl
          try simp only [Act.put, List.setIfInBounds_toArray, List.set_cons_zero, List.set_cons_succ]
          refine wpAnyH_take (i := 1) (oi := { dst := (some 48), op := (Op.move (Operand.tmp 47)), type := 4, pos := "law.go:40", after := #[{ on := 0, ground := Ground.data }], guard := none }) (v := ?_) rfl (by kernel_rfl) (by kernel_rfl) (by kernel_rfl) (fun _ _ _ h => h) (Or.inl ⟨by rfl, ?_⟩) hHeld ?_
          rotate_left
          · intro w hSw; (try dsimp only at hSw); go_simp; try with_reducible rfl
          try simp only [Act.put, List.setIfInBounds_toArray, List.set_cons_zero, List.set_cons_succ]
          refine wpAnyH_take (i := 2) (oi := { dst := (some 49), op := (Op.load 24 (Operand.tmp 3)), type := 24, pos := "law.go:40", after := #[{ on := 1, ground := Ground.guard }], guard := (some (1, true)) }) (v := ?_) rfl (by kernel_rfl) (by kernel_rfl) (by kernel_rfl) (fun _ _ _ h => h) (Or.inl ⟨by rfl, ?_⟩) hHeld ?_
          rotate_left
          · intro w hSw; (try dsimp only at hSw); go_simp; try with_reducible rfl
          try simp only [Act.put, List.setIfInBounds_toArray, List.set_cons_zero, List.set_cons_succ]
          refine wpAnyH_take (i := 7) (oi := { dst := (some 54), op := (Op.load 24 (Operand.tmp 3)), type := 24, pos := "law.go:40", after := #[{ on := 1, ground := Ground.guard }], guard := (some (1, true)) }) (v := ?_) rfl (by kernel_rfl) (by kernel_rfl) (by kernel_rfl) (fun _ _ _ h => h) (Or.inl ⟨by rfl, ?_⟩) hHeld ?_
          rotate_left
          · intro w hSw; (try dsimp only at hSw); go_simp; try with_reducible rfl
          try simp only [Act.put, List.setIfInBounds_toArray, List.set_cons_zero, List.set_cons_succ]
          refine wpAnyH_take (i := 8) (oi := { dst := (some 55), op := (Op.load 24 (Operand.tmp 3)), type := 24, pos := "law.go:40", after := #[{ on := 1, ground := Ground.guard }], guard := (some (1, true)) }) (v := ?_) rfl (by kernel_rfl) (by kernel_rfl) (by kernel_rfl) (fun _ _ _ h => h) (Or.inl ⟨by rfl, ?_⟩) hHeld ?_
          rotate_left
          · intro w hSw; (try dsimp only at hSw); go_simp; try with_reducible rfl
          try simp only [Act.put, List.setIfInBounds_toArray, List.set_cons_zero, List.set_cons_succ]
          refine wpAnyH_ready (rs := [3]) (by kernel_rfl) (by simp) ?_
          refine AllReadyH.cons (o := { dst := (some 50), op := (Op.call { callee := (Callee.value (Operand.func 17)), args := #[(Operand.tmp 49)], argTypes := #[24] }), type := 4, pos := "law.go:40", after := #[{ on := 2, ground := Ground.data }, { on := 1, ground := Ground.chain }, { on := 1, ground := Ground.guard }], guard := (some (1, true)) }) rfl (fun K hK => ?_) AllReadyH.nil
          go_simp
          refine (scalar_calls _ _ _ _ _ _ _).mono ?_
          rintro e w2 ⟨rfl, hb2⟩
          go_wp2_with fail
          refine hK.out _ _ (HK.out _ _ hb2 hHeld) (fun hHeld => ?_)
          clear hK K
          try simp only [Act.put, List.setIfInBounds_toArray, List.set_cons_zero, List.set_cons_succ]
          refine wpAnyH_take (i := 4) (oi := { dst := (some 51), op := (Op.move (Operand.tmp 50)), type := 4, pos := "law.go:40", after := #[{ on := 3, ground := Ground.data }, { on := 3, ground := Ground.chain }, { on := 1, ground := Ground.guard }], guard := (some (1, true)) }) (v := ?_) rfl (by kernel_rfl) (by kernel_rfl) (by kernel_rfl) (fun _ _ _ h => h) (Or.inl ⟨by rfl, ?_⟩) hHeld ?_
          rotate_left
          · intro w hSw; (try dsimp only at hSw); go_simp; try with_reducible rfl
          try simp only [Act.put, List.setIfInBounds_toArray, List.set_cons_zero, List.set_cons_succ]
          refine wpAnyH_take (i := 5) (oi := { dst := (some 52), op := (Op.move (Operand.tmp 8)), type := 4, pos := "law.go:40", after := #[{ on := 4, ground := Ground.guard }], guard := (some (4, false)) }) (v := ?_) rfl (by kernel_rfl) (by kernel_rfl) (by kernel_rfl) (fun _ _ _ h => h) (Or.inl ⟨by rfl, ?_⟩) hHeld ?_
          rotate_left
          · intro w hSw; (try dsimp only at hSw); go_simp; try with_reducible rfl
          try simp only [Act.put, List.setIfInBounds_toArray, List.set_cons_zero, List.set_cons_succ]
          refine wpAnyH_take (i := 6) (oi := { dst := (some 53), op := (Op.pick (Operand.tmp 51) (Operand.const (Value.bool true)) (Operand.tmp 52)), type := 4, pos := "law.go:40", after := #[{ on := 4, ground := Ground.data }, { on := 5, ground := Ground.data }, { on := 1, ground := Ground.guard }], guard := (some (1, true)) }) (v := ?_) rfl (by kernel_rfl) (by kernel_rfl) (by kernel_rfl) (fun _ _ _ h => h) (Or.inl ⟨by rfl, ?_⟩) hHeld ?_
          rotate_left
          · intro w hSw; (try dsimp only at hSw); go_simp; try with_reducible rfl
          try simp only [Act.put, List.setIfInBounds_toArray, List.set_cons_zero, List.set_cons_succ]
          refine wpAnyH_ready (rs := [9]) (by kernel_rfl) (by simp) ?_
          refine AllReadyH.cons (o := { dst := (some 56), op := (Op.call { callee := (Callee.value (Operand.func 13)), args := #[(Operand.tmp 54), (Operand.tmp 55), (Operand.const (Value.bool false))], argTypes := #[24, 24, 4] }), type := 4, pos := "law.go:40", after := #[{ on := 7, ground := Ground.data }, { on := 8, ground := Ground.data }, { on := 4, ground := Ground.chain }, { on := 1, ground := Ground.guard }], guard := (some (1, true)) }) rfl (fun K hK => ?_) AllReadyH.nil
          go_simp
          refine (fits_calls _ _ _ _ _ _ _ _ (Kd.C_below (by first | exact HCx.out | exact HCy.out | exact HCz.out) (HQ.out _ hHeld)) (by first | exact HLx.out | exact HLy.out | exact HLz.out) (Kd.C_below (by first | exact HCx.out | exact HCy.out | exact HCz.out) (HQ.out _ hHeld)) (by first | exact HLx.out | exact HLy.out | exact HLz.out)).mono ?_
          rintro e w2 ⟨rfl, hb2⟩
          go_wp2_with fail
          refine hK.out _ _ (HK.out _ _ hb2 hHeld) (fun hHeld => ?_)
          clear hK K
          try simp only [Act.put, List.setIfInBounds_toArray, List.set_cons_zero, List.set_cons_succ]
          refine wpAnyH_take (i := 10) (oi := { dst := (some 57), op := (Op.binOp BinOp.eql 4 (Operand.tmp 53) (Operand.tmp 56) 4), type := 4, pos := "law.go:40", after := #[{ on := 6, ground := Ground.data }, { on := 9, ground := Ground.data }, { on := 1, ground := Ground.guard }], guard := (some (1, true)) }) (v := ?_) rfl (by kernel_rfl) (by kernel_rfl) (by kernel_rfl) (fun _ _ _ h => h) (Or.inl ⟨by rfl, ?_⟩) hHeld ?_
          rotate_left
          · intro w hSw; (try dsimp only at hSw); go_simp; try with_reducible rfl
          try simp only [Act.put, List.setIfInBounds_toArray, List.set_cons_zero, List.set_cons_succ]
          refine wpAnyH_take (i := 11) (oi := { dst := (some 58), op := (Op.pick (Operand.tmp 48) (Operand.tmp 57) (Operand.const (Value.bool false))), type := 4, pos := "law.go:40", after := #[{ on := 1, ground := Ground.data }, { on := 10, ground := Ground.data }], guard := none }) (v := ?_) rfl (by kernel_rfl) (by kernel_rfl) (by kernel_rfl) (fun _ _ _ h => h) (Or.inl ⟨by rfl, ?_⟩) hHeld ?_
          rotate_left
          · intro w hSw; (try dsimp only at hSw); go_simp; try with_reducible rfl
          try simp only [Act.put, List.setIfInBounds_toArray, List.set_cons_zero, List.set_cons_succ]
          refine wpAnyH_take (i := 12) (oi := { dst := (some 6), op := (Op.assign (Operand.tmp 58)), type := 4, pos := "law.go:40", after := #[{ on := 11, ground := Ground.data }, { on := 9, ground := Ground.chain }, { on := 0, ground := Ground.phase }, { on := 1, ground := Ground.phase }, { on := 2, ground := Ground.phase }, { on := 3, ground := Ground.phase }, { on := 4, ground := Ground.phase }, { on := 5, ground := Ground.phase }, { on := 6, ground := Ground.phase }, { on := 7, ground := Ground.phase }, { on := 8, ground := Ground.phase }, { on := 9, ground := Ground.phase }, { on := 10, ground := Ground.phase }, { on := 11, ground := Ground.phase }], guard := none }) (v := ?_) rfl (by kernel_rfl) (by kernel_rfl) (by kernel_rfl) (fun _ _ _ h => h) (Or.inl ⟨by rfl, ?_⟩) hHeld ?_
          rotate_left
          · intro w hSw; (try dsimp only at hSw); go_simp; try with_reducible rfl
          try simp only [Act.put, List.setIfInBounds_toArray, List.set_cons_zero, List.set_cons_succ]
          refine wpAnyH_done (by kernel_rfl) ?_ _
          go_wp2_with fail
          go_ret
          exact ⟨rfl, HQ.out _ hHeld⟩
end Go.Proofs.Ytmmgdifjiapbmaa.G
