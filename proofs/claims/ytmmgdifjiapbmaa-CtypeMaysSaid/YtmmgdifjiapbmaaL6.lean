/- The law CtypeMays returns true. The arguments read as types. -/
import Derived.Test.YtmmgdifjiapbmaaHl
import Derived.Test.YtmmgdifjiapbmaaHm
import Derived.Test.YtmmgdifjiapbmaaHk
import Derived.Test.YtmmgdifjiapbmaaHo
import Derived.Test.YtmmgdifjiapbmaaL1
set_option linter.unusedVariables false
set_option linter.unusedSimpArgs false
namespace Go.Proofs.Ytmmgdifjiapbmaa.G
open Go.RowKit Go.Proofs.Ytmmgdifjiapbmaa.B Go.Proofs.YtmmgdifjiapbmaaW.PrintWords Go.Proofs.YtmmgdifjiapbmaaW.PrintLast Go.Proofs.YtmmgdifjiapbmaaW.PrintMore
set_option maxRecDepth 100000 in
set_option maxHeartbeats 4000000 in
theorem mayr_all (n : Nat) : n ≤ 1000 → MayRef n := by
  induction n with
  | zero =>
    intro _ x A c w hC hl
    have e0 : ((0 : Int) == 0) = true := rfl
    show Calls Try.prog 22 #[.agg #[.int .i64 x.f0, .int .i64 x.f1, .string x.f2, .slice A x.f3.length c], .int .i64 0] w fun e w' => e = .returned (.bool false) ∧ Below w.heap.size w w'
    go_enter Try.func22, Try.ntmps22
    go_wp2_with fail
    go_ret
    exact ⟨rfl, by first | exact ((Below.refl _ _).alloc (Nat.le_refl _) _).alloc (by simp) _ | exact (Below.refl _ _).alloc (Nat.le_refl _) _⟩
  | succ n ih => exact fun h => mayr_step n (ih (by omega)) (by omega)
theorem mayr_calls (x : S24) (A : Option Addr) (c : Nat) (w : World) (hC : Kd.C k24 w A x.f3.length x.f3) (hl : x.f3.length ≤ c) :
    Calls Try.prog 22 #[.agg #[.int .i64 x.f0, .int .i64 x.f1, .string x.f2, .slice A x.f3.length c], .int .i64 60] w fun e w' => e = .returned (.bool (mayT 60 x)) ∧ Below w.heap.size w w' :=
  mayr_all 60 (by omega) x A c w hC hl
set_option maxRecDepth 100000 in
set_option maxHeartbeats 8000000 in
theorem CtypeMays_calls (x : S24) (A : Option Addr) (c : Nat)  (w : World) (hCx : Kd.C k24 w A x.f3.length x.f3) (hlx : x.f3.length ≤ c)  :
    Calls Try.prog 9 #[.agg #[.int .i64 x.f0, .int .i64 x.f1, .string x.f2, .slice A x.f3.length c]] w fun e w' => e = .returned (.bool true) ∧ Below w.heap.size w w' := by
  have HCx := Aside0.mk hCx
  have HLx := Aside0.mk hlx
  clear hCx hlx
  go_enter Try.func9, Try.ntmps9
  go_wp2_with fail
  have Gx := Aside0.mk (blk_at_ (W := w) (n := w.heap.size) (Obj.cells #[.int .i64 x.f0, .int .i64 x.f1, .string x.f2, .slice A x.f3.length c] 24) (by simp))
  have GB := Aside0.mk (show Below w.heap.size w (w.alloc (Obj.cells #[.int .i64 x.f0, .int .i64 x.f1, .string x.f2, .slice A x.f3.length c] 24)) from ((Below.refl _ _).alloc (by simp) _))
  generalize (w.alloc (Obj.cells #[.int .i64 x.f0, .int .i64 x.f1, .string x.f2, .slice A x.f3.length c] 24)) = W at Gx GB ⊢
  refine (shown_calls W).mono ?_
  rintro e w1 ⟨rfl, hb1⟩
  have hSx := cell4 (blk_below Gx.out hb1)
  have hSB := below_step GB.out hb1
  have G1x := Aside0.mk (blk_below Gx.out hb1)
  clear Gx GB hb1
  have HQ := Aside0.mk (show ∀ W2 : World, ((W2.cell? ⟨w.heap.size, 0, none⟩ = some (.int .i64 x.f0) ∧ W2.cell? ⟨w.heap.size, 1, none⟩ = some (.int .i64 x.f1) ∧ W2.cell? ⟨w.heap.size, 2, none⟩ = some (.string x.f2) ∧ W2.cell? ⟨w.heap.size, 3, none⟩ = some (.slice A x.f3.length c)) ∧ Below w.heap.size w W2) → Below w.heap.size w W2 from fun _ h => h.2)
  have HK := Aside0.mk (show ∀ W2 W3 : World, Below W2.heap.size W2 W3 → ((W2.cell? ⟨w.heap.size, 0, none⟩ = some (.int .i64 x.f0) ∧ W2.cell? ⟨w.heap.size, 1, none⟩ = some (.int .i64 x.f1) ∧ W2.cell? ⟨w.heap.size, 2, none⟩ = some (.string x.f2) ∧ W2.cell? ⟨w.heap.size, 3, none⟩ = some (.slice A x.f3.length c)) ∧ Below w.heap.size w W2) → ((W3.cell? ⟨w.heap.size, 0, none⟩ = some (.int .i64 x.f0) ∧ W3.cell? ⟨w.heap.size, 1, none⟩ = some (.int .i64 x.f1) ∧ W3.cell? ⟨w.heap.size, 2, none⟩ = some (.string x.f2) ∧ W3.cell? ⟨w.heap.size, 3, none⟩ = some (.slice A x.f3.length c)) ∧ Below w.heap.size w W3) from fun _ _ hb h => ⟨box_step h.1 hb, below_step h.2 hb⟩)
  have hd := sameT_refl (decayT x)
  go_wp2_with fail
  refine wp_region_held_drew (S := fun w' => (w'.cell? ⟨w.heap.size, 0, none⟩ = some (.int .i64 x.f0) ∧ w'.cell? ⟨w.heap.size, 1, none⟩ = some (.int .i64 x.f1) ∧ w'.cell? ⟨w.heap.size, 2, none⟩ = some (.string x.f2) ∧ w'.cell? ⟨w.heap.size, 3, none⟩ = some (.slice A x.f3.length c)) ∧ Below w.heap.size w w') (by kernel_rfl) ⟨hSx, below_drew hSB⟩ (fun hHeld => ?_)
  refine wpAnyH_take (i := 0) (oi := { dst := (some 6), op := (Op.load 24 (Operand.tmp 1)), type := 24, pos := "law.go:23", after := #[], guard := none }) (v := ?_) rfl (by kernel_rfl) (by kernel_rfl) (by kernel_rfl) (fun _ _ _ h => h) (Or.inl ⟨by rfl, ?_⟩) hHeld ?_
  rotate_left
  · intro w hSw; (try dsimp only at hSw); go_simp; try with_reducible rfl
  try simp only [Act.put, List.setIfInBounds_toArray, List.set_cons_zero, List.set_cons_succ]
  refine wpAnyH_take (i := 2) (oi := { dst := (some 8), op := (Op.load 24 (Operand.tmp 1)), type := 24, pos := "law.go:23", after := #[], guard := none }) (v := ?_) rfl (by kernel_rfl) (by kernel_rfl) (by kernel_rfl) (fun _ _ _ h => h) (Or.inl ⟨by rfl, ?_⟩) hHeld ?_
  rotate_left
  · intro w hSw; (try dsimp only at hSw); go_simp; try with_reducible rfl
  try simp only [Act.put, List.setIfInBounds_toArray, List.set_cons_zero, List.set_cons_succ]
  refine wpAnyH_ready (rs := [1]) (by kernel_rfl) (by simp) ?_
  refine AllReadyH.cons (o := { dst := (some 7), op := (Op.call { callee := (Callee.value (Operand.func 19)), args := #[(Operand.tmp 6)], argTypes := #[24] }), type := 24, pos := "law.go:23", after := #[{ on := 0, ground := Ground.data }], guard := none }) rfl (fun K hK => ?_) AllReadyH.nil
  go_simp
  refine (decayC x A c _ (Kd.C_below HCx.out (HQ.out _ hHeld)) HLx.out).mono ?_
  rintro e w2 ⟨A1, c1, rfl, hl1, hC1, hb2⟩
  have HC1 := Aside0.mk hC1
  have HL1 := Aside0.mk hl1
  clear hC1 hl1
  go_wp2_with fail
  refine hK.out _ _ (HK.out _ _ hb2 hHeld) (fun hHeld => ?_)
  clear hK K
  try simp only [Act.put, List.setIfInBounds_toArray, List.set_cons_zero, List.set_cons_succ]
  refine wpAnyH_ready (rs := [3]) (by kernel_rfl) (by simp) ?_
  refine AllReadyH.cons (o := { dst := (some 9), op := (Op.call { callee := (Callee.value (Operand.func 21)), args := #[(Operand.tmp 8)], argTypes := #[24] }), type := 24, pos := "law.go:23", after := #[{ on := 2, ground := Ground.data }, { on := 1, ground := Ground.chain }], guard := none }) rfl (fun K hK => ?_) AllReadyH.nil
  go_simp
  refine (decayCr x A c _ (Kd.C_below HCx.out (HQ.out _ hHeld)) HLx.out).mono ?_
  rintro e w3 ⟨A2, c2, rfl, hl2, hC2, hb2⟩
  replace HC1 := Aside0.mk (Kd.C_below HC1.out hb2)
  have HC2 := Aside0.mk hC2
  have HL2 := Aside0.mk hl2
  clear hC2 hl2
  go_wp2_with fail
  refine hK.out _ _ (HK.out _ _ hb2 hHeld) (fun hHeld => ?_)
  clear hK K
  try simp only [Act.put, List.setIfInBounds_toArray, List.set_cons_zero, List.set_cons_succ]
  refine wpAnyH_ready (rs := [4]) (by kernel_rfl) (by simp) ?_
  refine AllReadyH.cons (o := { dst := (some 10), op := (Op.call { callee := (Callee.value (Operand.func 12)), args := #[(Operand.tmp 7), (Operand.tmp 9)], argTypes := #[24, 24] }), type := 4, pos := "law.go:23", after := #[{ on := 1, ground := Ground.data }, { on := 3, ground := Ground.data }, { on := 3, ground := Ground.chain }], guard := none }) rfl (fun K hK => ?_) AllReadyH.nil
  go_simp
  refine (samer_calls (decayT x) (decayT x) _ _ _ _ _ HC1.out HL1.out HC2.out HL2.out).mono ?_
  rintro e w4 ⟨rfl, hb2⟩
  clear HC1 HC2 HL1 HL2
  go_wp2_with fail
  refine hK.out _ _ (HK.out _ _ hb2 hHeld) (fun hHeld => ?_)
  clear hK K
  try simp only [Act.put, List.setIfInBounds_toArray, List.set_cons_zero, List.set_cons_succ]
  refine wpAnyH_take (i := 5) (oi := { dst := (some 4), op := (Op.assign (Operand.tmp 10)), type := 4, pos := "law.go:23", after := #[{ on := 4, ground := Ground.data }, { on := 4, ground := Ground.chain }, { on := 0, ground := Ground.phase }, { on := 1, ground := Ground.phase }, { on := 2, ground := Ground.phase }, { on := 3, ground := Ground.phase }, { on := 4, ground := Ground.phase }], guard := none }) (v := ?_) rfl (by kernel_rfl) (by kernel_rfl) (by kernel_rfl) (fun _ _ _ h => h) (Or.inl ⟨by rfl, ?_⟩) hHeld ?_
  rotate_left
  · intro w hSw; (try dsimp only at hSw); go_simp; try with_reducible rfl
  try simp only [Act.put, List.setIfInBounds_toArray, List.set_cons_zero, List.set_cons_succ]
  refine wpAnyH_done (by kernel_rfl) ?_ _
  clear hSx hSB
  go_wp2_with fail
  refine wp_region_held_drew (S := fun w' => (w'.cell? ⟨w.heap.size, 0, none⟩ = some (.int .i64 x.f0) ∧ w'.cell? ⟨w.heap.size, 1, none⟩ = some (.int .i64 x.f1) ∧ w'.cell? ⟨w.heap.size, 2, none⟩ = some (.string x.f2) ∧ w'.cell? ⟨w.heap.size, 3, none⟩ = some (.slice A x.f3.length c)) ∧ Below w.heap.size w w') (by kernel_rfl) ⟨hHeld.1, below_drew hHeld.2⟩ (fun hHeld => ?_)
  refine wpAnyH_take (i := 0) (oi := { dst := (some 11), op := (Op.move (Operand.tmp 3)), type := 4, pos := "law.go:24", after := #[], guard := none }) (v := ?_) rfl (by kernel_rfl) (by kernel_rfl) (by kernel_rfl) (fun _ _ _ h => h) (Or.inl ⟨by rfl, ?_⟩) hHeld ?_
  rotate_left
  · intro w hSw; (try dsimp only at hSw); go_simp; try with_reducible rfl
  try simp only [Act.put, List.setIfInBounds_toArray, List.set_cons_zero, List.set_cons_succ]
  refine wpAnyH_take (i := 1) (oi := { dst := (some 12), op := (Op.move (Operand.tmp 11)), type := 4, pos := "law.go:24", after := #[{ on := 0, ground := Ground.data }], guard := none }) (v := ?_) rfl (by kernel_rfl) (by kernel_rfl) (by kernel_rfl) (fun _ _ _ h => h) (Or.inl ⟨by rfl, ?_⟩) hHeld ?_
  rotate_left
  · intro w hSw; (try dsimp only at hSw); go_simp; try with_reducible rfl
  try simp only [Act.put, List.setIfInBounds_toArray, List.set_cons_zero, List.set_cons_succ]
  refine wpAnyH_take (i := 2) (oi := { dst := (some 13), op := (Op.load 24 (Operand.tmp 1)), type := 24, pos := "law.go:24", after := #[{ on := 1, ground := Ground.guard }], guard := (some (1, true)) }) (v := ?_) rfl (by kernel_rfl) (by kernel_rfl) (by kernel_rfl) (fun _ _ _ h => h) (Or.inl ⟨by rfl, ?_⟩) hHeld ?_
  rotate_left
  · intro w hSw; (try dsimp only at hSw); go_simp; try with_reducible rfl
  try simp only [Act.put, List.setIfInBounds_toArray, List.set_cons_zero, List.set_cons_succ]
  refine wpAnyH_take (i := 4) (oi := { dst := (some 15), op := (Op.load 24 (Operand.tmp 1)), type := 24, pos := "law.go:24", after := #[{ on := 1, ground := Ground.guard }], guard := (some (1, true)) }) (v := ?_) rfl (by kernel_rfl) (by kernel_rfl) (by kernel_rfl) (fun _ _ _ h => h) (Or.inl ⟨by rfl, ?_⟩) hHeld ?_
  rotate_left
  · intro w hSw; (try dsimp only at hSw); go_simp; try with_reducible rfl
  try simp only [Act.put, List.setIfInBounds_toArray, List.set_cons_zero, List.set_cons_succ]
  refine wpAnyH_ready (rs := [3]) (by kernel_rfl) (by simp) ?_
  refine AllReadyH.cons (o := { dst := (some 14), op := (Op.call { callee := (Callee.value (Operand.func 20)), args := #[(Operand.tmp 13)], argTypes := #[24] }), type := 4, pos := "law.go:24", after := #[{ on := 2, ground := Ground.data }, { on := 1, ground := Ground.chain }, { on := 1, ground := Ground.guard }], guard := (some (1, true)) }) rfl (fun K hK => ?_) AllReadyH.nil
  go_simp
  refine (may_calls _ _ _ _ (Kd.C_below (by first | exact HCx.out | exact HCy.out | exact HCz.out) (HQ.out _ hHeld)) (by first | exact HLx.out | exact HLy.out | exact HLz.out)).mono ?_
  rintro e w2 ⟨rfl, hb2⟩
  go_wp2_with fail
  refine hK.out _ _ (HK.out _ _ hb2 hHeld) (fun hHeld => ?_)
  clear hK K
  try simp only [Act.put, List.setIfInBounds_toArray, List.set_cons_zero, List.set_cons_succ]
  refine wpAnyH_ready (rs := [5]) (by kernel_rfl) (by simp) ?_
  refine AllReadyH.cons (o := { dst := (some 16), op := (Op.call { callee := (Callee.value (Operand.func 22)), args := #[(Operand.tmp 15), (Operand.const (Value.int IntKind.i64 60))], argTypes := #[24, 3] }), type := 4, pos := "law.go:24", after := #[{ on := 4, ground := Ground.data }, { on := 3, ground := Ground.chain }, { on := 1, ground := Ground.guard }], guard := (some (1, true)) }) rfl (fun K hK => ?_) AllReadyH.nil
  go_simp
  refine (mayr_calls x A c _ (Kd.C_below HCx.out (HQ.out _ hHeld)) HLx.out).mono ?_
  rintro e w2 ⟨rfl, hb2⟩
  go_wp2_with fail
  refine hK.out _ _ (HK.out _ _ hb2 hHeld) (fun hHeld => ?_)
  clear hK K
  try simp only [Act.put, List.setIfInBounds_toArray, List.set_cons_zero, List.set_cons_succ]
  refine wpAnyH_take (i := 6) (oi := { dst := (some 17), op := (Op.binOp BinOp.eql 4 (Operand.tmp 14) (Operand.tmp 16) 4), type := 4, pos := "law.go:24", after := #[{ on := 3, ground := Ground.data }, { on := 5, ground := Ground.data }, { on := 1, ground := Ground.guard }], guard := (some (1, true)) }) (v := ?_) rfl (by kernel_rfl) (by kernel_rfl) (by kernel_rfl) (fun _ _ _ h => h) (Or.inl ⟨by rfl, ?_⟩) hHeld ?_
  rotate_left
  · intro w hSw; (try dsimp only at hSw); go_simp; try with_reducible rfl
  try simp only [Act.put, List.setIfInBounds_toArray, List.set_cons_zero, List.set_cons_succ]
  refine wpAnyH_take (i := 7) (oi := { dst := (some 18), op := (Op.pick (Operand.tmp 12) (Operand.tmp 17) (Operand.const (Value.bool false))), type := 4, pos := "law.go:24", after := #[{ on := 1, ground := Ground.data }, { on := 6, ground := Ground.data }], guard := none }) (v := ?_) rfl (by kernel_rfl) (by kernel_rfl) (by kernel_rfl) (fun _ _ _ h => h) (Or.inl ⟨by rfl, ?_⟩) hHeld ?_
  rotate_left
  · intro w hSw; (try dsimp only at hSw); go_simp; try with_reducible rfl
  try simp only [Act.put, List.setIfInBounds_toArray, List.set_cons_zero, List.set_cons_succ]
  refine wpAnyH_take (i := 8) (oi := { dst := (some 19), op := (Op.move (Operand.tmp 18)), type := 4, pos := "law.go:24", after := #[{ on := 7, ground := Ground.data }, { on := 5, ground := Ground.chain }], guard := none }) (v := ?_) rfl (by kernel_rfl) (by kernel_rfl) (by kernel_rfl) (fun _ _ _ h => h) (Or.inl ⟨by rfl, ?_⟩) hHeld ?_
  rotate_left
  · intro w hSw; (try dsimp only at hSw); go_simp; try with_reducible rfl
  try simp only [Act.put, List.setIfInBounds_toArray, List.set_cons_zero, List.set_cons_succ]
  refine wpAnyH_take (i := 9) (oi := { dst := (some 20), op := (Op.load 24 (Operand.tmp 1)), type := 24, pos := "law.go:24", after := #[{ on := 8, ground := Ground.guard }], guard := (some (8, true)) }) (v := ?_) rfl (by kernel_rfl) (by kernel_rfl) (by kernel_rfl) (fun _ _ _ h => h) (Or.inl ⟨by rfl, ?_⟩) hHeld ?_
  rotate_left
  · intro w hSw; (try dsimp only at hSw); go_simp; try with_reducible rfl
  try simp only [Act.put, List.setIfInBounds_toArray, List.set_cons_zero, List.set_cons_succ]
  refine wpAnyH_take (i := 11) (oi := { dst := (some 22), op := (Op.load 24 (Operand.tmp 1)), type := 24, pos := "law.go:24", after := #[{ on := 8, ground := Ground.guard }], guard := (some (8, true)) }) (v := ?_) rfl (by kernel_rfl) (by kernel_rfl) (by kernel_rfl) (fun _ _ _ h => h) (Or.inl ⟨by rfl, ?_⟩) hHeld ?_
  rotate_left
  · intro w hSw; (try dsimp only at hSw); go_simp; try with_reducible rfl
  try simp only [Act.put, List.setIfInBounds_toArray, List.set_cons_zero, List.set_cons_succ]
  refine wpAnyH_ready (rs := [10]) (by kernel_rfl) (by simp) ?_
  refine AllReadyH.cons (o := { dst := (some 21), op := (Op.call { callee := (Callee.value (Operand.func 16)), args := #[(Operand.tmp 20)], argTypes := #[24] }), type := 4, pos := "law.go:24", after := #[{ on := 9, ground := Ground.data }, { on := 8, ground := Ground.chain }, { on := 8, ground := Ground.guard }], guard := (some (8, true)) }) rfl (fun K hK => ?_) AllReadyH.nil
  go_simp
  refine (number_calls _ _ _ _ _ _ _).mono ?_
  rintro e w2 ⟨rfl, hb2⟩
  go_wp2_with fail
  refine hK.out _ _ (HK.out _ _ hb2 hHeld) (fun hHeld => ?_)
  clear hK K
  try simp only [Act.put, List.setIfInBounds_toArray, List.set_cons_zero, List.set_cons_succ]
  refine wpAnyH_ready (rs := [12]) (by kernel_rfl) (by simp) ?_
  refine AllReadyH.cons (o := { dst := (some 23), op := (Op.call { callee := (Callee.value (Operand.func 23)), args := #[(Operand.tmp 22)], argTypes := #[24] }), type := 4, pos := "law.go:24", after := #[{ on := 11, ground := Ground.data }, { on := 10, ground := Ground.chain }, { on := 8, ground := Ground.guard }], guard := (some (8, true)) }) rfl (fun K hK => ?_) AllReadyH.nil
  go_simp
  refine (number_ref _ _ _ _ _ _ _).mono ?_
  rintro e w2 ⟨rfl, hb2⟩
  go_wp2_with fail
  refine hK.out _ _ (HK.out _ _ hb2 hHeld) (fun hHeld => ?_)
  clear hK K
  try simp only [Act.put, List.setIfInBounds_toArray, List.set_cons_zero, List.set_cons_succ]
  refine wpAnyH_take (i := 13) (oi := { dst := (some 24), op := (Op.binOp BinOp.eql 4 (Operand.tmp 21) (Operand.tmp 23) 4), type := 4, pos := "law.go:24", after := #[{ on := 10, ground := Ground.data }, { on := 12, ground := Ground.data }, { on := 8, ground := Ground.guard }], guard := (some (8, true)) }) (v := ?_) rfl (by kernel_rfl) (by kernel_rfl) (by kernel_rfl) (fun _ _ _ h => h) (Or.inl ⟨by rfl, ?_⟩) hHeld ?_
  rotate_left
  · intro w hSw; (try dsimp only at hSw); go_simp; try with_reducible rfl
  try simp only [Act.put, List.setIfInBounds_toArray, List.set_cons_zero, List.set_cons_succ]
  refine wpAnyH_take (i := 14) (oi := { dst := (some 25), op := (Op.pick (Operand.tmp 19) (Operand.tmp 24) (Operand.const (Value.bool false))), type := 4, pos := "law.go:24", after := #[{ on := 8, ground := Ground.data }, { on := 13, ground := Ground.data }], guard := none }) (v := ?_) rfl (by kernel_rfl) (by kernel_rfl) (by kernel_rfl) (fun _ _ _ h => h) (Or.inl ⟨by rfl, ?_⟩) hHeld ?_
  rotate_left
  · intro w hSw; (try dsimp only at hSw); go_simp; try with_reducible rfl
  try simp only [Act.put, List.setIfInBounds_toArray, List.set_cons_zero, List.set_cons_succ]
  refine wpAnyH_take (i := 15) (oi := { dst := (some 26), op := (Op.move (Operand.tmp 25)), type := 4, pos := "law.go:24", after := #[{ on := 14, ground := Ground.data }, { on := 12, ground := Ground.chain }], guard := none }) (v := ?_) rfl (by kernel_rfl) (by kernel_rfl) (by kernel_rfl) (fun _ _ _ h => h) (Or.inl ⟨by rfl, ?_⟩) hHeld ?_
  rotate_left
  · intro w hSw; (try dsimp only at hSw); go_simp; try with_reducible rfl
  try simp only [Act.put, List.setIfInBounds_toArray, List.set_cons_zero, List.set_cons_succ]
  refine wpAnyH_take (i := 16) (oi := { dst := (some 27), op := (Op.load 24 (Operand.tmp 1)), type := 24, pos := "law.go:24", after := #[{ on := 15, ground := Ground.guard }], guard := (some (15, true)) }) (v := ?_) rfl (by kernel_rfl) (by kernel_rfl) (by kernel_rfl) (fun _ _ _ h => h) (Or.inl ⟨by rfl, ?_⟩) hHeld ?_
  rotate_left
  · intro w hSw; (try dsimp only at hSw); go_simp; try with_reducible rfl
  try simp only [Act.put, List.setIfInBounds_toArray, List.set_cons_zero, List.set_cons_succ]
  refine wpAnyH_take (i := 18) (oi := { dst := (some 29), op := (Op.load 24 (Operand.tmp 1)), type := 24, pos := "law.go:24", after := #[{ on := 15, ground := Ground.guard }], guard := (some (15, true)) }) (v := ?_) rfl (by kernel_rfl) (by kernel_rfl) (by kernel_rfl) (fun _ _ _ h => h) (Or.inl ⟨by rfl, ?_⟩) hHeld ?_
  rotate_left
  · intro w hSw; (try dsimp only at hSw); go_simp; try with_reducible rfl
  try simp only [Act.put, List.setIfInBounds_toArray, List.set_cons_zero, List.set_cons_succ]
  refine wpAnyH_ready (rs := [17]) (by kernel_rfl) (by simp) ?_
  refine AllReadyH.cons (o := { dst := (some 28), op := (Op.call { callee := (Callee.value (Operand.func 17)), args := #[(Operand.tmp 27)], argTypes := #[24] }), type := 4, pos := "law.go:24", after := #[{ on := 16, ground := Ground.data }, { on := 15, ground := Ground.chain }, { on := 15, ground := Ground.guard }], guard := (some (15, true)) }) rfl (fun K hK => ?_) AllReadyH.nil
  go_simp
  refine (scalar_calls _ _ _ _ _ _ _).mono ?_
  rintro e w2 ⟨rfl, hb2⟩
  go_wp2_with fail
  refine hK.out _ _ (HK.out _ _ hb2 hHeld) (fun hHeld => ?_)
  clear hK K
  try simp only [Act.put, List.setIfInBounds_toArray, List.set_cons_zero, List.set_cons_succ]
  refine wpAnyH_ready (rs := [19]) (by kernel_rfl) (by simp) ?_
  refine AllReadyH.cons (o := { dst := (some 30), op := (Op.call { callee := (Callee.value (Operand.func 24)), args := #[(Operand.tmp 29)], argTypes := #[24] }), type := 4, pos := "law.go:24", after := #[{ on := 18, ground := Ground.data }, { on := 17, ground := Ground.chain }, { on := 15, ground := Ground.guard }], guard := (some (15, true)) }) rfl (fun K hK => ?_) AllReadyH.nil
  go_simp
  refine (scalar_ref _ _ _ _ _ _ _).mono ?_
  rintro e w2 ⟨rfl, hb2⟩
  go_wp2_with fail
  refine hK.out _ _ (HK.out _ _ hb2 hHeld) (fun hHeld => ?_)
  clear hK K
  try simp only [Act.put, List.setIfInBounds_toArray, List.set_cons_zero, List.set_cons_succ]
  refine wpAnyH_take (i := 20) (oi := { dst := (some 31), op := (Op.binOp BinOp.eql 4 (Operand.tmp 28) (Operand.tmp 30) 4), type := 4, pos := "law.go:24", after := #[{ on := 17, ground := Ground.data }, { on := 19, ground := Ground.data }, { on := 15, ground := Ground.guard }], guard := (some (15, true)) }) (v := ?_) rfl (by kernel_rfl) (by kernel_rfl) (by kernel_rfl) (fun _ _ _ h => h) (Or.inl ⟨by rfl, ?_⟩) hHeld ?_
  rotate_left
  · intro w hSw; (try dsimp only at hSw); go_simp; try with_reducible rfl
  try simp only [Act.put, List.setIfInBounds_toArray, List.set_cons_zero, List.set_cons_succ]
  refine wpAnyH_take (i := 21) (oi := { dst := (some 32), op := (Op.pick (Operand.tmp 26) (Operand.tmp 31) (Operand.const (Value.bool false))), type := 4, pos := "law.go:24", after := #[{ on := 15, ground := Ground.data }, { on := 20, ground := Ground.data }], guard := none }) (v := ?_) rfl (by kernel_rfl) (by kernel_rfl) (by kernel_rfl) (fun _ _ _ h => h) (Or.inl ⟨by rfl, ?_⟩) hHeld ?_
  rotate_left
  · intro w hSw; (try dsimp only at hSw); go_simp; try with_reducible rfl
  try simp only [Act.put, List.setIfInBounds_toArray, List.set_cons_zero, List.set_cons_succ]
  refine wpAnyH_take (i := 22) (oi := { dst := (some 33), op := (Op.move (Operand.tmp 32)), type := 4, pos := "law.go:24", after := #[{ on := 21, ground := Ground.data }, { on := 19, ground := Ground.chain }], guard := none }) (v := ?_) rfl (by kernel_rfl) (by kernel_rfl) (by kernel_rfl) (fun _ _ _ h => h) (Or.inl ⟨by rfl, ?_⟩) hHeld ?_
  rotate_left
  · intro w hSw; (try dsimp only at hSw); go_simp; try with_reducible rfl
  try simp only [Act.put, List.setIfInBounds_toArray, List.set_cons_zero, List.set_cons_succ]
  refine wpAnyH_take (i := 23) (oi := { dst := (some 34), op := (Op.load 24 (Operand.tmp 1)), type := 24, pos := "law.go:24", after := #[{ on := 22, ground := Ground.guard }], guard := (some (22, true)) }) (v := ?_) rfl (by kernel_rfl) (by kernel_rfl) (by kernel_rfl) (fun _ _ _ h => h) (Or.inl ⟨by rfl, ?_⟩) hHeld ?_
  rotate_left
  · intro w hSw; (try dsimp only at hSw); go_simp; try with_reducible rfl
  try simp only [Act.put, List.setIfInBounds_toArray, List.set_cons_zero, List.set_cons_succ]
  refine wpAnyH_take (i := 25) (oi := { dst := (some 36), op := (Op.load 24 (Operand.tmp 1)), type := 24, pos := "law.go:24", after := #[{ on := 22, ground := Ground.guard }], guard := (some (22, true)) }) (v := ?_) rfl (by kernel_rfl) (by kernel_rfl) (by kernel_rfl) (fun _ _ _ h => h) (Or.inl ⟨by rfl, ?_⟩) hHeld ?_
  rotate_left
  · intro w hSw; (try dsimp only at hSw); go_simp; try with_reducible rfl
  try simp only [Act.put, List.setIfInBounds_toArray, List.set_cons_zero, List.set_cons_succ]
  refine wpAnyH_ready (rs := [24]) (by kernel_rfl) (by simp) ?_
  refine AllReadyH.cons (o := { dst := (some 35), op := (Op.call { callee := (Callee.value (Operand.func 18)), args := #[(Operand.tmp 34)], argTypes := #[24] }), type := 3, pos := "law.go:24", after := #[{ on := 23, ground := Ground.data }, { on := 22, ground := Ground.chain }, { on := 22, ground := Ground.guard }], guard := (some (22, true)) }) rfl (fun K hK => ?_) AllReadyH.nil
  go_simp
  refine (width_calls _ _ _ _ _ _ _).mono ?_
  rintro e w2 ⟨rfl, hb2⟩
  go_wp2_with fail
  refine hK.out _ _ (HK.out _ _ hb2 hHeld) (fun hHeld => ?_)
  clear hK K
  try simp only [Act.put, List.setIfInBounds_toArray, List.set_cons_zero, List.set_cons_succ]
  refine wpAnyH_ready (rs := [26]) (by kernel_rfl) (by simp) ?_
  refine AllReadyH.cons (o := { dst := (some 37), op := (Op.call { callee := (Callee.value (Operand.func 25)), args := #[(Operand.tmp 36)], argTypes := #[24] }), type := 3, pos := "law.go:24", after := #[{ on := 25, ground := Ground.data }, { on := 24, ground := Ground.chain }, { on := 22, ground := Ground.guard }], guard := (some (22, true)) }) rfl (fun K hK => ?_) AllReadyH.nil
  go_simp
  refine (width_ref _ _ _ _ _ _ _).mono ?_
  rintro e w2 ⟨rfl, hb2⟩
  go_wp2_with fail
  refine hK.out _ _ (HK.out _ _ hb2 hHeld) (fun hHeld => ?_)
  clear hK K
  try simp only [Act.put, List.setIfInBounds_toArray, List.set_cons_zero, List.set_cons_succ]
  refine wpAnyH_take (i := 27) (oi := { dst := (some 38), op := (Op.binOp BinOp.eql 3 (Operand.tmp 35) (Operand.tmp 37) 3), type := 4, pos := "law.go:24", after := #[{ on := 24, ground := Ground.data }, { on := 26, ground := Ground.data }, { on := 22, ground := Ground.guard }], guard := (some (22, true)) }) (v := ?_) rfl (by kernel_rfl) (by kernel_rfl) (by kernel_rfl) (fun _ _ _ h => h) (Or.inl ⟨by rfl, ?_⟩) hHeld ?_
  rotate_left
  · intro w hSw; (try dsimp only at hSw); go_simp; try with_reducible rfl
  try simp only [Act.put, List.setIfInBounds_toArray, List.set_cons_zero, List.set_cons_succ]
  refine wpAnyH_take (i := 28) (oi := { dst := (some 39), op := (Op.pick (Operand.tmp 33) (Operand.tmp 38) (Operand.const (Value.bool false))), type := 4, pos := "law.go:24", after := #[{ on := 22, ground := Ground.data }, { on := 27, ground := Ground.data }], guard := none }) (v := ?_) rfl (by kernel_rfl) (by kernel_rfl) (by kernel_rfl) (fun _ _ _ h => h) (Or.inl ⟨by rfl, ?_⟩) hHeld ?_
  rotate_left
  · intro w hSw; (try dsimp only at hSw); go_simp; try with_reducible rfl
  try simp only [Act.put, List.setIfInBounds_toArray, List.set_cons_zero, List.set_cons_succ]
  refine wpAnyH_take (i := 29) (oi := { dst := (some 40), op := (Op.move (Operand.tmp 39)), type := 4, pos := "law.go:24", after := #[{ on := 28, ground := Ground.data }, { on := 26, ground := Ground.chain }], guard := none }) (v := ?_) rfl (by kernel_rfl) (by kernel_rfl) (by kernel_rfl) (fun _ _ _ h => h) (Or.inl ⟨by rfl, ?_⟩) hHeld ?_
  rotate_left
  · intro w hSw; (try dsimp only at hSw); go_simp; try with_reducible rfl
  try simp only [Act.put, List.setIfInBounds_toArray, List.set_cons_zero, List.set_cons_succ]
  refine wpAnyH_take (i := 30) (oi := { dst := (some 41), op := (Op.move (Operand.tmp 4)), type := 4, pos := "law.go:24", after := #[{ on := 29, ground := Ground.guard }], guard := (some (29, true)) }) (v := ?_) rfl (by kernel_rfl) (by kernel_rfl) (by kernel_rfl) (fun _ _ _ h => h) (Or.inl ⟨by rfl, ?_⟩) hHeld ?_
  rotate_left
  · intro w hSw; (try dsimp only at hSw); go_simp; try with_reducible rfl
  try simp only [Act.put, List.setIfInBounds_toArray, List.set_cons_zero, List.set_cons_succ]
  refine wpAnyH_take (i := 31) (oi := { dst := (some 42), op := (Op.pick (Operand.tmp 40) (Operand.tmp 41) (Operand.const (Value.bool false))), type := 4, pos := "law.go:24", after := #[{ on := 29, ground := Ground.data }, { on := 30, ground := Ground.data }], guard := none }) (v := ?_) rfl (by kernel_rfl) (by kernel_rfl) (by kernel_rfl) (fun _ _ _ h => h) (Or.inl ⟨by rfl, ?_⟩) hHeld ?_
  rotate_left
  · intro w hSw; (try dsimp only at hSw); go_simp; try with_reducible rfl
  try simp only [Act.put, List.setIfInBounds_toArray, List.set_cons_zero, List.set_cons_succ]
  refine wpAnyH_take (i := 32) (oi := { dst := (some 2), op := (Op.assign (Operand.tmp 42)), type := 4, pos := "law.go:24", after := #[{ on := 31, ground := Ground.data }, { on := 29, ground := Ground.chain }, { on := 0, ground := Ground.phase }, { on := 1, ground := Ground.phase }, { on := 2, ground := Ground.phase }, { on := 3, ground := Ground.phase }, { on := 4, ground := Ground.phase }, { on := 5, ground := Ground.phase }, { on := 6, ground := Ground.phase }, { on := 7, ground := Ground.phase }, { on := 8, ground := Ground.phase }, { on := 9, ground := Ground.phase }, { on := 10, ground := Ground.phase }, { on := 11, ground := Ground.phase }, { on := 12, ground := Ground.phase }, { on := 13, ground := Ground.phase }, { on := 14, ground := Ground.phase }, { on := 15, ground := Ground.phase }, { on := 16, ground := Ground.phase }, { on := 17, ground := Ground.phase }, { on := 18, ground := Ground.phase }, { on := 19, ground := Ground.phase }, { on := 20, ground := Ground.phase }, { on := 21, ground := Ground.phase }, { on := 22, ground := Ground.phase }, { on := 23, ground := Ground.phase }, { on := 24, ground := Ground.phase }, { on := 25, ground := Ground.phase }, { on := 26, ground := Ground.phase }, { on := 27, ground := Ground.phase }, { on := 28, ground := Ground.phase }, { on := 29, ground := Ground.phase }, { on := 30, ground := Ground.phase }, { on := 31, ground := Ground.phase }], guard := none }) (v := ?_) rfl (by kernel_rfl) (by kernel_rfl) (by kernel_rfl) (fun _ _ _ h => h) (Or.inl ⟨by rfl, ?_⟩) hHeld ?_
  rotate_left
  · intro w hSw; (try dsimp only at hSw); go_simp; try with_reducible rfl
  try simp only [Act.put, List.setIfInBounds_toArray, List.set_cons_zero, List.set_cons_succ]
  refine wpAnyH_done (by kernel_rfl) ?_ _
  go_wp2_with fail
  go_ret
  exact ⟨rfl, HQ.out _ hHeld⟩
end Go.Proofs.Ytmmgdifjiapbmaa.G
