/- Mem.part at a place that may be. The Mem has these blocks. -/
import Derived.Test.YteogfjhmjlelnaaMb
set_option linter.unusedVariables false
set_option linter.unusedSimpArgs false
namespace Go.Proofs.Yteogfjhmjlelnaa.G
open Go.RowKit Go.Proofs.Yteogfjhmjlelnaa.B Go.Proofs.YteogfjhmjlelnaaW.PrintWords Go.Proofs.YteogfjhmjlelnaaW.PrintLast Go.Proofs.YteogfjhmjlelnaaW.PrintMore
set_option maxRecDepth 100000 in
set_option maxHeartbeats 4000000 in
theorem part_ok (p : Vl) (n : Int) (gm g cap : Nat) (bs : List Blk) (b : Blk) (w : World) (hM : IsMem w gm (.slice (some ⟨g, 0, none⟩) bs.length cap) bs) (hp : (decide (0 < p.b) && p.f == 0) = true) (hb : bs[p.b.toNat - 1]? = some b) (hs : b.n ≤ 4096) (ht : b.there = true) (h4 : 0 ≤ n) (h5 : n ≤ 4096) (h6 : 0 ≤ p.n) (h7 : p.n ≤ (b.n : Int) - n) :
    Calls Try.prog 37 #[.pointer (some ⟨gm, 0, none⟩), .agg #[.int .i64 p.n, .int .i64 p.b, .int .i64 p.f], .int .i64 n] w fun e w' => ∃ A, e = .returned (.tuple #[.slice A n.toNat n.toNat, .bool true]) ∧ (0 < n → A = some ⟨b.gb, p.n.toNat * 5, none⟩) ∧ Below w.heap.size w w' := by
  have hp0 : 0 < p.b := by simp at hp; exact hp.1
  have hlt : p.b ≤ bs.length := by have := (List.getElem?_eq_some_iff.1 hb).1; omega
  obtain ⟨g', cap', hv, _, _, _, hf⟩ := hM.form (by omega)
  cases hv
  have hr1 := hf _ _ hb 1 _ rfl
  have hr2 := hf _ _ hb 2 _ rfl
  rw [Nat.mul_comm 3] at hr1 hr2
  have HR1 := Aside0.mk hr1
  have HR2 := Aside0.mk hr2
  have HP0 := Aside0.mk hp0
  have HLT := Aside0.mk hlt
  clear hf hr1 hr2 hb hp0 hlt
  have q4 : decide (n < 0) = false := decide_eq_false (by omega)
  have q5 : decide (4096 < n) = false := decide_eq_false (by omega)
  have q6 : decide (p.n < 0) = false := decide_eq_false (by omega)
  have q7 : decide ((b.n : Int) - n < p.n) = false := decide_eq_false (by omega)
  have hw1 : IntKind.i64.wrap ((b.n : Int) - n) = (b.n : Int) - n := by rw [IntKind.wrap_i64]; omega
  have hB := Aside0.mk (below_alloc (Below.refl w.heap.size w) (.cells #[.int .i64 p.n, .int .i64 p.b, .int .i64 p.f] 23))
  have hX := Aside0.mk (blk_new w (.cells #[.int .i64 p.n, .int .i64 p.b, .int .i64 p.f] 23))
  have HM := Aside0.mk (IsMem.alloc hM (.cells #[.int .i64 p.n, .int .i64 p.b, .int .i64 p.f] 23))
  clear hM
  go_enter Try.func37, Try.ntmps37
  go_upto_region 1 with (fail)
  replace HR1 := Aside0.mk (pw_cell_below (below_alloc (Below.refl w.heap.size w) (.cells #[.int .i64 p.n, .int .i64 p.b, .int .i64 p.f] 23)) HR1.out)
  replace HR2 := Aside0.mk (pw_cell_below (below_alloc (Below.refl w.heap.size w) (.cells #[.int .i64 p.n, .int .i64 p.b, .int .i64 p.f] 23)) HR2.out)
  generalize w.alloc (.cells #[.int .i64 p.n, .int .i64 p.b, .int .i64 p.f] 23) = W at hB hX HM HR1 HR2 ⊢
  have hx := cell3 hX.out
  go_upto_region 2 with (first | (go_at_call 35; refine (find_hit _ gm g cap bs _ HM.out (by have := HP0.out; omega) HLT.out).mono ?_))
  rintro e w1 ⟨rfl, rfl⟩
  have hS : (w1.cell? ⟨w.heap.size, 0, none⟩ = some (.int .i64 p.n) ∧ w1.cell? ⟨w.heap.size, 1, none⟩ = some (.int .i64 p.b) ∧ w1.cell? ⟨w.heap.size, 2, none⟩ = some (.int .i64 p.f) ∧ w1.cell? ⟨g, (p.b.toNat - 1) * 3 + 1, none⟩ = some (.slice (some ⟨b.gb, 0, none⟩) b.n b.n) ∧ w1.cell? ⟨g, (p.b.toNat - 1) * 3 + 2, none⟩ = some (.bool b.there) ∧ Below w.heap.size w w1) := ⟨hx.1, hx.2.1, hx.2.2, HR1.out, HR2.out, hB.out⟩
  clear hx hX hB HM HR1 HR2 HP0 HLT
  have HK := Aside0.mk (show ∀ Wa Wb : World, Below Wa.heap.size Wa Wb → (Wa.cell? ⟨w.heap.size, 0, none⟩ = some (.int .i64 p.n) ∧ Wa.cell? ⟨w.heap.size, 1, none⟩ = some (.int .i64 p.b) ∧ Wa.cell? ⟨w.heap.size, 2, none⟩ = some (.int .i64 p.f) ∧ Wa.cell? ⟨g, (p.b.toNat - 1) * 3 + 1, none⟩ = some (.slice (some ⟨b.gb, 0, none⟩) b.n b.n) ∧ Wa.cell? ⟨g, (p.b.toNat - 1) * 3 + 2, none⟩ = some (.bool b.there) ∧ Below w.heap.size w Wa) → (Wb.cell? ⟨w.heap.size, 0, none⟩ = some (.int .i64 p.n) ∧ Wb.cell? ⟨w.heap.size, 1, none⟩ = some (.int .i64 p.b) ∧ Wb.cell? ⟨w.heap.size, 2, none⟩ = some (.int .i64 p.f) ∧ Wb.cell? ⟨g, (p.b.toNat - 1) * 3 + 1, none⟩ = some (.slice (some ⟨b.gb, 0, none⟩) b.n b.n) ∧ Wb.cell? ⟨g, (p.b.toNat - 1) * 3 + 2, none⟩ = some (.bool b.there) ∧ Below w.heap.size w Wb) from fun _ _ hb h => ⟨pw_cell_below hb h.1, pw_cell_below hb h.2.1, pw_cell_below hb h.2.2.1, pw_cell_below hb h.2.2.2.1, pw_cell_below hb h.2.2.2.2.1, below_step h.2.2.2.2.2 hb⟩)
  have HQ := Aside0.mk (show ∀ Wa : World, (Wa.cell? ⟨w.heap.size, 0, none⟩ = some (.int .i64 p.n) ∧ Wa.cell? ⟨w.heap.size, 1, none⟩ = some (.int .i64 p.b) ∧ Wa.cell? ⟨w.heap.size, 2, none⟩ = some (.int .i64 p.f) ∧ Wa.cell? ⟨g, (p.b.toNat - 1) * 3 + 1, none⟩ = some (.slice (some ⟨b.gb, 0, none⟩) b.n b.n) ∧ Wa.cell? ⟨g, (p.b.toNat - 1) * 3 + 2, none⟩ = some (.bool b.there) ∧ Below w.heap.size w Wa) → Below w.heap.size w Wa from fun _ h => h.2.2.2.2.2)
  go_wp2_with fail
  refine wp_region_held_drew (S := fun w' => w'.cell? ⟨w.heap.size, 0, none⟩ = some (.int .i64 p.n) ∧ w'.cell? ⟨w.heap.size, 1, none⟩ = some (.int .i64 p.b) ∧ w'.cell? ⟨w.heap.size, 2, none⟩ = some (.int .i64 p.f) ∧ w'.cell? ⟨g, (p.b.toNat - 1) * 3 + 1, none⟩ = some (.slice (some ⟨b.gb, 0, none⟩) b.n b.n) ∧ w'.cell? ⟨g, (p.b.toNat - 1) * 3 + 2, none⟩ = some (.bool b.there) ∧ Below w.heap.size w w') (by kernel_rfl) ⟨hS.1, hS.2.1, hS.2.2.1, hS.2.2.2.1, hS.2.2.2.2.1, below_drew hS.2.2.2.2.2⟩ (fun hHeld => ?_)
  refine wpAnyH_take (i := 0) (oi := { dst := (some 13), op := (Op.load 23 (Operand.tmp 4)), type := 23, pos := "mem.go:102", after := #[], guard := none }) (v := ?_) rfl (by kernel_rfl) (by kernel_rfl) (by kernel_rfl) (fun _ _ _ h => h) (Or.inl ⟨by rfl, ?_⟩) hHeld ?_
  rotate_left
  · intro w hSw; (try dsimp only at hSw); go_simp; try with_reducible rfl
  try simp only [Act.put, List.setIfInBounds_toArray, List.set_cons_zero, List.set_cons_succ]
  refine wpAnyH_ready (rs := [1]) (by kernel_rfl) (by simp) ?_
  refine AllReadyH.cons (o := { dst := (some 14), op := (Op.call { callee := (Callee.value (Operand.func 34)), args := #[(Operand.tmp 13)], argTypes := #[23] }), type := 4, pos := "mem.go:102", after := #[{ on := 0, ground := Ground.data }], guard := none }) rfl (fun K hK => ?_) AllReadyH.nil
  go_simp
  refine (pointer_calls p _).mono ?_
  rintro e w2 ⟨rfl, hb2⟩
  go_wp2_with fail
  refine hK.out _ _ (HK.out _ _ hb2 hHeld) (fun hHeld => ?_)
  clear hK K
  try simp only [Act.put, List.setIfInBounds_toArray, List.set_cons_zero, List.set_cons_succ]
  refine wpAnyH_take (i := 2) (oi := { dst := (some 15), op := (Op.unOp UnOp.not 4 (Operand.tmp 14)), type := 4, pos := "mem.go:102", after := #[{ on := 1, ground := Ground.data }], guard := none }) (v := ?_) rfl (by kernel_rfl) (by kernel_rfl) (by kernel_rfl) (fun _ _ _ h => h) (Or.inl ⟨by rfl, ?_⟩) hHeld ?_
  rotate_left
  · intro w hSw; (try dsimp only at hSw); go_simp; try with_reducible rfl
  try simp only [Act.put, List.setIfInBounds_toArray, List.set_cons_zero, List.set_cons_succ]
  refine wpAnyH_take (i := 3) (oi := { dst := (some 16), op := (Op.move (Operand.tmp 15)), type := 4, pos := "mem.go:102", after := #[{ on := 2, ground := Ground.data }, { on := 1, ground := Ground.chain }], guard := none }) (v := ?_) rfl (by kernel_rfl) (by kernel_rfl) (by kernel_rfl) (fun _ _ _ h => h) (Or.inl ⟨by rfl, ?_⟩) hHeld ?_
  rotate_left
  · intro w hSw; (try dsimp only at hSw); go_simp; try with_reducible rfl
  try simp only [Act.put, List.setIfInBounds_toArray, List.set_cons_zero, List.set_cons_succ]
  refine wpAnyH_take (i := 4) (oi := { dst := (some 17), op := (Op.move (Operand.tmp 8)), type := 79, pos := "mem.go:102", after := #[{ on := 3, ground := Ground.guard }], guard := (some (3, false)) }) (v := ?_) rfl (by kernel_rfl) (by kernel_rfl) (by kernel_rfl) (fun _ _ _ h => h) (Or.inl ⟨by rfl, ?_⟩) hHeld ?_
  rotate_left
  · intro w hSw; (try dsimp only at hSw); go_simp; try with_reducible rfl
  try simp only [Act.put, List.setIfInBounds_toArray, List.set_cons_zero, List.set_cons_succ]
  refine wpAnyH_take (i := 5) (oi := { dst := (some 18), op := (Op.binOp BinOp.eql 79 (Operand.tmp 17) (Operand.const (Value.pointer none)) 79), type := 4, pos := "mem.go:102", after := #[{ on := 4, ground := Ground.data }, { on := 3, ground := Ground.guard }], guard := (some (3, false)) }) (v := ?_) rfl (by kernel_rfl) (by kernel_rfl) (by kernel_rfl) (fun _ _ _ h => h) (Or.inl ⟨by rfl, ?_⟩) hHeld ?_
  rotate_left
  · intro w hSw; (try dsimp only at hSw); go_simp; try with_reducible rfl
  try simp only [Act.put, List.setIfInBounds_toArray, List.set_cons_zero, List.set_cons_succ]
  refine wpAnyH_take (i := 6) (oi := { dst := (some 19), op := (Op.pick (Operand.tmp 16) (Operand.const (Value.bool true)) (Operand.tmp 18)), type := 4, pos := "mem.go:102", after := #[{ on := 3, ground := Ground.data }, { on := 5, ground := Ground.data }], guard := none }) (v := ?_) rfl (by kernel_rfl) (by kernel_rfl) (by kernel_rfl) (fun _ _ _ h => h) (Or.inl ⟨by rfl, ?_⟩) hHeld ?_
  rotate_left
  · intro w hSw; (try dsimp only at hSw); go_simp; try with_reducible rfl
  try simp only [Act.put, List.setIfInBounds_toArray, List.set_cons_zero, List.set_cons_succ]
  refine wpAnyH_take (i := 7) (oi := { dst := (some 20), op := (Op.move (Operand.tmp 19)), type := 4, pos := "mem.go:102", after := #[{ on := 6, ground := Ground.data }, { on := 3, ground := Ground.chain }], guard := none }) (v := ?_) rfl (by kernel_rfl) (by kernel_rfl) (by kernel_rfl) (fun _ _ _ h => h) (Or.inl ⟨by rfl, ?_⟩) hHeld ?_
  rotate_left
  · intro w hSw; (try dsimp only at hSw); go_simp; try with_reducible rfl
  try simp only [Act.put, List.setIfInBounds_toArray, List.set_cons_zero, List.set_cons_succ]
  refine wpAnyH_take (i := 8) (oi := { dst := (some 21), op := (Op.move (Operand.tmp 8)), type := 79, pos := "mem.go:102", after := #[{ on := 7, ground := Ground.guard }], guard := (some (7, false)) }) (v := ?_) rfl (by kernel_rfl) (by kernel_rfl) (by kernel_rfl) (fun _ _ _ h => h) (Or.inl ⟨by rfl, ?_⟩) hHeld ?_
  rotate_left
  · intro w hSw; (try dsimp only at hSw); go_simp; try with_reducible rfl
  try simp only [Act.put, List.setIfInBounds_toArray, List.set_cons_zero, List.set_cons_succ]
  refine wpAnyH_take (i := 9) (oi := { dst := (some 22), op := (Op.nilCheck (Operand.tmp 21)), type := 0, pos := "mem.go:102", after := #[{ on := 8, ground := Ground.data }, { on := 7, ground := Ground.guard }], guard := (some (7, false)) }) (v := ?_) rfl (by kernel_rfl) (by kernel_rfl) (by kernel_rfl) (fun _ _ _ h => h) (Or.inl ⟨by rfl, ?_⟩) hHeld ?_
  rotate_left
  · intro w hSw; (try dsimp only at hSw); go_simp; try with_reducible rfl
  try simp only [Act.put, List.setIfInBounds_toArray, List.set_cons_zero, List.set_cons_succ]
  refine wpAnyH_take (i := 10) (oi := { dst := (some 23), op := (Op.fieldAddr 75 (Operand.tmp 22) 2), type := 0, pos := "mem.go:102", after := #[{ on := 9, ground := Ground.data }, { on := 7, ground := Ground.guard }], guard := (some (7, false)) }) (v := ?_) rfl (by kernel_rfl) (by kernel_rfl) (by kernel_rfl) (fun _ _ _ h => h) (Or.inl ⟨by rfl, ?_⟩) hHeld ?_
  rotate_left
  · intro w hSw; (try dsimp only at hSw); go_simp; try with_reducible rfl
  try simp only [Act.put, List.setIfInBounds_toArray, List.set_cons_zero, List.set_cons_succ]
  refine wpAnyH_take (i := 11) (oi := { dst := (some 24), op := (Op.load 4 (Operand.tmp 23)), type := 4, pos := "mem.go:102", after := #[{ on := 10, ground := Ground.data }, { on := 7, ground := Ground.guard }], guard := (some (7, false)) }) (v := ?_) rfl (by kernel_rfl) (by kernel_rfl) (by kernel_rfl) (fun _ _ _ h => h) (Or.inl ⟨by rfl, ?_⟩) hHeld ?_
  rotate_left
  · intro w hSw; (try dsimp only at hSw); go_simp; try with_reducible rfl
  try simp only [Act.put, List.setIfInBounds_toArray, List.set_cons_zero, List.set_cons_succ]
  refine wpAnyH_take (i := 12) (oi := { dst := (some 25), op := (Op.unOp UnOp.not 4 (Operand.tmp 24)), type := 4, pos := "mem.go:102", after := #[{ on := 11, ground := Ground.data }, { on := 7, ground := Ground.guard }], guard := (some (7, false)) }) (v := ?_) rfl (by kernel_rfl) (by kernel_rfl) (by kernel_rfl) (fun _ _ _ h => h) (Or.inl ⟨by rfl, ?_⟩) hHeld ?_
  rotate_left
  · intro w hSw; (try dsimp only at hSw); go_simp; try with_reducible rfl
  try simp only [Act.put, List.setIfInBounds_toArray, List.set_cons_zero, List.set_cons_succ]
  refine wpAnyH_take (i := 13) (oi := { dst := (some 26), op := (Op.pick (Operand.tmp 20) (Operand.const (Value.bool true)) (Operand.tmp 25)), type := 4, pos := "mem.go:102", after := #[{ on := 7, ground := Ground.data }, { on := 12, ground := Ground.data }], guard := none }) (v := ?_) rfl (by kernel_rfl) (by kernel_rfl) (by kernel_rfl) (fun _ _ _ h => h) (Or.inl ⟨by rfl, ?_⟩) hHeld ?_
  rotate_left
  · intro w hSw; (try dsimp only at hSw); go_simp; try with_reducible rfl
  try simp only [Act.put, List.setIfInBounds_toArray, List.set_cons_zero, List.set_cons_succ]
  refine wpAnyH_take (i := 14) (oi := { dst := (some 27), op := (Op.move (Operand.tmp 26)), type := 4, pos := "mem.go:102", after := #[{ on := 13, ground := Ground.data }, { on := 7, ground := Ground.chain }], guard := none }) (v := ?_) rfl (by kernel_rfl) (by kernel_rfl) (by kernel_rfl) (fun _ _ _ h => h) (Or.inl ⟨by rfl, ?_⟩) hHeld ?_
  rotate_left
  · intro w hSw; (try dsimp only at hSw); go_simp; try with_reducible rfl
  try simp only [Act.put, List.setIfInBounds_toArray, List.set_cons_zero, List.set_cons_succ]
  refine wpAnyH_take (i := 15) (oi := { dst := (some 28), op := (Op.move (Operand.tmp 2)), type := 2, pos := "mem.go:102", after := #[{ on := 14, ground := Ground.guard }], guard := (some (14, false)) }) (v := ?_) rfl (by kernel_rfl) (by kernel_rfl) (by kernel_rfl) (fun _ _ _ h => h) (Or.inl ⟨by rfl, ?_⟩) hHeld ?_
  rotate_left
  · intro w hSw; (try dsimp only at hSw); go_simp; try with_reducible rfl
  try simp only [Act.put, List.setIfInBounds_toArray, List.set_cons_zero, List.set_cons_succ]
  refine wpAnyH_take (i := 16) (oi := { dst := (some 29), op := (Op.binOp BinOp.lss 2 (Operand.tmp 28) (Operand.const (Value.int IntKind.i64 0)) 2), type := 4, pos := "mem.go:102", after := #[{ on := 15, ground := Ground.data }, { on := 14, ground := Ground.guard }], guard := (some (14, false)) }) (v := ?_) rfl (by kernel_rfl) (by kernel_rfl) (by kernel_rfl) (fun _ _ _ h => h) (Or.inl ⟨by rfl, ?_⟩) hHeld ?_
  rotate_left
  · intro w hSw; (try dsimp only at hSw); go_simp; try with_reducible rfl
  try simp only [Act.put, List.setIfInBounds_toArray, List.set_cons_zero, List.set_cons_succ]
  refine wpAnyH_take (i := 17) (oi := { dst := (some 30), op := (Op.pick (Operand.tmp 27) (Operand.const (Value.bool true)) (Operand.tmp 29)), type := 4, pos := "mem.go:102", after := #[{ on := 14, ground := Ground.data }, { on := 16, ground := Ground.data }], guard := none }) (v := ?_) rfl (by kernel_rfl) (by kernel_rfl) (by kernel_rfl) (fun _ _ _ h => h) (Or.inl ⟨by rfl, ?_⟩) hHeld ?_
  rotate_left
  · intro w hSw; (try dsimp only at hSw); go_simp; try with_reducible rfl
  try simp only [Act.put, List.setIfInBounds_toArray, List.set_cons_zero, List.set_cons_succ]
  refine wpAnyH_take (i := 18) (oi := { dst := (some 31), op := (Op.move (Operand.tmp 30)), type := 4, pos := "mem.go:102", after := #[{ on := 17, ground := Ground.data }, { on := 14, ground := Ground.chain }], guard := none }) (v := ?_) rfl (by kernel_rfl) (by kernel_rfl) (by kernel_rfl) (fun _ _ _ h => h) (Or.inl ⟨by rfl, ?_⟩) hHeld ?_
  rotate_left
  · intro w hSw; (try dsimp only at hSw); go_simp; try with_reducible rfl
  try simp only [Act.put, List.setIfInBounds_toArray, List.set_cons_zero, List.set_cons_succ]
  refine wpAnyH_take (i := 19) (oi := { dst := (some 32), op := (Op.move (Operand.tmp 2)), type := 2, pos := "mem.go:102", after := #[{ on := 18, ground := Ground.guard }], guard := (some (18, false)) }) (v := ?_) rfl (by kernel_rfl) (by kernel_rfl) (by kernel_rfl) (fun _ _ _ h => h) (Or.inl ⟨by rfl, ?_⟩) hHeld ?_
  rotate_left
  · intro w hSw; (try dsimp only at hSw); go_simp; try with_reducible rfl
  try simp only [Act.put, List.setIfInBounds_toArray, List.set_cons_zero, List.set_cons_succ]
  refine wpAnyH_take (i := 20) (oi := { dst := (some 33), op := (Op.binOp BinOp.gtr 2 (Operand.tmp 32) (Operand.const (Value.int IntKind.i64 4096)) 2), type := 4, pos := "mem.go:102", after := #[{ on := 19, ground := Ground.data }, { on := 18, ground := Ground.guard }], guard := (some (18, false)) }) (v := ?_) rfl (by kernel_rfl) (by kernel_rfl) (by kernel_rfl) (fun _ _ _ h => h) (Or.inl ⟨by rfl, ?_⟩) hHeld ?_
  rotate_left
  · intro w hSw; (try dsimp only at hSw); go_simp; try with_reducible rfl
  try simp only [Act.put, List.setIfInBounds_toArray, List.set_cons_zero, List.set_cons_succ]
  refine wpAnyH_take (i := 21) (oi := { dst := (some 34), op := (Op.pick (Operand.tmp 31) (Operand.const (Value.bool true)) (Operand.tmp 33)), type := 4, pos := "mem.go:102", after := #[{ on := 18, ground := Ground.data }, { on := 20, ground := Ground.data }], guard := none }) (v := ?_) rfl (by kernel_rfl) (by kernel_rfl) (by kernel_rfl) (fun _ _ _ h => h) (Or.inl ⟨by rfl, ?_⟩) hHeld ?_
  rotate_left
  · intro w hSw; (try dsimp only at hSw); go_simp; try with_reducible rfl
  try simp only [Act.put, List.setIfInBounds_toArray, List.set_cons_zero, List.set_cons_succ]
  refine wpAnyH_take (i := 22) (oi := { dst := (some 35), op := (Op.move (Operand.tmp 34)), type := 4, pos := "mem.go:102", after := #[{ on := 21, ground := Ground.data }, { on := 18, ground := Ground.chain }], guard := none }) (v := ?_) rfl (by kernel_rfl) (by kernel_rfl) (by kernel_rfl) (fun _ _ _ h => h) (Or.inl ⟨by rfl, ?_⟩) hHeld ?_
  rotate_left
  · intro w hSw; (try dsimp only at hSw); go_simp; try with_reducible rfl
  try simp only [Act.put, List.setIfInBounds_toArray, List.set_cons_zero, List.set_cons_succ]
  refine wpAnyH_take (i := 23) (oi := { dst := (some 36), op := (Op.fieldAddr 23 (Operand.tmp 4) 0), type := 0, pos := "mem.go:102", after := #[{ on := 22, ground := Ground.guard }], guard := (some (22, false)) }) (v := ?_) rfl (by kernel_rfl) (by kernel_rfl) (by kernel_rfl) (fun _ _ _ h => h) (Or.inl ⟨by rfl, ?_⟩) hHeld ?_
  rotate_left
  · intro w hSw; (try dsimp only at hSw); go_simp; try with_reducible rfl
  try simp only [Act.put, List.setIfInBounds_toArray, List.set_cons_zero, List.set_cons_succ]
  refine wpAnyH_take (i := 24) (oi := { dst := (some 37), op := (Op.load 2 (Operand.tmp 36)), type := 2, pos := "mem.go:102", after := #[{ on := 23, ground := Ground.data }, { on := 22, ground := Ground.guard }], guard := (some (22, false)) }) (v := ?_) rfl (by kernel_rfl) (by kernel_rfl) (by kernel_rfl) (fun _ _ _ h => h) (Or.inl ⟨by rfl, ?_⟩) hHeld ?_
  rotate_left
  · intro w hSw; (try dsimp only at hSw); go_simp; try with_reducible rfl
  try simp only [Act.put, List.setIfInBounds_toArray, List.set_cons_zero, List.set_cons_succ]
  refine wpAnyH_take (i := 25) (oi := { dst := (some 38), op := (Op.binOp BinOp.lss 2 (Operand.tmp 37) (Operand.const (Value.int IntKind.i64 0)) 2), type := 4, pos := "mem.go:102", after := #[{ on := 24, ground := Ground.data }, { on := 22, ground := Ground.guard }], guard := (some (22, false)) }) (v := ?_) rfl (by kernel_rfl) (by kernel_rfl) (by kernel_rfl) (fun _ _ _ h => h) (Or.inl ⟨by rfl, ?_⟩) hHeld ?_
  rotate_left
  · intro w hSw; (try dsimp only at hSw); go_simp; try with_reducible rfl
  try simp only [Act.put, List.setIfInBounds_toArray, List.set_cons_zero, List.set_cons_succ]
  refine wpAnyH_take (i := 26) (oi := { dst := (some 39), op := (Op.pick (Operand.tmp 35) (Operand.const (Value.bool true)) (Operand.tmp 38)), type := 4, pos := "mem.go:102", after := #[{ on := 22, ground := Ground.data }, { on := 25, ground := Ground.data }], guard := none }) (v := ?_) rfl (by kernel_rfl) (by kernel_rfl) (by kernel_rfl) (fun _ _ _ h => h) (Or.inl ⟨by rfl, ?_⟩) hHeld ?_
  rotate_left
  · intro w hSw; (try dsimp only at hSw); go_simp; try with_reducible rfl
  try simp only [Act.put, List.setIfInBounds_toArray, List.set_cons_zero, List.set_cons_succ]
  refine wpAnyH_take (i := 27) (oi := { dst := (some 40), op := (Op.move (Operand.tmp 39)), type := 4, pos := "mem.go:102", after := #[{ on := 26, ground := Ground.data }, { on := 22, ground := Ground.chain }], guard := none }) (v := ?_) rfl (by kernel_rfl) (by kernel_rfl) (by kernel_rfl) (fun _ _ _ h => h) (Or.inl ⟨by rfl, ?_⟩) hHeld ?_
  rotate_left
  · intro w hSw; (try dsimp only at hSw); go_simp; try with_reducible rfl
  try simp only [Act.put, List.setIfInBounds_toArray, List.set_cons_zero, List.set_cons_succ]
  refine wpAnyH_take (i := 28) (oi := { dst := (some 41), op := (Op.fieldAddr 23 (Operand.tmp 4) 0), type := 0, pos := "mem.go:102", after := #[{ on := 27, ground := Ground.guard }], guard := (some (27, false)) }) (v := ?_) rfl (by kernel_rfl) (by kernel_rfl) (by kernel_rfl) (fun _ _ _ h => h) (Or.inl ⟨by rfl, ?_⟩) hHeld ?_
  rotate_left
  · intro w hSw; (try dsimp only at hSw); go_simp; try with_reducible rfl
  try simp only [Act.put, List.setIfInBounds_toArray, List.set_cons_zero, List.set_cons_succ]
  refine wpAnyH_take (i := 29) (oi := { dst := (some 42), op := (Op.load 2 (Operand.tmp 41)), type := 2, pos := "mem.go:102", after := #[{ on := 28, ground := Ground.data }, { on := 27, ground := Ground.guard }], guard := (some (27, false)) }) (v := ?_) rfl (by kernel_rfl) (by kernel_rfl) (by kernel_rfl) (fun _ _ _ h => h) (Or.inl ⟨by rfl, ?_⟩) hHeld ?_
  rotate_left
  · intro w hSw; (try dsimp only at hSw); go_simp; try with_reducible rfl
  try simp only [Act.put, List.setIfInBounds_toArray, List.set_cons_zero, List.set_cons_succ]
  refine wpAnyH_take (i := 30) (oi := { dst := (some 43), op := (Op.move (Operand.tmp 8)), type := 79, pos := "mem.go:102", after := #[{ on := 27, ground := Ground.guard }], guard := (some (27, false)) }) (v := ?_) rfl (by kernel_rfl) (by kernel_rfl) (by kernel_rfl) (fun _ _ _ h => h) (Or.inl ⟨by rfl, ?_⟩) hHeld ?_
  rotate_left
  · intro w hSw; (try dsimp only at hSw); go_simp; try with_reducible rfl
  try simp only [Act.put, List.setIfInBounds_toArray, List.set_cons_zero, List.set_cons_succ]
  refine wpAnyH_take (i := 31) (oi := { dst := (some 44), op := (Op.nilCheck (Operand.tmp 43)), type := 0, pos := "mem.go:102", after := #[{ on := 30, ground := Ground.data }, { on := 27, ground := Ground.guard }], guard := (some (27, false)) }) (v := ?_) rfl (by kernel_rfl) (by kernel_rfl) (by kernel_rfl) (fun _ _ _ h => h) (Or.inl ⟨by rfl, ?_⟩) hHeld ?_
  rotate_left
  · intro w hSw; (try dsimp only at hSw); go_simp; try with_reducible rfl
  try simp only [Act.put, List.setIfInBounds_toArray, List.set_cons_zero, List.set_cons_succ]
  refine wpAnyH_take (i := 32) (oi := { dst := (some 45), op := (Op.fieldAddr 75 (Operand.tmp 44) 1), type := 0, pos := "mem.go:102", after := #[{ on := 31, ground := Ground.data }, { on := 27, ground := Ground.guard }], guard := (some (27, false)) }) (v := ?_) rfl (by kernel_rfl) (by kernel_rfl) (by kernel_rfl) (fun _ _ _ h => h) (Or.inl ⟨by rfl, ?_⟩) hHeld ?_
  rotate_left
  · intro w hSw; (try dsimp only at hSw); go_simp; try with_reducible rfl
  try simp only [Act.put, List.setIfInBounds_toArray, List.set_cons_zero, List.set_cons_succ]
  refine wpAnyH_take (i := 33) (oi := { dst := (some 46), op := (Op.load 38 (Operand.tmp 45)), type := 38, pos := "mem.go:102", after := #[{ on := 32, ground := Ground.data }, { on := 27, ground := Ground.guard }], guard := (some (27, false)) }) (v := ?_) rfl (by kernel_rfl) (by kernel_rfl) (by kernel_rfl) (fun _ _ _ h => h) (Or.inl ⟨by rfl, ?_⟩) hHeld ?_
  rotate_left
  · intro w hSw; (try dsimp only at hSw); go_simp; try with_reducible rfl
  try simp only [Act.put, List.setIfInBounds_toArray, List.set_cons_zero, List.set_cons_succ]
  refine wpAnyH_take (i := 34) (oi := { dst := (some 47), op := (Op.call { callee := (Callee.builtin Builtin.len), args := #[(Operand.tmp 46)], argTypes := #[38] }), type := 3, pos := "mem.go:102", after := #[{ on := 33, ground := Ground.data }, { on := 27, ground := Ground.guard }], guard := (some (27, false)) }) (v := ?_) rfl (by kernel_rfl) (by kernel_rfl) (by kernel_rfl) (fun _ _ _ h => h) (Or.inl ⟨by rfl, ?_⟩) hHeld ?_
  rotate_left
  · intro w hSw; (try dsimp only at hSw); go_simp; try with_reducible rfl
  try simp only [Act.put, List.setIfInBounds_toArray, List.set_cons_zero, List.set_cons_succ]
  refine wpAnyH_take (i := 35) (oi := { dst := (some 48), op := (Op.move (Operand.tmp 2)), type := 2, pos := "mem.go:102", after := #[{ on := 27, ground := Ground.guard }], guard := (some (27, false)) }) (v := ?_) rfl (by kernel_rfl) (by kernel_rfl) (by kernel_rfl) (fun _ _ _ h => h) (Or.inl ⟨by rfl, ?_⟩) hHeld ?_
  rotate_left
  · intro w hSw; (try dsimp only at hSw); go_simp; try with_reducible rfl
  try simp only [Act.put, List.setIfInBounds_toArray, List.set_cons_zero, List.set_cons_succ]
  refine wpAnyH_take (i := 36) (oi := { dst := (some 49), op := (Op.binOp BinOp.sub 2 (Operand.tmp 47) (Operand.tmp 48) 2), type := 2, pos := "mem.go:102", after := #[{ on := 34, ground := Ground.data }, { on := 35, ground := Ground.data }, { on := 27, ground := Ground.guard }], guard := (some (27, false)) }) (v := ?_) rfl (by kernel_rfl) (by kernel_rfl) (by kernel_rfl) (fun _ _ _ h => h) (Or.inl ⟨by rfl, ?_⟩) hHeld ?_
  rotate_left
  · intro w hSw; (try dsimp only at hSw); go_simp; try with_reducible rfl
  try simp only [Act.put, List.setIfInBounds_toArray, List.set_cons_zero, List.set_cons_succ]
  refine wpAnyH_take (i := 37) (oi := { dst := (some 50), op := (Op.binOp BinOp.gtr 2 (Operand.tmp 42) (Operand.tmp 49) 2), type := 4, pos := "mem.go:102", after := #[{ on := 29, ground := Ground.data }, { on := 36, ground := Ground.data }, { on := 27, ground := Ground.guard }], guard := (some (27, false)) }) (v := ?_) rfl (by kernel_rfl) (by kernel_rfl) (by kernel_rfl) (fun _ _ _ h => h) (Or.inl ⟨by rfl, ?_⟩) hHeld ?_
  rotate_left
  · intro w hSw; (try dsimp only at hSw); go_simp; try with_reducible rfl
  try simp only [Act.put, List.setIfInBounds_toArray, List.set_cons_zero, List.set_cons_succ]
  refine wpAnyH_take (i := 38) (oi := { dst := (some 51), op := (Op.pick (Operand.tmp 40) (Operand.const (Value.bool true)) (Operand.tmp 50)), type := 4, pos := "mem.go:102", after := #[{ on := 27, ground := Ground.data }, { on := 37, ground := Ground.data }], guard := none }) (v := ?_) rfl (by kernel_rfl) (by kernel_rfl) (by kernel_rfl) (fun _ _ _ h => h) (Or.inl ⟨by rfl, ?_⟩) hHeld ?_
  rotate_left
  · intro w hSw; (try dsimp only at hSw); go_simp; try with_reducible rfl
  try simp only [Act.put, List.setIfInBounds_toArray, List.set_cons_zero, List.set_cons_succ]
  refine wpAnyH_done (by kernel_rfl) ?_ _
  have hw2 : IntKind.i64.wrap (p.n + n) = p.n + n := by rw [IntKind.wrap_i64]; omega
  go_wp2_with fail
  have b1 : 0 ≤ p.n + n := by omega
  have b2 : p.n + n ≤ (b.n : Int) := by omega
  have b3 : max (p.n + n) 0 = p.n + n := by omega
  have b4 : p.n ≤ p.n + n := by omega
  have b5 : (p.n + n).toNat - p.n.toNat = n.toNat := by omega
  obtain ⟨A, hA⟩ : ∃ A : Option Addr, (if (p.n + n).toNat = p.n.toNat then some (⟨b.gb, 0, none⟩ : Addr) else some ⟨b.gb, p.n.toNat * 5, none⟩) = A := ⟨_, rfl⟩
  have HA := Aside0.mk hA
  clear q4 q5 q6 q7 h5 hw1
  refine wp_region_held_drew (S := fun w' => w'.cell? ⟨w.heap.size, 0, none⟩ = some (.int .i64 p.n) ∧ w'.cell? ⟨w.heap.size, 1, none⟩ = some (.int .i64 p.b) ∧ w'.cell? ⟨w.heap.size, 2, none⟩ = some (.int .i64 p.f) ∧ w'.cell? ⟨g, (p.b.toNat - 1) * 3 + 1, none⟩ = some (.slice (some ⟨b.gb, 0, none⟩) b.n b.n) ∧ w'.cell? ⟨g, (p.b.toNat - 1) * 3 + 2, none⟩ = some (.bool b.there) ∧ Below w.heap.size w w') (by kernel_rfl) ⟨hHeld.1, hHeld.2.1, hHeld.2.2.1, hHeld.2.2.2.1, hHeld.2.2.2.2.1, below_drew hHeld.2.2.2.2.2⟩ (fun hHeld => ?_)
  refine wpAnyH_take (i := 0) (oi := { dst := (some 52), op := (Op.move (Operand.tmp 8)), type := 79, pos := "mem.go:105", after := #[], guard := none }) (v := ?_) rfl (by kernel_rfl) (by kernel_rfl) (by kernel_rfl) (fun _ _ _ h => h) (Or.inl ⟨by rfl, ?_⟩) hHeld ?_
  rotate_left
  · intro w hSw; (try dsimp only at hSw); go_simp; try with_reducible rfl
  try simp only [Act.put, List.setIfInBounds_toArray, List.set_cons_zero, List.set_cons_succ]
  refine wpAnyH_take (i := 1) (oi := { dst := (some 53), op := (Op.nilCheck (Operand.tmp 52)), type := 0, pos := "mem.go:105", after := #[{ on := 0, ground := Ground.data }], guard := none }) (v := ?_) rfl (by kernel_rfl) (by kernel_rfl) (by kernel_rfl) (fun _ _ _ h => h) (Or.inl ⟨by rfl, ?_⟩) hHeld ?_
  rotate_left
  · intro w hSw; (try dsimp only at hSw); go_simp; try with_reducible rfl
  try simp only [Act.put, List.setIfInBounds_toArray, List.set_cons_zero, List.set_cons_succ]
  refine wpAnyH_take (i := 2) (oi := { dst := (some 54), op := (Op.fieldAddr 75 (Operand.tmp 53) 1), type := 0, pos := "mem.go:105", after := #[{ on := 1, ground := Ground.data }], guard := none }) (v := ?_) rfl (by kernel_rfl) (by kernel_rfl) (by kernel_rfl) (fun _ _ _ h => h) (Or.inl ⟨by rfl, ?_⟩) hHeld ?_
  rotate_left
  · intro w hSw; (try dsimp only at hSw); go_simp; try with_reducible rfl
  try simp only [Act.put, List.setIfInBounds_toArray, List.set_cons_zero, List.set_cons_succ]
  refine wpAnyH_take (i := 3) (oi := { dst := (some 55), op := (Op.load 38 (Operand.tmp 54)), type := 38, pos := "mem.go:105", after := #[{ on := 2, ground := Ground.data }], guard := none }) (v := ?_) rfl (by kernel_rfl) (by kernel_rfl) (by kernel_rfl) (fun _ _ _ h => h) (Or.inl ⟨by rfl, ?_⟩) hHeld ?_
  rotate_left
  · intro w hSw; (try dsimp only at hSw); go_simp; try with_reducible rfl
  try simp only [Act.put, List.setIfInBounds_toArray, List.set_cons_zero, List.set_cons_succ]
  refine wpAnyH_take (i := 4) (oi := { dst := (some 56), op := (Op.fieldAddr 23 (Operand.tmp 4) 0), type := 0, pos := "mem.go:105", after := #[], guard := none }) (v := ?_) rfl (by kernel_rfl) (by kernel_rfl) (by kernel_rfl) (fun _ _ _ h => h) (Or.inl ⟨by rfl, ?_⟩) hHeld ?_
  rotate_left
  · intro w hSw; (try dsimp only at hSw); go_simp; try with_reducible rfl
  try simp only [Act.put, List.setIfInBounds_toArray, List.set_cons_zero, List.set_cons_succ]
  refine wpAnyH_take (i := 5) (oi := { dst := (some 57), op := (Op.load 2 (Operand.tmp 56)), type := 2, pos := "mem.go:105", after := #[{ on := 4, ground := Ground.data }], guard := none }) (v := ?_) rfl (by kernel_rfl) (by kernel_rfl) (by kernel_rfl) (fun _ _ _ h => h) (Or.inl ⟨by rfl, ?_⟩) hHeld ?_
  rotate_left
  · intro w hSw; (try dsimp only at hSw); go_simp; try with_reducible rfl
  try simp only [Act.put, List.setIfInBounds_toArray, List.set_cons_zero, List.set_cons_succ]
  refine wpAnyH_take (i := 6) (oi := { dst := (some 58), op := (Op.fieldAddr 23 (Operand.tmp 4) 0), type := 0, pos := "mem.go:105", after := #[], guard := none }) (v := ?_) rfl (by kernel_rfl) (by kernel_rfl) (by kernel_rfl) (fun _ _ _ h => h) (Or.inl ⟨by rfl, ?_⟩) hHeld ?_
  rotate_left
  · intro w hSw; (try dsimp only at hSw); go_simp; try with_reducible rfl
  try simp only [Act.put, List.setIfInBounds_toArray, List.set_cons_zero, List.set_cons_succ]
  refine wpAnyH_take (i := 7) (oi := { dst := (some 59), op := (Op.load 2 (Operand.tmp 58)), type := 2, pos := "mem.go:105", after := #[{ on := 6, ground := Ground.data }], guard := none }) (v := ?_) rfl (by kernel_rfl) (by kernel_rfl) (by kernel_rfl) (fun _ _ _ h => h) (Or.inl ⟨by rfl, ?_⟩) hHeld ?_
  rotate_left
  · intro w hSw; (try dsimp only at hSw); go_simp; try with_reducible rfl
  try simp only [Act.put, List.setIfInBounds_toArray, List.set_cons_zero, List.set_cons_succ]
  refine wpAnyH_take (i := 8) (oi := { dst := (some 60), op := (Op.move (Operand.tmp 2)), type := 2, pos := "mem.go:105", after := #[], guard := none }) (v := ?_) rfl (by kernel_rfl) (by kernel_rfl) (by kernel_rfl) (fun _ _ _ h => h) (Or.inl ⟨by rfl, ?_⟩) hHeld ?_
  rotate_left
  · intro w hSw; (try dsimp only at hSw); go_simp; try with_reducible rfl
  try simp only [Act.put, List.setIfInBounds_toArray, List.set_cons_zero, List.set_cons_succ]
  refine wpAnyH_take (i := 9) (oi := { dst := (some 61), op := (Op.binOp BinOp.add 2 (Operand.tmp 59) (Operand.tmp 60) 2), type := 2, pos := "mem.go:105", after := #[{ on := 7, ground := Ground.data }, { on := 8, ground := Ground.data }], guard := none }) (v := ?_) rfl (by kernel_rfl) (by kernel_rfl) (by kernel_rfl) (fun _ _ _ h => h) (Or.inl ⟨by rfl, ?_⟩) hHeld ?_
  rotate_left
  · intro w hSw; (try dsimp only at hSw); go_simp; try with_reducible rfl
  try simp only [Act.put, List.setIfInBounds_toArray, List.set_cons_zero, List.set_cons_succ]
  refine wpAnyH_take (i := 10) (oi := { dst := (some 62), op := (Op.fieldAddr 23 (Operand.tmp 4) 0), type := 0, pos := "mem.go:105", after := #[], guard := none }) (v := ?_) rfl (by kernel_rfl) (by kernel_rfl) (by kernel_rfl) (fun _ _ _ h => h) (Or.inl ⟨by rfl, ?_⟩) hHeld ?_
  rotate_left
  · intro w hSw; (try dsimp only at hSw); go_simp; try with_reducible rfl
  try simp only [Act.put, List.setIfInBounds_toArray, List.set_cons_zero, List.set_cons_succ]
  refine wpAnyH_take (i := 11) (oi := { dst := (some 63), op := (Op.load 2 (Operand.tmp 62)), type := 2, pos := "mem.go:105", after := #[{ on := 10, ground := Ground.data }], guard := none }) (v := ?_) rfl (by kernel_rfl) (by kernel_rfl) (by kernel_rfl) (fun _ _ _ h => h) (Or.inl ⟨by rfl, ?_⟩) hHeld ?_
  rotate_left
  · intro w hSw; (try dsimp only at hSw); go_simp; try with_reducible rfl
  try simp only [Act.put, List.setIfInBounds_toArray, List.set_cons_zero, List.set_cons_succ]
  refine wpAnyH_take (i := 12) (oi := { dst := (some 64), op := (Op.move (Operand.tmp 2)), type := 2, pos := "mem.go:105", after := #[], guard := none }) (v := ?_) rfl (by kernel_rfl) (by kernel_rfl) (by kernel_rfl) (fun _ _ _ h => h) (Or.inl ⟨by rfl, ?_⟩) hHeld ?_
  rotate_left
  · intro w hSw; (try dsimp only at hSw); go_simp; try with_reducible rfl
  try simp only [Act.put, List.setIfInBounds_toArray, List.set_cons_zero, List.set_cons_succ]
  refine wpAnyH_take (i := 13) (oi := { dst := (some 65), op := (Op.binOp BinOp.add 2 (Operand.tmp 63) (Operand.tmp 64) 2), type := 2, pos := "mem.go:105", after := #[{ on := 11, ground := Ground.data }, { on := 12, ground := Ground.data }], guard := none }) (v := ?_) rfl (by kernel_rfl) (by kernel_rfl) (by kernel_rfl) (fun _ _ _ h => h) (Or.inl ⟨by rfl, ?_⟩) hHeld ?_
  rotate_left
  · intro w hSw; (try dsimp only at hSw); go_simp; try with_reducible rfl
  try simp only [Act.put, List.setIfInBounds_toArray, List.set_cons_zero, List.set_cons_succ]
  refine wpAnyH_take (i := 14) (oi := { dst := (some 66), op := (Op.slice 38 (Operand.tmp 55) (some (Operand.tmp 57)) (some (Operand.tmp 61)) (some (Operand.tmp 65))), type := 38, pos := "mem.go:105", after := #[{ on := 3, ground := Ground.data }, { on := 5, ground := Ground.data }, { on := 9, ground := Ground.data }, { on := 13, ground := Ground.data }], guard := none }) (v := ?_) rfl (by kernel_rfl) (by kernel_rfl) (by kernel_rfl) (fun _ _ _ h => h) (Or.inl ⟨by rfl, ?_⟩) hHeld ?_
  rotate_left
  · intro w hSw; (try dsimp only at hSw); go_simp; try with_reducible rfl
  try simp only [Act.put, List.setIfInBounds_toArray, List.set_cons_zero, List.set_cons_succ]
  refine wpAnyH_take (i := 15) (oi := { dst := (some 6), op := (Op.assign (Operand.tmp 66)), type := 38, pos := "mem.go:105", after := #[{ on := 14, ground := Ground.data }, { on := 0, ground := Ground.phase }, { on := 1, ground := Ground.phase }, { on := 2, ground := Ground.phase }, { on := 3, ground := Ground.phase }, { on := 4, ground := Ground.phase }, { on := 5, ground := Ground.phase }, { on := 6, ground := Ground.phase }, { on := 7, ground := Ground.phase }, { on := 8, ground := Ground.phase }, { on := 9, ground := Ground.phase }, { on := 10, ground := Ground.phase }, { on := 11, ground := Ground.phase }, { on := 12, ground := Ground.phase }, { on := 13, ground := Ground.phase }, { on := 14, ground := Ground.phase }], guard := none }) (v := ?_) rfl (by kernel_rfl) (by kernel_rfl) (by kernel_rfl) (fun _ _ _ h => h) (Or.inl ⟨by rfl, ?_⟩) hHeld ?_
  rotate_left
  · intro w hSw; (try dsimp only at hSw); go_simp; try with_reducible rfl
  try simp only [Act.put, List.setIfInBounds_toArray, List.set_cons_zero, List.set_cons_succ]
  refine wpAnyH_take (i := 16) (oi := { dst := (some 7), op := (Op.assign (Operand.const (Value.bool true))), type := 4, pos := "mem.go:105", after := #[{ on := 15, ground := Ground.chain }, { on := 0, ground := Ground.phase }, { on := 1, ground := Ground.phase }, { on := 2, ground := Ground.phase }, { on := 3, ground := Ground.phase }, { on := 4, ground := Ground.phase }, { on := 5, ground := Ground.phase }, { on := 6, ground := Ground.phase }, { on := 7, ground := Ground.phase }, { on := 8, ground := Ground.phase }, { on := 9, ground := Ground.phase }, { on := 10, ground := Ground.phase }, { on := 11, ground := Ground.phase }, { on := 12, ground := Ground.phase }, { on := 13, ground := Ground.phase }, { on := 14, ground := Ground.phase }, { on := 15, ground := Ground.phase }], guard := none }) (v := ?_) rfl (by kernel_rfl) (by kernel_rfl) (by kernel_rfl) (fun _ _ _ h => h) (Or.inl ⟨by rfl, ?_⟩) hHeld ?_
  rotate_left
  · intro w hSw; (try dsimp only at hSw); go_simp; try with_reducible rfl
  try simp only [Act.put, List.setIfInBounds_toArray, List.set_cons_zero, List.set_cons_succ]
  refine wpAnyH_done (by kernel_rfl) ?_ _
  go_wp2_with fail
  exact bodyPost_ret (v := .tuple #[.slice A n.toNat n.toNat, .bool true]) (by simp [results, Try.results37, go_sem]) rfl ⟨A, rfl, fun h0 => by rw [← HA.out, if_neg (by omega)], HQ.out _ hHeld⟩
end Go.Proofs.Yteogfjhmjlelnaa.G
