/- The law IrReads returns true. The argument reads as an instruction. -/
import Derived.Test.YtmiacdacebaagaaIe
set_option linter.unusedVariables false
set_option linter.unusedSimpArgs false
namespace Go.Proofs.Ytmiacdacebaagaa.G
open Go.RowKit Go.Proofs.Ytmiacdacebaagaa.B Go.Proofs.YtmiacdacebaagaaW.PrintWords Go.Proofs.YtmiacdacebaagaaW.PrintLast Go.Proofs.YtmiacdacebaagaaW.PrintMore
theorem refNext_calls (a0 a1 a2 a3 a4 a5 : Int) (s : ByteArray) (A : Option Addr) (c : Nat) (l : List Int) (pc : Int) (w : World) (hC : Kd.C (Kd.int .i64) w A l.length l) (hc : l.length ≤ c) (r : List Int) (h : ir_Next.f a0 a1 a2 a3 a4 a5 s l pc = some r) :
    Calls Try.prog 10 #[.agg #[.int .i64 a0, .int .i64 a1, .int .i64 a2, .int .i64 a3, .int .i64 a4, .int .i64 a5, .string s, .slice A l.length c], .int .i64 pc] w fun e w' => ∃ A1 c1, e = .returned (.slice A1 r.length c1) ∧ r.length ≤ c1 ∧ Kd.C (Kd.int .i64) w' A1 r.length r ∧ Below w.heap.size w w' :=
  (crosstreeref08_Next.calls a0 a1 a2 a3 a4 a5 s A c l pc r w hC hc h).mono fun _ _ ⟨v, h1, h2, h3⟩ => by
    obtain ⟨A1, c1, rfl, h4, h5⟩ := Kd.R_reads h2
    exact ⟨A1, c1, h1, h4, h5, h3⟩
theorem refReadsC (a0 a1 a2 a3 a4 a5 : Int) (s : ByteArray) (A : Option Addr) (c : Nat) (l : List Int) (w : World) (hC : Kd.C (Kd.int .i64) w A l.length l) (hc : l.length ≤ c) (hl : l.length * 8 ≤ 140737488351232) (r : List Int) (hr : readsS a1 a2 a3 l (rowS a0).data.toList = r) :
    Calls Try.prog 8 #[.agg #[.int .i64 a0, .int .i64 a1, .int .i64 a2, .int .i64 a3, .int .i64 a4, .int .i64 a5, .string s, .slice A l.length c]] w fun e w' => ∃ A1 c1, e = .returned (.slice A1 r.length c1) ∧ r.length ≤ c1 ∧ Kd.C (Kd.int .i64) w' A1 r.length r ∧ Below w.heap.size w w' :=
  (crosstreeref08_Reads.calls 6 a0 a1 a2 a3 a4 a5 s A c l r w hC hc (by rw [refReads_ok _ _ _ _ _ _ _ _ hl, hr])).mono fun _ _ ⟨v, h1, h2, h3⟩ => by
    obtain ⟨A1, c1, rfl, h4, h5⟩ := Kd.R_reads h2
    exact ⟨A1, c1, h1, h4, h5, h3⟩
theorem next_some (a0 a1 a2 a3 a4 a5 : Int) (s : ByteArray) (l : List Int) (pc : Int) : ∃ r, ir_Next.f a0 a1 a2 a3 a4 a5 s l pc = some r := by
  unfold ir_Next.f
  repeat' split
  all_goals exact ⟨_, rfl⟩
def wrV (a0 a1 : Int) : Int := if wr a0 = true then a1 else -1
theorem wrV_calls (a0 a1 a2 a3 a4 a5 : Int) (s : ByteArray) (A : Option Addr) (n c : Nat) (w : World) :
    Calls Try.prog 11 #[.agg #[.int .i64 a0, .int .i64 a1, .int .i64 a2, .int .i64 a3, .int .i64 a4, .int .i64 a5, .string s, .slice A n c]] w fun e w' => e = .returned (.int .i64 (wrV a0 a1)) ∧ Below w.heap.size w w' := writes_calls a0 a1 a2 a3 a4 a5 s A n c w
set_option maxRecDepth 100000 in
set_option maxHeartbeats 8000000 in
theorem IrReads_calls (a0 a1 a2 a3 a4 a5 : Int) (s : ByteArray) (A : Option Addr) (c : Nat) (l : List Int) (pc : Int) (w : World) (hC : Kd.C (Kd.int .i64) w A l.length l) (hl : l.length ≤ c) (hm : l.length * 8 ≤ 140737488351232) :
    Calls Try.prog 3 #[.agg #[.int .i64 a0, .int .i64 a1, .int .i64 a2, .int .i64 a3, .int .i64 a4, .int .i64 a5, .string s, .slice A l.length c], .int .i64 pc] w fun e w' => e = .returned (.bool true) ∧ Below w.heap.size w w' := by
  obtain ⟨r, hr⟩ := next_some a0 a1 a2 a3 a4 a5 s l pc
  have HN := Aside0.mk hr
  clear hr
  have HC := Aside0.mk hC
  have HL := Aside0.mk hl
  have HM := Aside0.mk hm
  clear hC hl hm
  go_enter Try.func3, Try.ntmps3
  have HX := Aside0.mk (blk_new w (.cells #[.int .i64 a0, .int .i64 a1, .int .i64 a2, .int .i64 a3, .int .i64 a4, .int .i64 a5, .string s, .slice A l.length c] 24))
  have HB := Aside0.mk (below_alloc (Below.refl w.heap.size w) (.cells #[.int .i64 a0, .int .i64 a1, .int .i64 a2, .int .i64 a3, .int .i64 a4, .int .i64 a5, .string s, .slice A l.length c] 24))
  go_upto_region 1 with (fail)
  generalize w.alloc (.cells #[.int .i64 a0, .int .i64 a1, .int .i64 a2, .int .i64 a3, .int .i64 a4, .int .i64 a5, .string s, .slice A l.length c] 24) = W at HX HB ⊢
  go_upto_region 2 with (first | (go_at_call 5; refine (shown_calls _).mono ?_; rintro e w1 ⟨rfl, hb1⟩))
  have hx := cell8 (blk_below HX.out hb1)
  have hB := below_step HB.out hb1
  clear HX HB hb1
  have HK := Aside0.mk (show ∀ Wa Wb : World, Below Wa.heap.size Wa Wb → ((Wa.cell? ⟨w.heap.size, 0, none⟩ = some (.int .i64 a0) ∧ Wa.cell? ⟨w.heap.size, 1, none⟩ = some (.int .i64 a1) ∧ Wa.cell? ⟨w.heap.size, 2, none⟩ = some (.int .i64 a2) ∧ Wa.cell? ⟨w.heap.size, 3, none⟩ = some (.int .i64 a3) ∧ Wa.cell? ⟨w.heap.size, 4, none⟩ = some (.int .i64 a4) ∧ Wa.cell? ⟨w.heap.size, 5, none⟩ = some (.int .i64 a5) ∧ Wa.cell? ⟨w.heap.size, 6, none⟩ = some (.string s) ∧ Wa.cell? ⟨w.heap.size, 7, none⟩ = some (.slice A l.length c)) ∧ Below w.heap.size w Wa) → ((Wb.cell? ⟨w.heap.size, 0, none⟩ = some (.int .i64 a0) ∧ Wb.cell? ⟨w.heap.size, 1, none⟩ = some (.int .i64 a1) ∧ Wb.cell? ⟨w.heap.size, 2, none⟩ = some (.int .i64 a2) ∧ Wb.cell? ⟨w.heap.size, 3, none⟩ = some (.int .i64 a3) ∧ Wb.cell? ⟨w.heap.size, 4, none⟩ = some (.int .i64 a4) ∧ Wb.cell? ⟨w.heap.size, 5, none⟩ = some (.int .i64 a5) ∧ Wb.cell? ⟨w.heap.size, 6, none⟩ = some (.string s) ∧ Wb.cell? ⟨w.heap.size, 7, none⟩ = some (.slice A l.length c)) ∧ Below w.heap.size w Wb) from fun _ _ hb h => ⟨box8_step h.1 hb, below_step h.2 hb⟩)
  have HQ := Aside0.mk (show ∀ Wa : World, ((Wa.cell? ⟨w.heap.size, 0, none⟩ = some (.int .i64 a0) ∧ Wa.cell? ⟨w.heap.size, 1, none⟩ = some (.int .i64 a1) ∧ Wa.cell? ⟨w.heap.size, 2, none⟩ = some (.int .i64 a2) ∧ Wa.cell? ⟨w.heap.size, 3, none⟩ = some (.int .i64 a3) ∧ Wa.cell? ⟨w.heap.size, 4, none⟩ = some (.int .i64 a4) ∧ Wa.cell? ⟨w.heap.size, 5, none⟩ = some (.int .i64 a5) ∧ Wa.cell? ⟨w.heap.size, 6, none⟩ = some (.string s) ∧ Wa.cell? ⟨w.heap.size, 7, none⟩ = some (.slice A l.length c)) ∧ Below w.heap.size w Wa) → Below w.heap.size w Wa from fun _ h => h.2)
  refine wp_region_held_drew (S := fun w' => (w'.cell? ⟨w.heap.size, 0, none⟩ = some (.int .i64 a0) ∧ w'.cell? ⟨w.heap.size, 1, none⟩ = some (.int .i64 a1) ∧ w'.cell? ⟨w.heap.size, 2, none⟩ = some (.int .i64 a2) ∧ w'.cell? ⟨w.heap.size, 3, none⟩ = some (.int .i64 a3) ∧ w'.cell? ⟨w.heap.size, 4, none⟩ = some (.int .i64 a4) ∧ w'.cell? ⟨w.heap.size, 5, none⟩ = some (.int .i64 a5) ∧ w'.cell? ⟨w.heap.size, 6, none⟩ = some (.string s) ∧ w'.cell? ⟨w.heap.size, 7, none⟩ = some (.slice A l.length c)) ∧ Below w.heap.size w w') (by kernel_rfl) ⟨hx, below_drew hB⟩ (fun hHeld => ?_)
  refine wpAnyH_take (i := 0) (oi := { dst := (some 9), op := (Op.load 24 (Operand.tmp 2)), type := 24, pos := "law.go:20", after := #[], guard := none }) (v := ?_) rfl (by kernel_rfl) (by kernel_rfl) (by kernel_rfl) (fun _ _ _ h => h) (Or.inl ⟨by rfl, ?_⟩) hHeld ?_
  rotate_left
  · intro w hSw; (try dsimp only at hSw); go_simp; try with_reducible rfl
  try simp only [Act.put, List.setIfInBounds_toArray, List.set_cons_zero, List.set_cons_succ]
  refine wpAnyH_take (i := 2) (oi := { dst := (some 11), op := (Op.load 24 (Operand.tmp 2)), type := 24, pos := "law.go:20", after := #[], guard := none }) (v := ?_) rfl (by kernel_rfl) (by kernel_rfl) (by kernel_rfl) (fun _ _ _ h => h) (Or.inl ⟨by rfl, ?_⟩) hHeld ?_
  rotate_left
  · intro w hSw; (try dsimp only at hSw); go_simp; try with_reducible rfl
  try simp only [Act.put, List.setIfInBounds_toArray, List.set_cons_zero, List.set_cons_succ]
  refine wpAnyH_ready (rs := [1]) (by kernel_rfl) (by simp) ?_
  refine AllReadyH.cons (o := { dst := (some 10), op := (Op.call { callee := (Callee.value (Operand.func 7)), args := #[(Operand.tmp 9)], argTypes := #[24] }), type := 22, pos := "law.go:20", after := #[{ on := 0, ground := Ground.data }], guard := none }) rfl (fun K hK => ?_) AllReadyH.nil
  go_simp
  refine (readsC a0 a1 a2 a3 a4 a5 s A c l _ (Kd.C_below HC.out (HQ.out _ hHeld)) HM.out _ rfl).mono ?_
  rintro e w2 ⟨A1, c1, rfl, hc1, hC1, hb2⟩
  have HC1 := Aside0.mk hC1
  have HL1 := Aside0.mk hc1
  clear hC1 hc1
  go_wp2_with fail
  refine hK.out _ _ (HK.out _ _ hb2 hHeld) (fun hHeld => ?_)
  clear hK K
  try simp only [Act.put, List.setIfInBounds_toArray, List.set_cons_zero, List.set_cons_succ]
  refine wpAnyH_ready (rs := [3]) (by kernel_rfl) (by simp) ?_
  refine AllReadyH.cons (o := { dst := (some 12), op := (Op.call { callee := (Callee.value (Operand.func 8)), args := #[(Operand.tmp 11)], argTypes := #[24] }), type := 22, pos := "law.go:20", after := #[{ on := 2, ground := Ground.data }, { on := 1, ground := Ground.chain }], guard := none }) rfl (fun K hK => ?_) AllReadyH.nil
  go_simp
  refine (refReadsC a0 a1 a2 a3 a4 a5 s A c l _ (Kd.C_below HC.out (HQ.out _ hHeld)) HL.out HM.out _ rfl).mono ?_
  rintro e w3 ⟨A2, c2, rfl, hc2, hC2, hb2⟩
  replace HC1 := Aside0.mk (Kd.C_below HC1.out hb2)
  have HC2 := Aside0.mk hC2
  have HL2 := Aside0.mk hc2
  clear hC2 hc2
  go_wp2_with fail
  refine hK.out _ _ (HK.out _ _ hb2 hHeld) (fun hHeld => ?_)
  clear hK K
  try simp only [Act.put, List.setIfInBounds_toArray, List.set_cons_zero, List.set_cons_succ]
  refine wpAnyH_ready (rs := [4]) (by kernel_rfl) (by simp) ?_
  refine AllReadyH.cons (o := { dst := (some 13), op := (Op.call { callee := (Callee.value (Operand.func 6)), args := #[(Operand.tmp 10), (Operand.tmp 12)], argTypes := #[22, 22] }), type := 4, pos := "law.go:20", after := #[{ on := 1, ground := Ground.data }, { on := 3, ground := Ground.data }, { on := 3, ground := Ground.chain }], guard := none }) rfl (fun K hK => ?_) AllReadyH.nil
  go_simp
  refine (ints_calls _ _ _ _ _ _ HC1.out HL1.out HC2.out HL2.out).mono ?_
  rintro e w4 ⟨rfl, hb2⟩
  clear HC1 HC2 HL1 HL2
  go_wp2_with fail
  refine hK.out _ _ (HK.out _ _ hb2 hHeld) (fun hHeld => ?_)
  clear hK K
  try simp only [Act.put, List.setIfInBounds_toArray, List.set_cons_zero, List.set_cons_succ]
  refine wpAnyH_take (i := 5) (oi := { dst := (some 6), op := (Op.assign (Operand.tmp 13)), type := 4, pos := "law.go:20", after := #[{ on := 4, ground := Ground.data }, { on := 4, ground := Ground.chain }, { on := 0, ground := Ground.phase }, { on := 1, ground := Ground.phase }, { on := 2, ground := Ground.phase }, { on := 3, ground := Ground.phase }, { on := 4, ground := Ground.phase }], guard := none }) (v := ?_) rfl (by kernel_rfl) (by kernel_rfl) (by kernel_rfl) (fun _ _ _ h => h) (Or.inl ⟨by rfl, ?_⟩) hHeld ?_
  rotate_left
  · intro w hSw; (try dsimp only at hSw); go_simp; try with_reducible rfl
  try simp only [Act.put, List.setIfInBounds_toArray, List.set_cons_zero, List.set_cons_succ]
  refine wpAnyH_done (by kernel_rfl) ?_ _
  clear hx hB
  go_upto_region 3 with (fail)
  refine wp_region_held_drew (S := fun w' => (w'.cell? ⟨w.heap.size, 0, none⟩ = some (.int .i64 a0) ∧ w'.cell? ⟨w.heap.size, 1, none⟩ = some (.int .i64 a1) ∧ w'.cell? ⟨w.heap.size, 2, none⟩ = some (.int .i64 a2) ∧ w'.cell? ⟨w.heap.size, 3, none⟩ = some (.int .i64 a3) ∧ w'.cell? ⟨w.heap.size, 4, none⟩ = some (.int .i64 a4) ∧ w'.cell? ⟨w.heap.size, 5, none⟩ = some (.int .i64 a5) ∧ w'.cell? ⟨w.heap.size, 6, none⟩ = some (.string s) ∧ w'.cell? ⟨w.heap.size, 7, none⟩ = some (.slice A l.length c)) ∧ Below w.heap.size w w') (by kernel_rfl) ⟨hHeld.1, below_drew hHeld.2⟩ (fun hHeld => ?_)
  refine wpAnyH_take (i := 0) (oi := { dst := (some 14), op := (Op.load 24 (Operand.tmp 2)), type := 24, pos := "law.go:21", after := #[], guard := none }) (v := ?_) rfl (by kernel_rfl) (by kernel_rfl) (by kernel_rfl) (fun _ _ _ h => h) (Or.inl ⟨by rfl, ?_⟩) hHeld ?_
  rotate_left
  · intro w hSw; (try dsimp only at hSw); go_simp; try with_reducible rfl
  try simp only [Act.put, List.setIfInBounds_toArray, List.set_cons_zero, List.set_cons_succ]
  refine wpAnyH_take (i := 1) (oi := { dst := (some 15), op := (Op.move (Operand.tmp 1)), type := 3, pos := "law.go:21", after := #[], guard := none }) (v := ?_) rfl (by kernel_rfl) (by kernel_rfl) (by kernel_rfl) (fun _ _ _ h => h) (Or.inl ⟨by rfl, ?_⟩) hHeld ?_
  rotate_left
  · intro w hSw; (try dsimp only at hSw); go_simp; try with_reducible rfl
  try simp only [Act.put, List.setIfInBounds_toArray, List.set_cons_zero, List.set_cons_succ]
  refine wpAnyH_take (i := 3) (oi := { dst := (some 17), op := (Op.load 24 (Operand.tmp 2)), type := 24, pos := "law.go:21", after := #[], guard := none }) (v := ?_) rfl (by kernel_rfl) (by kernel_rfl) (by kernel_rfl) (fun _ _ _ h => h) (Or.inl ⟨by rfl, ?_⟩) hHeld ?_
  rotate_left
  · intro w hSw; (try dsimp only at hSw); go_simp; try with_reducible rfl
  try simp only [Act.put, List.setIfInBounds_toArray, List.set_cons_zero, List.set_cons_succ]
  refine wpAnyH_take (i := 4) (oi := { dst := (some 18), op := (Op.move (Operand.tmp 1)), type := 3, pos := "law.go:21", after := #[], guard := none }) (v := ?_) rfl (by kernel_rfl) (by kernel_rfl) (by kernel_rfl) (fun _ _ _ h => h) (Or.inl ⟨by rfl, ?_⟩) hHeld ?_
  rotate_left
  · intro w hSw; (try dsimp only at hSw); go_simp; try with_reducible rfl
  try simp only [Act.put, List.setIfInBounds_toArray, List.set_cons_zero, List.set_cons_succ]
  refine wpAnyH_ready (rs := [2]) (by kernel_rfl) (by simp) ?_
  refine AllReadyH.cons (o := { dst := (some 16), op := (Op.call { callee := (Callee.value (Operand.func 9)), args := #[(Operand.tmp 14), (Operand.tmp 15)], argTypes := #[24, 3] }), type := 22, pos := "law.go:21", after := #[{ on := 0, ground := Ground.data }, { on := 1, ground := Ground.data }], guard := none }) rfl (fun K hK => ?_) AllReadyH.nil
  go_simp
  refine (next_calls a0 a1 a2 a3 a4 a5 s A c l pc _ (Kd.C_below HC.out (HQ.out _ hHeld)) HL.out r HN.out).mono ?_
  rintro e w2 ⟨A1, c1, rfl, hc1, hC1, hb2⟩
  have HC1 := Aside0.mk hC1
  have HL1 := Aside0.mk hc1
  clear hC1 hc1
  go_wp2_with fail
  refine hK.out _ _ (HK.out _ _ hb2 hHeld) (fun hHeld => ?_)
  clear hK K
  try simp only [Act.put, List.setIfInBounds_toArray, List.set_cons_zero, List.set_cons_succ]
  refine wpAnyH_ready (rs := [5]) (by kernel_rfl) (by simp) ?_
  refine AllReadyH.cons (o := { dst := (some 19), op := (Op.call { callee := (Callee.value (Operand.func 10)), args := #[(Operand.tmp 17), (Operand.tmp 18)], argTypes := #[24, 3] }), type := 22, pos := "law.go:21", after := #[{ on := 3, ground := Ground.data }, { on := 4, ground := Ground.data }, { on := 2, ground := Ground.chain }], guard := none }) rfl (fun K hK => ?_) AllReadyH.nil
  go_simp
  refine (refNext_calls a0 a1 a2 a3 a4 a5 s A c l pc _ (Kd.C_below HC.out (HQ.out _ hHeld)) HL.out r HN.out).mono ?_
  rintro e w3 ⟨A2, c2, rfl, hc2, hC2, hb2⟩
  replace HC1 := Aside0.mk (Kd.C_below HC1.out hb2)
  have HC2 := Aside0.mk hC2
  have HL2 := Aside0.mk hc2
  clear hC2 hc2
  go_wp2_with fail
  refine hK.out _ _ (HK.out _ _ hb2 hHeld) (fun hHeld => ?_)
  clear hK K
  try simp only [Act.put, List.setIfInBounds_toArray, List.set_cons_zero, List.set_cons_succ]
  refine wpAnyH_ready (rs := [6]) (by kernel_rfl) (by simp) ?_
  refine AllReadyH.cons (o := { dst := (some 20), op := (Op.call { callee := (Callee.value (Operand.func 6)), args := #[(Operand.tmp 16), (Operand.tmp 19)], argTypes := #[22, 22] }), type := 4, pos := "law.go:21", after := #[{ on := 2, ground := Ground.data }, { on := 5, ground := Ground.data }, { on := 5, ground := Ground.chain }], guard := none }) rfl (fun K hK => ?_) AllReadyH.nil
  go_simp
  refine (ints_calls _ _ _ _ _ _ HC1.out HL1.out HC2.out HL2.out).mono ?_
  rintro e w4 ⟨rfl, hb2⟩
  clear HC1 HC2 HL1 HL2
  go_wp2_with fail
  refine hK.out _ _ (HK.out _ _ hb2 hHeld) (fun hHeld => ?_)
  clear hK K
  try simp only [Act.put, List.setIfInBounds_toArray, List.set_cons_zero, List.set_cons_succ]
  refine wpAnyH_take (i := 7) (oi := { dst := (some 7), op := (Op.assign (Operand.tmp 20)), type := 4, pos := "law.go:21", after := #[{ on := 6, ground := Ground.data }, { on := 6, ground := Ground.chain }, { on := 0, ground := Ground.phase }, { on := 1, ground := Ground.phase }, { on := 2, ground := Ground.phase }, { on := 3, ground := Ground.phase }, { on := 4, ground := Ground.phase }, { on := 5, ground := Ground.phase }, { on := 6, ground := Ground.phase }], guard := none }) (v := ?_) rfl (by kernel_rfl) (by kernel_rfl) (by kernel_rfl) (fun _ _ _ h => h) (Or.inl ⟨by rfl, ?_⟩) hHeld ?_
  rotate_left
  · intro w hSw; (try dsimp only at hSw); go_simp; try with_reducible rfl
  try simp only [Act.put, List.setIfInBounds_toArray, List.set_cons_zero, List.set_cons_succ]
  refine wpAnyH_done (by kernel_rfl) ?_ _
  go_upto_region 4 with (fail)
  refine wp_region_held_drew (S := fun w' => (w'.cell? ⟨w.heap.size, 0, none⟩ = some (.int .i64 a0) ∧ w'.cell? ⟨w.heap.size, 1, none⟩ = some (.int .i64 a1) ∧ w'.cell? ⟨w.heap.size, 2, none⟩ = some (.int .i64 a2) ∧ w'.cell? ⟨w.heap.size, 3, none⟩ = some (.int .i64 a3) ∧ w'.cell? ⟨w.heap.size, 4, none⟩ = some (.int .i64 a4) ∧ w'.cell? ⟨w.heap.size, 5, none⟩ = some (.int .i64 a5) ∧ w'.cell? ⟨w.heap.size, 6, none⟩ = some (.string s) ∧ w'.cell? ⟨w.heap.size, 7, none⟩ = some (.slice A l.length c)) ∧ Below w.heap.size w w') (by kernel_rfl) ⟨hHeld.1, below_drew hHeld.2⟩ (fun hHeld => ?_)
  refine wpAnyH_take (i := 0) (oi := { dst := (some 21), op := (Op.move (Operand.tmp 5)), type := 4, pos := "law.go:22", after := #[], guard := none }) (v := ?_) rfl (by kernel_rfl) (by kernel_rfl) (by kernel_rfl) (fun _ _ _ h => h) (Or.inl ⟨by rfl, ?_⟩) hHeld ?_
  rotate_left
  · intro w hSw; (try dsimp only at hSw); go_simp; try with_reducible rfl
  try simp only [Act.put, List.setIfInBounds_toArray, List.set_cons_zero, List.set_cons_succ]
  refine wpAnyH_take (i := 1) (oi := { dst := (some 22), op := (Op.move (Operand.tmp 21)), type := 4, pos := "law.go:22", after := #[{ on := 0, ground := Ground.data }], guard := none }) (v := ?_) rfl (by kernel_rfl) (by kernel_rfl) (by kernel_rfl) (fun _ _ _ h => h) (Or.inl ⟨by rfl, ?_⟩) hHeld ?_
  rotate_left
  · intro w hSw; (try dsimp only at hSw); go_simp; try with_reducible rfl
  try simp only [Act.put, List.setIfInBounds_toArray, List.set_cons_zero, List.set_cons_succ]
  refine wpAnyH_take (i := 2) (oi := { dst := (some 23), op := (Op.move (Operand.tmp 6)), type := 4, pos := "law.go:22", after := #[{ on := 1, ground := Ground.guard }], guard := (some (1, true)) }) (v := ?_) rfl (by kernel_rfl) (by kernel_rfl) (by kernel_rfl) (fun _ _ _ h => h) (Or.inl ⟨by rfl, ?_⟩) hHeld ?_
  rotate_left
  · intro w hSw; (try dsimp only at hSw); go_simp; try with_reducible rfl
  try simp only [Act.put, List.setIfInBounds_toArray, List.set_cons_zero, List.set_cons_succ]
  refine wpAnyH_take (i := 3) (oi := { dst := (some 24), op := (Op.pick (Operand.tmp 22) (Operand.tmp 23) (Operand.const (Value.bool false))), type := 4, pos := "law.go:22", after := #[{ on := 1, ground := Ground.data }, { on := 2, ground := Ground.data }], guard := none }) (v := ?_) rfl (by kernel_rfl) (by kernel_rfl) (by kernel_rfl) (fun _ _ _ h => h) (Or.inl ⟨by rfl, ?_⟩) hHeld ?_
  rotate_left
  · intro w hSw; (try dsimp only at hSw); go_simp; try with_reducible rfl
  try simp only [Act.put, List.setIfInBounds_toArray, List.set_cons_zero, List.set_cons_succ]
  refine wpAnyH_take (i := 4) (oi := { dst := (some 25), op := (Op.move (Operand.tmp 24)), type := 4, pos := "law.go:22", after := #[{ on := 3, ground := Ground.data }, { on := 1, ground := Ground.chain }], guard := none }) (v := ?_) rfl (by kernel_rfl) (by kernel_rfl) (by kernel_rfl) (fun _ _ _ h => h) (Or.inl ⟨by rfl, ?_⟩) hHeld ?_
  rotate_left
  · intro w hSw; (try dsimp only at hSw); go_simp; try with_reducible rfl
  try simp only [Act.put, List.setIfInBounds_toArray, List.set_cons_zero, List.set_cons_succ]
  refine wpAnyH_take (i := 5) (oi := { dst := (some 26), op := (Op.move (Operand.tmp 7)), type := 4, pos := "law.go:22", after := #[{ on := 4, ground := Ground.guard }], guard := (some (4, true)) }) (v := ?_) rfl (by kernel_rfl) (by kernel_rfl) (by kernel_rfl) (fun _ _ _ h => h) (Or.inl ⟨by rfl, ?_⟩) hHeld ?_
  rotate_left
  · intro w hSw; (try dsimp only at hSw); go_simp; try with_reducible rfl
  try simp only [Act.put, List.setIfInBounds_toArray, List.set_cons_zero, List.set_cons_succ]
  refine wpAnyH_take (i := 6) (oi := { dst := (some 27), op := (Op.pick (Operand.tmp 25) (Operand.tmp 26) (Operand.const (Value.bool false))), type := 4, pos := "law.go:22", after := #[{ on := 4, ground := Ground.data }, { on := 5, ground := Ground.data }], guard := none }) (v := ?_) rfl (by kernel_rfl) (by kernel_rfl) (by kernel_rfl) (fun _ _ _ h => h) (Or.inl ⟨by rfl, ?_⟩) hHeld ?_
  rotate_left
  · intro w hSw; (try dsimp only at hSw); go_simp; try with_reducible rfl
  try simp only [Act.put, List.setIfInBounds_toArray, List.set_cons_zero, List.set_cons_succ]
  refine wpAnyH_take (i := 7) (oi := { dst := (some 28), op := (Op.move (Operand.tmp 27)), type := 4, pos := "law.go:22", after := #[{ on := 6, ground := Ground.data }, { on := 4, ground := Ground.chain }], guard := none }) (v := ?_) rfl (by kernel_rfl) (by kernel_rfl) (by kernel_rfl) (fun _ _ _ h => h) (Or.inl ⟨by rfl, ?_⟩) hHeld ?_
  rotate_left
  · intro w hSw; (try dsimp only at hSw); go_simp; try with_reducible rfl
  try simp only [Act.put, List.setIfInBounds_toArray, List.set_cons_zero, List.set_cons_succ]
  refine wpAnyH_take (i := 8) (oi := { dst := (some 29), op := (Op.load 24 (Operand.tmp 2)), type := 24, pos := "law.go:22", after := #[{ on := 7, ground := Ground.guard }], guard := (some (7, true)) }) (v := ?_) rfl (by kernel_rfl) (by kernel_rfl) (by kernel_rfl) (fun _ _ _ h => h) (Or.inl ⟨by rfl, ?_⟩) hHeld ?_
  rotate_left
  · intro w hSw; (try dsimp only at hSw); go_simp; try with_reducible rfl
  try simp only [Act.put, List.setIfInBounds_toArray, List.set_cons_zero, List.set_cons_succ]
  refine wpAnyH_take (i := 10) (oi := { dst := (some 31), op := (Op.load 24 (Operand.tmp 2)), type := 24, pos := "law.go:22", after := #[{ on := 7, ground := Ground.guard }], guard := (some (7, true)) }) (v := ?_) rfl (by kernel_rfl) (by kernel_rfl) (by kernel_rfl) (fun _ _ _ h => h) (Or.inl ⟨by rfl, ?_⟩) hHeld ?_
  rotate_left
  · intro w hSw; (try dsimp only at hSw); go_simp; try with_reducible rfl
  try simp only [Act.put, List.setIfInBounds_toArray, List.set_cons_zero, List.set_cons_succ]
  refine wpAnyH_ready (rs := [9]) (by kernel_rfl) (by simp) ?_
  refine AllReadyH.cons (o := { dst := (some 30), op := (Op.call { callee := (Callee.value (Operand.func 11)), args := #[(Operand.tmp 29)], argTypes := #[24] }), type := 3, pos := "law.go:22", after := #[{ on := 8, ground := Ground.data }, { on := 7, ground := Ground.chain }, { on := 7, ground := Ground.guard }], guard := (some (7, true)) }) rfl (fun K hK => ?_) AllReadyH.nil
  go_simp
  refine (wrV_calls a0 a1 a2 a3 a4 a5 s A _ c _).mono ?_
  rintro e w2 ⟨rfl, hb2⟩
  go_wp2_with fail
  refine hK.out _ _ (HK.out _ _ hb2 hHeld) (fun hHeld => ?_)
  clear hK K
  try simp only [Act.put, List.setIfInBounds_toArray, List.set_cons_zero, List.set_cons_succ]
  refine wpAnyH_ready (rs := [11]) (by kernel_rfl) (by simp) ?_
  refine AllReadyH.cons (o := { dst := (some 32), op := (Op.call { callee := (Callee.value (Operand.func 12)), args := #[(Operand.tmp 31)], argTypes := #[24] }), type := 3, pos := "law.go:22", after := #[{ on := 10, ground := Ground.data }, { on := 9, ground := Ground.chain }, { on := 7, ground := Ground.guard }], guard := (some (7, true)) }) rfl (fun K hK => ?_) AllReadyH.nil
  go_simp
  refine (crosstreeref08_Writes.calls a0 a1 a2 a3 a4 a5 s A c l (wrV a0 a1) _ (Kd.C_below HC.out (HQ.out _ hHeld)) HL.out (refWrites_ok _ _ _ _ _ _ _ _)).mono ?_
  rintro e w2 ⟨rfl, hb2⟩
  go_wp2_with fail
  refine hK.out _ _ (HK.out _ _ hb2 hHeld) (fun hHeld => ?_)
  clear hK K
  try simp only [Act.put, List.setIfInBounds_toArray, List.set_cons_zero, List.set_cons_succ]
  refine wpAnyH_take (i := 12) (oi := { dst := (some 33), op := (Op.binOp BinOp.eql 3 (Operand.tmp 30) (Operand.tmp 32) 3), type := 4, pos := "law.go:22", after := #[{ on := 9, ground := Ground.data }, { on := 11, ground := Ground.data }, { on := 7, ground := Ground.guard }], guard := (some (7, true)) }) (v := ?_) rfl (by kernel_rfl) (by kernel_rfl) (by kernel_rfl) (fun _ _ _ h => h) (Or.inl ⟨by rfl, ?_⟩) hHeld ?_
  rotate_left
  · intro w hSw; (try dsimp only at hSw); go_simp; try with_reducible rfl
  try simp only [Act.put, List.setIfInBounds_toArray, List.set_cons_zero, List.set_cons_succ]
  refine wpAnyH_take (i := 13) (oi := { dst := (some 34), op := (Op.pick (Operand.tmp 28) (Operand.tmp 33) (Operand.const (Value.bool false))), type := 4, pos := "law.go:22", after := #[{ on := 7, ground := Ground.data }, { on := 12, ground := Ground.data }], guard := none }) (v := ?_) rfl (by kernel_rfl) (by kernel_rfl) (by kernel_rfl) (fun _ _ _ h => h) (Or.inl ⟨by rfl, ?_⟩) hHeld ?_
  rotate_left
  · intro w hSw; (try dsimp only at hSw); go_simp; try with_reducible rfl
  try simp only [Act.put, List.setIfInBounds_toArray, List.set_cons_zero, List.set_cons_succ]
  refine wpAnyH_take (i := 14) (oi := { dst := (some 4), op := (Op.assign (Operand.tmp 34)), type := 4, pos := "law.go:22", after := #[{ on := 13, ground := Ground.data }, { on := 11, ground := Ground.chain }, { on := 0, ground := Ground.phase }, { on := 1, ground := Ground.phase }, { on := 2, ground := Ground.phase }, { on := 3, ground := Ground.phase }, { on := 4, ground := Ground.phase }, { on := 5, ground := Ground.phase }, { on := 6, ground := Ground.phase }, { on := 7, ground := Ground.phase }, { on := 8, ground := Ground.phase }, { on := 9, ground := Ground.phase }, { on := 10, ground := Ground.phase }, { on := 11, ground := Ground.phase }, { on := 12, ground := Ground.phase }, { on := 13, ground := Ground.phase }], guard := none }) (v := ?_) rfl (by kernel_rfl) (by kernel_rfl) (by kernel_rfl) (fun _ _ _ h => h) (Or.inl ⟨by rfl, ?_⟩) hHeld ?_
  rotate_left
  · intro w hSw; (try dsimp only at hSw); go_simp; try with_reducible rfl
  try simp only [Act.put, List.setIfInBounds_toArray, List.set_cons_zero, List.set_cons_succ]
  refine wpAnyH_done (by kernel_rfl) ?_ _
  go_wp2_with fail
  go_ret
  exact ⟨rfl, HQ.out _ hHeld⟩
end Go.Proofs.Ytmiacdacebaagaa.G
