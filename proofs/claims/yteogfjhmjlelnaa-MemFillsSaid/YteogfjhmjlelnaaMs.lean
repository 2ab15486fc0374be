/- The example of the document's: shown() is true. No condition. -/
import Derived.Test.YteogfjhmjlelnaaMq
set_option linter.unusedVariables false
set_option linter.unusedSimpArgs false
namespace Go.Proofs.Yteogfjhmjlelnaa.G
open Go.RowKit Go.Proofs.Yteogfjhmjlelnaa.B Go.Proofs.YteogfjhmjlelnaaW.PrintWords Go.Proofs.YteogfjhmjlelnaaW.PrintLast Go.Proofs.YteogfjhmjlelnaaW.PrintMore

theorem new_holds (w : World) : Calls Try.prog 11 #[] w fun e w' => e = .returned (.pointer (some ⟨w.heap.size, 0, none⟩)) ∧ Holds w' w.heap.size [] [] ∧ Below w.heap.size w w' :=
  (new_calls w).mono fun e w' ⟨h1, h2⟩ => ⟨h1, by
    subst h2
    exact ⟨⟨.slice none 0 0, blk_new w _, rfl, .inl ⟨rfl, rfl⟩⟩, rfl, List.nodup_nil, (fun g hg => by cases hg), fun i g m hi => by simp at hi⟩, by subst h2; exact below_alloc (Below.refl _ _) _⟩
def vat (n : Int) : Vl := ⟨n, 1, 0⟩
def sh1 : List Mb := (allocS [] 5 16 false).1
def sh2 : List Mb := (storeS sh1 (vat 8) 8 (vat 3)).1
theorem sh_a : allocS [] 5 16 false = (sh1, 1, 0) := rfl
theorem sh_s : storeS sh1 (vat 8) 8 (vat 3) = (sh2, 0) := rfl
theorem sh_l1 : loadS sh2 (vat 8) 8 = (⟨3, 1, 0⟩, 0) := by rfl
theorem sh_l2 : loadS sh2 (vat 9) 1 = (⟨3, 1, 2⟩, 0) := by rfl
theorem sh_l3 : loadS sh2 (vat 8) 4 = (⟨0, 0, 0⟩, 9) := by rfl
theorem sh_l4 : loadS sh2 (vat 0) 8 = (⟨0, 0, 0⟩, 9) := by rfl
/-- A Mem that this call made: what holds of it, and that nothing older was written. -/
structure Mine (w0 : Nat) (w : World) (W : World) (gm : Nat) (gs : List Nat) (s : List Mb) : Prop where
  holds : Holds W gm gs s
  below : Below w0 w W
  base : w0 ≤ gm
theorem Mine.fr {w0 : Nat} {w W W' : World} {gm : Nat} {gs gs' : List Nat} {s s' : List Mb} (h : Mine w0 w W gm gs s) (h0 : w0 ≤ W.heap.size) (hH : Holds W' gm gs' s') (hF : Fr W W' gm gs) : Mine w0 w W' gm gs' s' :=
  ⟨hH, h.below.trans ⟨hF.os, hF.tape, hF.output, hF.size, fun k hk => hF.block k (Nat.lt_of_lt_of_le hk h0) (fun hS => by have := h.holds.sof _ _ hS; have := h.base; omega)⟩, h.base⟩
theorem Mine.low {w0 : Nat} {w W W' : World} {gm : Nat} {gs : List Nat} {s : List Mb} (h : Mine w0 w W gm gs s) (h0 : w0 ≤ W.heap.size) (hb : Below W.heap.size W W') : Mine w0 w W' gm gs s :=
  h.fr h0 (h.holds.below hb) (Fr.below hb _ _)
theorem load_tell {W : World} {gm : Nat} {gs : List Nat} {s : List Mb} (h : Holds W gm gs s) (p : Vl) (k : Int) (r : Vl × Int) (hr : loadS s p k = r) :
    Calls Try.prog 14 #[.pointer (some ⟨gm, 0, none⟩), .agg #[.int .i64 p.n, .int .i64 p.b, .int .i64 p.f], .int .i64 k] W fun e w' => e = .returned (.tuple #[.agg #[.int .i64 r.1.n, .int .i64 r.1.b, .int .i64 r.1.f], .int .i64 r.2]) ∧ Below W.heap.size W w' := by
  subst hr; exact load_calls h p k
theorem store_tell {W : World} {gm : Nat} {gs : List Nat} {s : List Mb} (h : Holds W gm gs s) (p : Vl) (k : Int) (x : Vl) (r : List Mb × Int) (hr : storeS s p k x = r) :
    Calls Try.prog 16 #[.pointer (some ⟨gm, 0, none⟩), .agg #[.int .i64 p.n, .int .i64 p.b, .int .i64 p.f], .int .i64 k, .agg #[.int .i64 x.n, .int .i64 x.b, .int .i64 x.f]] W fun e w' => e = .returned (.int .i64 r.2) ∧ Holds w' gm gs r.1 ∧ Fr W w' gm gs := by
  subst hr; exact store_calls h p k x
theorem alloc_tell {w0 : Nat} {w W : World} {gm : Nat} {gs : List Nat} {s : List Mb} (h : Mine w0 w W gm gs s) (h0 : w0 ≤ W.heap.size) (hs : s.length ≤ 2000) (site size : Int) (z : Bool) (r : List Mb × Int × Int) (hr : allocS s site size z = r) :
    Calls Try.prog 12 #[.pointer (some ⟨gm, 0, none⟩), .int .i64 site, .int .i64 size, .bool z] W fun e w' => e = .returned (.tuple #[.int .i64 r.2.1, .int .i64 r.2.2]) ∧ ∃ gs', Mine w0 w w' gm gs' r.1 ∧ W.heap.size ≤ w'.heap.size := by
  subst hr
  exact (alloc_calls h.holds hs site size z).mono fun e w' ⟨h1, gs', h2, h3, h4, h5⟩ => ⟨h1, gs', h.fr h0 h2 h3, h3.size⟩
set_option maxRecDepth 100000 in
set_option maxHeartbeats 8000000 in
theorem shown_calls (w : World) : Calls Try.prog 10 #[] w fun e w' => e = .returned (.bool true) ∧ Below w.heap.size w w' := by
  go_enter Try.func10, Try.ntmps10
  go_upto_region 2 with (first | (go_at_call 11; refine (new_holds _).mono ?_; rintro e w1 ⟨rfl, hH1, hb1⟩; have HM1 : Aside0 (Mine w.heap.size w w1 w.heap.size [] []) := Aside0.mk ⟨hH1, hb1, Nat.le_refl _⟩; have HS1 := Aside0.mk hb1.size; clear hH1 hb1))
  go_upto_region 5 with (first | (go_at_call 12; refine (alloc_tell HM1.out HS1.out (by decide) 5 16 false _ sh_a).mono ?_; rintro e w2 ⟨rfl, gs, hM2, hs2⟩; have HM2 := Aside0.mk hM2; have HS2 := Aside0.mk (Nat.le_trans HS1.out hs2); clear hM2 hs2))
  go_upto_region 6 with (first | (go_at_call 15; refine (at_calls 8 _).mono ?_; rintro e w3 ⟨rfl, hb3⟩; have HM3 := Aside0.mk (HM2.out.low HS2.out hb3); have HS3 := Aside0.mk (Nat.le_trans HS2.out hb3.size); clear hb3) | (go_at_call 15; refine (at_calls 3 _).mono ?_; rintro e w4 ⟨rfl, hb4⟩; have HM4 := Aside0.mk (HM3.out.low HS3.out hb4); have HS4 := Aside0.mk (Nat.le_trans HS3.out hb4.size); clear hb4) | (go_at_call 16; refine (store_tell HM4.out.holds (vat 8) 8 (vat 3) _ sh_s).mono ?_; rintro e w5 ⟨rfl, hH5, hF5⟩; have HM5 := Aside0.mk (HM4.out.fr HS4.out hH5 hF5); have HS5 := Aside0.mk (Nat.le_trans HS4.out hF5.size); clear hH5 hF5))
  clear HM1 HM2 HM3 HM4 HS1 HS2 HS3 HS4
  go_upto_region 7 with (first | (go_at_call 15; refine (at_calls 8 _).mono ?_; rintro e w6 ⟨rfl, hb6⟩; have HM6 := Aside0.mk (HM5.out.low HS5.out hb6); have HS6 := Aside0.mk (Nat.le_trans HS5.out hb6.size); clear hb6) | (go_at_call 14; refine (load_tell HM6.out.holds (vat 8) 8 _ sh_l1).mono ?_; rintro e w7 ⟨rfl, hb7⟩; have HM7 := Aside0.mk (HM6.out.low HS6.out hb7); have HS7 := Aside0.mk (Nat.le_trans HS6.out hb7.size); clear hb7))
  have HM8 := Aside0.mk (HM7.out.low HS7.out (below_alloc (Below.refl _ _) (.cells #[.int .i64 3, .int .i64 1, .int .i64 0] 23)))
  have HS8 : Aside0 (w.heap.size ≤ (w7.alloc (.cells #[.int .i64 3, .int .i64 1, .int .i64 0] 23)).heap.size) := Aside0.mk (Nat.le_trans HS7.out (by simp))
  have HX58 := Aside0.mk (blk_new w7 (.cells #[.int .i64 3, .int .i64 1, .int .i64 0] 23))
  generalize w7.heap.size = g5 at HX58 ⊢
  generalize w7.alloc (.cells #[.int .i64 3, .int .i64 1, .int .i64 0] 23) = w8 at HM8 HS8 HX58 ⊢
  go_upto_region 8 with (first | (go_at_call 15; refine (at_calls 9 _).mono ?_; rintro e w9 ⟨rfl, hb9⟩; have HM9 := Aside0.mk (HM8.out.low HS8.out hb9); have HS9 := Aside0.mk (Nat.le_trans HS8.out hb9.size); have HX59 := Aside0.mk (blk_below HX58.out hb9); clear hb9) | (go_at_call 14; refine (load_tell HM9.out.holds (vat 9) 1 _ sh_l2).mono ?_; rintro e w10 ⟨rfl, hb10⟩; have HM10 := Aside0.mk (HM9.out.low HS9.out hb10); have HS10 := Aside0.mk (Nat.le_trans HS9.out hb10.size); have HX510 := Aside0.mk (blk_below HX59.out hb10); clear hb10))
  have HM11 := Aside0.mk (HM10.out.low HS10.out (below_alloc (Below.refl _ _) (.cells #[.int .i64 3, .int .i64 1, .int .i64 2] 23)))
  have HS11 : Aside0 (w.heap.size ≤ (w10.alloc (.cells #[.int .i64 3, .int .i64 1, .int .i64 2] 23)).heap.size) := Aside0.mk (Nat.le_trans HS10.out (by simp))
  have HX511 := Aside0.mk (blk_alloc HX510.out (.cells #[.int .i64 3, .int .i64 1, .int .i64 2] 23))
  have HX711 := Aside0.mk (blk_new w10 (.cells #[.int .i64 3, .int .i64 1, .int .i64 2] 23))
  generalize w10.heap.size = g7 at HX711 ⊢
  generalize w10.alloc (.cells #[.int .i64 3, .int .i64 1, .int .i64 2] 23) = w11 at HM11 HS11 HX511 HX711 ⊢
  go_upto_region 9 with (first | (go_at_call 15; refine (at_calls 8 _).mono ?_; rintro e w12 ⟨rfl, hb12⟩; have HM12 := Aside0.mk (HM11.out.low HS11.out hb12); have HS12 := Aside0.mk (Nat.le_trans HS11.out hb12.size); have HX512 := Aside0.mk (blk_below HX511.out hb12); have HX712 := Aside0.mk (blk_below HX711.out hb12); clear hb12) | (go_at_call 14; refine (load_tell HM12.out.holds (vat 8) 4 _ sh_l3).mono ?_; rintro e w13 ⟨rfl, hb13⟩; have HM13 := Aside0.mk (HM12.out.low HS12.out hb13); have HS13 := Aside0.mk (Nat.le_trans HS12.out hb13.size); have HX513 := Aside0.mk (blk_below HX512.out hb13); have HX713 := Aside0.mk (blk_below HX712.out hb13); clear hb13))
  have HM14 := Aside0.mk (HM13.out.low HS13.out (below_alloc (Below.refl _ _) (.cells #[.int .i64 0, .int .i64 0, .int .i64 0] 23)))
  have HS14 : Aside0 (w.heap.size ≤ (w13.alloc (.cells #[.int .i64 0, .int .i64 0, .int .i64 0] 23)).heap.size) := Aside0.mk (Nat.le_trans HS13.out (by simp))
  have HX514 := Aside0.mk (blk_alloc HX513.out (.cells #[.int .i64 0, .int .i64 0, .int .i64 0] 23))
  have HX714 := Aside0.mk (blk_alloc HX713.out (.cells #[.int .i64 0, .int .i64 0, .int .i64 0] 23))
  generalize w13.alloc (.cells #[.int .i64 0, .int .i64 0, .int .i64 0] 23) = w14 at HM14 HS14 HX514 HX714 ⊢
  go_upto_region 10 with (first | (go_at_call 15; refine (at_calls 0 _).mono ?_; rintro e w15 ⟨rfl, hb15⟩; have HM15 := Aside0.mk (HM14.out.low HS14.out hb15); have HS15 := Aside0.mk (Nat.le_trans HS14.out hb15.size); have HX515 := Aside0.mk (blk_below HX514.out hb15); have HX715 := Aside0.mk (blk_below HX714.out hb15); clear hb15) | (go_at_call 14; refine (load_tell HM15.out.holds (vat 0) 8 _ sh_l4).mono ?_; rintro e w16 ⟨rfl, hb16⟩; have HM16 := Aside0.mk (HM15.out.low HS15.out hb16); have HS16 := Aside0.mk (Nat.le_trans HS15.out hb16.size); have HX516 := Aside0.mk (blk_below HX515.out hb16); have HX716 := Aside0.mk (blk_below HX715.out hb16); clear hb16))
  have HM17 := Aside0.mk (HM16.out.low HS16.out (below_alloc (Below.refl _ _) (.cells #[.int .i64 0, .int .i64 0, .int .i64 0] 23)))
  have HS17 : Aside0 (w.heap.size ≤ (w16.alloc (.cells #[.int .i64 0, .int .i64 0, .int .i64 0] 23)).heap.size) := Aside0.mk (Nat.le_trans HS16.out (by simp))
  have HX517 := Aside0.mk (blk_alloc HX516.out (.cells #[.int .i64 0, .int .i64 0, .int .i64 0] 23))
  have HX717 := Aside0.mk (blk_alloc HX716.out (.cells #[.int .i64 0, .int .i64 0, .int .i64 0] 23))
  generalize w16.alloc (.cells #[.int .i64 0, .int .i64 0, .int .i64 0] 23) = w17 at HM17 HS17 HX517 HX717 ⊢
  have hS0 := cell3 HX517.out
  have hS1 := cell3 HX717.out
  have HB17 := Aside0.mk HM17.out.below
  have HS17 := HS17
  clear HM5 HS5 HM6 HS6 HM7 HS7 HM8 HS8 HM9 HS9 HM10 HS10 HM11 HS11 HM12 HS12 HM13 HS13 HM14 HS14 HM15 HS15 HM16 HS16 HM17
  obtain ⟨w0, hw0⟩ : ∃ w0, w0 = w17 := ⟨_, rfl⟩
  have HK := Aside0.mk (show ∀ Wa Wb : World, Below Wa.heap.size Wa Wb → (Wa.cell? ⟨g5, 0, none⟩ = some (.int .i64 3) ∧ Wa.cell? ⟨g5, 1, none⟩ = some (.int .i64 1) ∧ Wa.cell? ⟨g5, 2, none⟩ = some (.int .i64 0) ∧ Wa.cell? ⟨g7, 0, none⟩ = some (.int .i64 3) ∧ Wa.cell? ⟨g7, 1, none⟩ = some (.int .i64 1) ∧ Wa.cell? ⟨g7, 2, none⟩ = some (.int .i64 2) ∧ Below w17.heap.size w17 Wa) → (Wb.cell? ⟨g5, 0, none⟩ = some (.int .i64 3) ∧ Wb.cell? ⟨g5, 1, none⟩ = some (.int .i64 1) ∧ Wb.cell? ⟨g5, 2, none⟩ = some (.int .i64 0) ∧ Wb.cell? ⟨g7, 0, none⟩ = some (.int .i64 3) ∧ Wb.cell? ⟨g7, 1, none⟩ = some (.int .i64 1) ∧ Wb.cell? ⟨g7, 2, none⟩ = some (.int .i64 2) ∧ Below w17.heap.size w17 Wb) from fun _ _ hb h => ⟨pw_cell_below hb h.1, pw_cell_below hb h.2.1, pw_cell_below hb h.2.2.1, pw_cell_below hb h.2.2.2.1, pw_cell_below hb h.2.2.2.2.1, pw_cell_below hb h.2.2.2.2.2.1, below_step h.2.2.2.2.2.2 hb⟩)
  have HQ := Aside0.mk (show ∀ Wa : World, (Wa.cell? ⟨g5, 0, none⟩ = some (.int .i64 3) ∧ Wa.cell? ⟨g5, 1, none⟩ = some (.int .i64 1) ∧ Wa.cell? ⟨g5, 2, none⟩ = some (.int .i64 0) ∧ Wa.cell? ⟨g7, 0, none⟩ = some (.int .i64 3) ∧ Wa.cell? ⟨g7, 1, none⟩ = some (.int .i64 1) ∧ Wa.cell? ⟨g7, 2, none⟩ = some (.int .i64 2) ∧ Below w17.heap.size w17 Wa) → Below w17.heap.size w17 Wa from fun _ h => h.2.2.2.2.2.2)
  have hS : (w17.cell? ⟨g5, 0, none⟩ = some (.int .i64 3) ∧ w17.cell? ⟨g5, 1, none⟩ = some (.int .i64 1) ∧ w17.cell? ⟨g5, 2, none⟩ = some (.int .i64 0) ∧ w17.cell? ⟨g7, 0, none⟩ = some (.int .i64 3) ∧ w17.cell? ⟨g7, 1, none⟩ = some (.int .i64 1) ∧ w17.cell? ⟨g7, 2, none⟩ = some (.int .i64 2) ∧ Below w17.heap.size w17 w17) := ⟨hS0.1, hS0.2.1, hS0.2.2, hS1.1, hS1.2.1, hS1.2.2, Below.refl _ _⟩
  refine wp_region_held_drew (S := fun w' => w'.cell? ⟨g5, 0, none⟩ = some (.int .i64 3) ∧ w'.cell? ⟨g5, 1, none⟩ = some (.int .i64 1) ∧ w'.cell? ⟨g5, 2, none⟩ = some (.int .i64 0) ∧ w'.cell? ⟨g7, 0, none⟩ = some (.int .i64 3) ∧ w'.cell? ⟨g7, 1, none⟩ = some (.int .i64 1) ∧ w'.cell? ⟨g7, 2, none⟩ = some (.int .i64 2) ∧ Below w17.heap.size w17 w') (by kernel_rfl) ⟨hS.1, hS.2.1, hS.2.2.1, hS.2.2.2.1, hS.2.2.2.2.1, hS.2.2.2.2.2.1, below_drew hS.2.2.2.2.2.2⟩ (fun hHeld => ?_)
  refine wpAnyH_take (i := 0) (oi := { dst := (some 49), op := (Op.move (Operand.tmp 2)), type := 3, pos := "law.go:25", after := #[], guard := none }) (v := ?_) rfl (by kernel_rfl) (by kernel_rfl) (by kernel_rfl) (fun _ _ _ h => h) (Or.inl ⟨by rfl, ?_⟩) hHeld ?_
  rotate_left
  · intro w hSw; (try dsimp only at hSw); go_simp; try with_reducible rfl
  try simp only [Act.put, List.setIfInBounds_toArray, List.set_cons_zero, List.set_cons_succ]
  refine wpAnyH_take (i := 1) (oi := { dst := (some 50), op := (Op.binOp BinOp.eql 3 (Operand.tmp 49) (Operand.const (Value.int IntKind.i64 1)) 3), type := 4, pos := "law.go:25", after := #[{ on := 0, ground := Ground.data }], guard := none }) (v := ?_) rfl (by kernel_rfl) (by kernel_rfl) (by kernel_rfl) (fun _ _ _ h => h) (Or.inl ⟨by rfl, ?_⟩) hHeld ?_
  rotate_left
  · intro w hSw; (try dsimp only at hSw); go_simp; try with_reducible rfl
  try simp only [Act.put, List.setIfInBounds_toArray, List.set_cons_zero, List.set_cons_succ]
  refine wpAnyH_take (i := 2) (oi := { dst := (some 51), op := (Op.move (Operand.tmp 50)), type := 4, pos := "law.go:25", after := #[{ on := 1, ground := Ground.data }], guard := none }) (v := ?_) rfl (by kernel_rfl) (by kernel_rfl) (by kernel_rfl) (fun _ _ _ h => h) (Or.inl ⟨by rfl, ?_⟩) hHeld ?_
  rotate_left
  · intro w hSw; (try dsimp only at hSw); go_simp; try with_reducible rfl
  try simp only [Act.put, List.setIfInBounds_toArray, List.set_cons_zero, List.set_cons_succ]
  refine wpAnyH_take (i := 3) (oi := { dst := (some 52), op := (Op.move (Operand.tmp 3)), type := 27, pos := "law.go:25", after := #[{ on := 2, ground := Ground.guard }], guard := (some (2, true)) }) (v := ?_) rfl (by kernel_rfl) (by kernel_rfl) (by kernel_rfl) (fun _ _ _ h => h) (Or.inl ⟨by rfl, ?_⟩) hHeld ?_
  rotate_left
  · intro w hSw; (try dsimp only at hSw); go_simp; try with_reducible rfl
  try simp only [Act.put, List.setIfInBounds_toArray, List.set_cons_zero, List.set_cons_succ]
  refine wpAnyH_take (i := 4) (oi := { dst := (some 53), op := (Op.binOp BinOp.eql 27 (Operand.tmp 52) (Operand.const (Value.int IntKind.i64 0)) 27), type := 4, pos := "law.go:25", after := #[{ on := 3, ground := Ground.data }, { on := 2, ground := Ground.guard }], guard := (some (2, true)) }) (v := ?_) rfl (by kernel_rfl) (by kernel_rfl) (by kernel_rfl) (fun _ _ _ h => h) (Or.inl ⟨by rfl, ?_⟩) hHeld ?_
  rotate_left
  · intro w hSw; (try dsimp only at hSw); go_simp; try with_reducible rfl
  try simp only [Act.put, List.setIfInBounds_toArray, List.set_cons_zero, List.set_cons_succ]
  refine wpAnyH_take (i := 5) (oi := { dst := (some 54), op := (Op.pick (Operand.tmp 51) (Operand.tmp 53) (Operand.const (Value.bool false))), type := 4, pos := "law.go:25", after := #[{ on := 2, ground := Ground.data }, { on := 4, ground := Ground.data }], guard := none }) (v := ?_) rfl (by kernel_rfl) (by kernel_rfl) (by kernel_rfl) (fun _ _ _ h => h) (Or.inl ⟨by rfl, ?_⟩) hHeld ?_
  rotate_left
  · intro w hSw; (try dsimp only at hSw); go_simp; try with_reducible rfl
  try simp only [Act.put, List.setIfInBounds_toArray, List.set_cons_zero, List.set_cons_succ]
  refine wpAnyH_take (i := 6) (oi := { dst := (some 55), op := (Op.move (Operand.tmp 54)), type := 4, pos := "law.go:25", after := #[{ on := 5, ground := Ground.data }, { on := 2, ground := Ground.chain }], guard := none }) (v := ?_) rfl (by kernel_rfl) (by kernel_rfl) (by kernel_rfl) (fun _ _ _ h => h) (Or.inl ⟨by rfl, ?_⟩) hHeld ?_
  rotate_left
  · intro w hSw; (try dsimp only at hSw); go_simp; try with_reducible rfl
  try simp only [Act.put, List.setIfInBounds_toArray, List.set_cons_zero, List.set_cons_succ]
  refine wpAnyH_take (i := 7) (oi := { dst := (some 56), op := (Op.move (Operand.tmp 4)), type := 27, pos := "law.go:25", after := #[{ on := 6, ground := Ground.guard }], guard := (some (6, true)) }) (v := ?_) rfl (by kernel_rfl) (by kernel_rfl) (by kernel_rfl) (fun _ _ _ h => h) (Or.inl ⟨by rfl, ?_⟩) hHeld ?_
  rotate_left
  · intro w hSw; (try dsimp only at hSw); go_simp; try with_reducible rfl
  try simp only [Act.put, List.setIfInBounds_toArray, List.set_cons_zero, List.set_cons_succ]
  refine wpAnyH_take (i := 8) (oi := { dst := (some 57), op := (Op.binOp BinOp.eql 27 (Operand.tmp 56) (Operand.const (Value.int IntKind.i64 0)) 27), type := 4, pos := "law.go:25", after := #[{ on := 7, ground := Ground.data }, { on := 6, ground := Ground.guard }], guard := (some (6, true)) }) (v := ?_) rfl (by kernel_rfl) (by kernel_rfl) (by kernel_rfl) (fun _ _ _ h => h) (Or.inl ⟨by rfl, ?_⟩) hHeld ?_
  rotate_left
  · intro w hSw; (try dsimp only at hSw); go_simp; try with_reducible rfl
  try simp only [Act.put, List.setIfInBounds_toArray, List.set_cons_zero, List.set_cons_succ]
  refine wpAnyH_take (i := 9) (oi := { dst := (some 58), op := (Op.pick (Operand.tmp 55) (Operand.tmp 57) (Operand.const (Value.bool false))), type := 4, pos := "law.go:25", after := #[{ on := 6, ground := Ground.data }, { on := 8, ground := Ground.data }], guard := none }) (v := ?_) rfl (by kernel_rfl) (by kernel_rfl) (by kernel_rfl) (fun _ _ _ h => h) (Or.inl ⟨by rfl, ?_⟩) hHeld ?_
  rotate_left
  · intro w hSw; (try dsimp only at hSw); go_simp; try with_reducible rfl
  try simp only [Act.put, List.setIfInBounds_toArray, List.set_cons_zero, List.set_cons_succ]
  refine wpAnyH_take (i := 10) (oi := { dst := (some 59), op := (Op.move (Operand.tmp 58)), type := 4, pos := "law.go:25", after := #[{ on := 9, ground := Ground.data }, { on := 6, ground := Ground.chain }], guard := none }) (v := ?_) rfl (by kernel_rfl) (by kernel_rfl) (by kernel_rfl) (fun _ _ _ h => h) (Or.inl ⟨by rfl, ?_⟩) hHeld ?_
  rotate_left
  · intro w hSw; (try dsimp only at hSw); go_simp; try with_reducible rfl
  try simp only [Act.put, List.setIfInBounds_toArray, List.set_cons_zero, List.set_cons_succ]
  refine wpAnyH_take (i := 11) (oi := { dst := (some 60), op := (Op.load 23 (Operand.tmp 5)), type := 23, pos := "law.go:25", after := #[{ on := 10, ground := Ground.guard }], guard := (some (10, true)) }) (v := ?_) rfl (by kernel_rfl) (by kernel_rfl) (by kernel_rfl) (fun _ _ _ h => h) (Or.inl ⟨by rfl, ?_⟩) hHeld ?_
  rotate_left
  · intro w hSw; (try dsimp only at hSw); go_simp; try with_reducible rfl
  try simp only [Act.put, List.setIfInBounds_toArray, List.set_cons_zero, List.set_cons_succ]
  refine wpAnyH_ready (rs := [12]) (by kernel_rfl) (by simp) ?_
  refine AllReadyH.cons (o := { dst := (some 61), op := (Op.call { callee := (Callee.value (Operand.func 15)), args := #[(Operand.const (Value.int IntKind.i64 3))], argTypes := #[2] }), type := 23, pos := "law.go:25", after := #[{ on := 10, ground := Ground.chain }, { on := 10, ground := Ground.guard }], guard := (some (10, true)) }) rfl (fun K hK => ?_) AllReadyH.nil
  go_simp
  refine (at_calls 3 _).mono ?_
  rintro e w2 ⟨rfl, hb2⟩
  refine hK.out _ _ (HK.out _ _ hb2 hHeld) (fun hHeld => ?_)
  clear hK K
  try simp only [Act.put, List.setIfInBounds_toArray, List.set_cons_zero, List.set_cons_succ]
  refine wpAnyH_take (i := 13) (oi := { dst := (some 62), op := (Op.binOp BinOp.eql 23 (Operand.tmp 60) (Operand.tmp 61) 23), type := 4, pos := "law.go:25", after := #[{ on := 11, ground := Ground.data }, { on := 12, ground := Ground.data }, { on := 10, ground := Ground.guard }], guard := (some (10, true)) }) (v := .bool true) rfl (by kernel_rfl) (by kernel_rfl) (by kernel_rfl) (fun _ _ _ h => h) (Or.inl ⟨by rfl, ?_⟩) hHeld ?_
  · intro w hSw; (try dsimp only at hSw); go_simp; try rfl
  try simp only [Act.put, List.setIfInBounds_toArray, List.set_cons_zero, List.set_cons_succ]
  refine wpAnyH_take (i := 14) (oi := { dst := (some 63), op := (Op.pick (Operand.tmp 59) (Operand.tmp 62) (Operand.const (Value.bool false))), type := 4, pos := "law.go:25", after := #[{ on := 10, ground := Ground.data }, { on := 13, ground := Ground.data }], guard := none }) (v := ?_) rfl (by kernel_rfl) (by kernel_rfl) (by kernel_rfl) (fun _ _ _ h => h) (Or.inl ⟨by rfl, ?_⟩) hHeld ?_
  rotate_left
  · intro w hSw; (try dsimp only at hSw); go_simp; try with_reducible rfl
  try simp only [Act.put, List.setIfInBounds_toArray, List.set_cons_zero, List.set_cons_succ]
  refine wpAnyH_take (i := 15) (oi := { dst := (some 64), op := (Op.move (Operand.tmp 63)), type := 4, pos := "law.go:25", after := #[{ on := 14, ground := Ground.data }, { on := 12, ground := Ground.chain }], guard := none }) (v := ?_) rfl (by kernel_rfl) (by kernel_rfl) (by kernel_rfl) (fun _ _ _ h => h) (Or.inl ⟨by rfl, ?_⟩) hHeld ?_
  rotate_left
  · intro w hSw; (try dsimp only at hSw); go_simp; try with_reducible rfl
  try simp only [Act.put, List.setIfInBounds_toArray, List.set_cons_zero, List.set_cons_succ]
  refine wpAnyH_take (i := 16) (oi := { dst := (some 65), op := (Op.move (Operand.tmp 6)), type := 27, pos := "law.go:25", after := #[{ on := 15, ground := Ground.guard }], guard := (some (15, true)) }) (v := ?_) rfl (by kernel_rfl) (by kernel_rfl) (by kernel_rfl) (fun _ _ _ h => h) (Or.inl ⟨by rfl, ?_⟩) hHeld ?_
  rotate_left
  · intro w hSw; (try dsimp only at hSw); go_simp; try with_reducible rfl
  try simp only [Act.put, List.setIfInBounds_toArray, List.set_cons_zero, List.set_cons_succ]
  refine wpAnyH_take (i := 17) (oi := { dst := (some 66), op := (Op.binOp BinOp.eql 27 (Operand.tmp 65) (Operand.const (Value.int IntKind.i64 0)) 27), type := 4, pos := "law.go:25", after := #[{ on := 16, ground := Ground.data }, { on := 15, ground := Ground.guard }], guard := (some (15, true)) }) (v := ?_) rfl (by kernel_rfl) (by kernel_rfl) (by kernel_rfl) (fun _ _ _ h => h) (Or.inl ⟨by rfl, ?_⟩) hHeld ?_
  rotate_left
  · intro w hSw; (try dsimp only at hSw); go_simp; try with_reducible rfl
  try simp only [Act.put, List.setIfInBounds_toArray, List.set_cons_zero, List.set_cons_succ]
  refine wpAnyH_take (i := 18) (oi := { dst := (some 67), op := (Op.pick (Operand.tmp 64) (Operand.tmp 66) (Operand.const (Value.bool false))), type := 4, pos := "law.go:25", after := #[{ on := 15, ground := Ground.data }, { on := 17, ground := Ground.data }], guard := none }) (v := ?_) rfl (by kernel_rfl) (by kernel_rfl) (by kernel_rfl) (fun _ _ _ h => h) (Or.inl ⟨by rfl, ?_⟩) hHeld ?_
  rotate_left
  · intro w hSw; (try dsimp only at hSw); go_simp; try with_reducible rfl
  try simp only [Act.put, List.setIfInBounds_toArray, List.set_cons_zero, List.set_cons_succ]
  refine wpAnyH_take (i := 19) (oi := { dst := (some 68), op := (Op.move (Operand.tmp 67)), type := 4, pos := "law.go:25", after := #[{ on := 18, ground := Ground.data }, { on := 15, ground := Ground.chain }], guard := none }) (v := ?_) rfl (by kernel_rfl) (by kernel_rfl) (by kernel_rfl) (fun _ _ _ h => h) (Or.inl ⟨by rfl, ?_⟩) hHeld ?_
  rotate_left
  · intro w hSw; (try dsimp only at hSw); go_simp; try with_reducible rfl
  try simp only [Act.put, List.setIfInBounds_toArray, List.set_cons_zero, List.set_cons_succ]
  refine wpAnyH_take (i := 20) (oi := { dst := (some 69), op := (Op.load 23 (Operand.tmp 7)), type := 23, pos := "law.go:25", after := #[{ on := 19, ground := Ground.guard }], guard := (some (19, true)) }) (v := ?_) rfl (by kernel_rfl) (by kernel_rfl) (by kernel_rfl) (fun _ _ _ h => h) (Or.inl ⟨by rfl, ?_⟩) hHeld ?_
  rotate_left
  · intro w hSw; (try dsimp only at hSw); go_simp; try with_reducible rfl
  try simp only [Act.put, List.setIfInBounds_toArray, List.set_cons_zero, List.set_cons_succ]
  refine wpAnyH_take (i := 21) (oi := { dst := (some 70), op := (Op.build 23 #[(0, (Operand.const (Value.int IntKind.i64 3))), (1, (Operand.const (Value.int IntKind.i64 1))), (2, (Operand.const (Value.int IntKind.i64 2)))]), type := 23, pos := "law.go:25", after := #[{ on := 19, ground := Ground.guard }], guard := (some (19, true)) }) (v := ?_) rfl (by kernel_rfl) (by kernel_rfl) (by kernel_rfl) (fun _ _ _ h => h) (Or.inl ⟨by rfl, ?_⟩) hHeld ?_
  rotate_left
  · intro w hSw; (try dsimp only at hSw); go_simp; try with_reducible rfl
  try simp only [Act.put, List.setIfInBounds_toArray, List.set_cons_zero, List.set_cons_succ]
  refine wpAnyH_take (i := 22) (oi := { dst := (some 71), op := (Op.binOp BinOp.eql 23 (Operand.tmp 69) (Operand.tmp 70) 23), type := 4, pos := "law.go:25", after := #[{ on := 20, ground := Ground.data }, { on := 21, ground := Ground.data }, { on := 19, ground := Ground.guard }], guard := (some (19, true)) }) (v := .bool true) rfl (by kernel_rfl) (by kernel_rfl) (by kernel_rfl) (fun _ _ _ h => h) (Or.inl ⟨by rfl, ?_⟩) hHeld ?_
  · intro w hSw; (try dsimp only at hSw); go_simp; try rfl
  try simp only [Act.put, List.setIfInBounds_toArray, List.set_cons_zero, List.set_cons_succ]
  refine wpAnyH_take (i := 23) (oi := { dst := (some 72), op := (Op.pick (Operand.tmp 68) (Operand.tmp 71) (Operand.const (Value.bool false))), type := 4, pos := "law.go:25", after := #[{ on := 19, ground := Ground.data }, { on := 22, ground := Ground.data }], guard := none }) (v := ?_) rfl (by kernel_rfl) (by kernel_rfl) (by kernel_rfl) (fun _ _ _ h => h) (Or.inl ⟨by rfl, ?_⟩) hHeld ?_
  rotate_left
  · intro w hSw; (try dsimp only at hSw); go_simp; try with_reducible rfl
  try simp only [Act.put, List.setIfInBounds_toArray, List.set_cons_zero, List.set_cons_succ]
  refine wpAnyH_take (i := 24) (oi := { dst := (some 73), op := (Op.move (Operand.tmp 72)), type := 4, pos := "law.go:25", after := #[{ on := 23, ground := Ground.data }, { on := 19, ground := Ground.chain }], guard := none }) (v := ?_) rfl (by kernel_rfl) (by kernel_rfl) (by kernel_rfl) (fun _ _ _ h => h) (Or.inl ⟨by rfl, ?_⟩) hHeld ?_
  rotate_left
  · intro w hSw; (try dsimp only at hSw); go_simp; try with_reducible rfl
  try simp only [Act.put, List.setIfInBounds_toArray, List.set_cons_zero, List.set_cons_succ]
  refine wpAnyH_take (i := 25) (oi := { dst := (some 74), op := (Op.move (Operand.tmp 8)), type := 27, pos := "law.go:25", after := #[{ on := 24, ground := Ground.guard }], guard := (some (24, true)) }) (v := ?_) rfl (by kernel_rfl) (by kernel_rfl) (by kernel_rfl) (fun _ _ _ h => h) (Or.inl ⟨by rfl, ?_⟩) hHeld ?_
  rotate_left
  · intro w hSw; (try dsimp only at hSw); go_simp; try with_reducible rfl
  try simp only [Act.put, List.setIfInBounds_toArray, List.set_cons_zero, List.set_cons_succ]
  refine wpAnyH_take (i := 26) (oi := { dst := (some 75), op := (Op.binOp BinOp.eql 27 (Operand.tmp 74) (Operand.const (Value.int IntKind.i64 0)) 27), type := 4, pos := "law.go:25", after := #[{ on := 25, ground := Ground.data }, { on := 24, ground := Ground.guard }], guard := (some (24, true)) }) (v := ?_) rfl (by kernel_rfl) (by kernel_rfl) (by kernel_rfl) (fun _ _ _ h => h) (Or.inl ⟨by rfl, ?_⟩) hHeld ?_
  rotate_left
  · intro w hSw; (try dsimp only at hSw); go_simp; try with_reducible rfl
  try simp only [Act.put, List.setIfInBounds_toArray, List.set_cons_zero, List.set_cons_succ]
  refine wpAnyH_take (i := 27) (oi := { dst := (some 76), op := (Op.pick (Operand.tmp 73) (Operand.tmp 75) (Operand.const (Value.bool false))), type := 4, pos := "law.go:25", after := #[{ on := 24, ground := Ground.data }, { on := 26, ground := Ground.data }], guard := none }) (v := ?_) rfl (by kernel_rfl) (by kernel_rfl) (by kernel_rfl) (fun _ _ _ h => h) (Or.inl ⟨by rfl, ?_⟩) hHeld ?_
  rotate_left
  · intro w hSw; (try dsimp only at hSw); go_simp; try with_reducible rfl
  try simp only [Act.put, List.setIfInBounds_toArray, List.set_cons_zero, List.set_cons_succ]
  refine wpAnyH_take (i := 28) (oi := { dst := (some 77), op := (Op.move (Operand.tmp 76)), type := 4, pos := "law.go:25", after := #[{ on := 27, ground := Ground.data }, { on := 24, ground := Ground.chain }], guard := none }) (v := ?_) rfl (by kernel_rfl) (by kernel_rfl) (by kernel_rfl) (fun _ _ _ h => h) (Or.inl ⟨by rfl, ?_⟩) hHeld ?_
  rotate_left
  · intro w hSw; (try dsimp only at hSw); go_simp; try with_reducible rfl
  try simp only [Act.put, List.setIfInBounds_toArray, List.set_cons_zero, List.set_cons_succ]
  refine wpAnyH_take (i := 29) (oi := { dst := (some 78), op := (Op.move (Operand.tmp 10)), type := 27, pos := "law.go:25", after := #[{ on := 28, ground := Ground.guard }], guard := (some (28, true)) }) (v := ?_) rfl (by kernel_rfl) (by kernel_rfl) (by kernel_rfl) (fun _ _ _ h => h) (Or.inl ⟨by rfl, ?_⟩) hHeld ?_
  rotate_left
  · intro w hSw; (try dsimp only at hSw); go_simp; try with_reducible rfl
  try simp only [Act.put, List.setIfInBounds_toArray, List.set_cons_zero, List.set_cons_succ]
  refine wpAnyH_take (i := 30) (oi := { dst := (some 79), op := (Op.binOp BinOp.eql 27 (Operand.tmp 78) (Operand.const (Value.int IntKind.i64 9)) 27), type := 4, pos := "law.go:25", after := #[{ on := 29, ground := Ground.data }, { on := 28, ground := Ground.guard }], guard := (some (28, true)) }) (v := ?_) rfl (by kernel_rfl) (by kernel_rfl) (by kernel_rfl) (fun _ _ _ h => h) (Or.inl ⟨by rfl, ?_⟩) hHeld ?_
  rotate_left
  · intro w hSw; (try dsimp only at hSw); go_simp; try with_reducible rfl
  try simp only [Act.put, List.setIfInBounds_toArray, List.set_cons_zero, List.set_cons_succ]
  refine wpAnyH_take (i := 31) (oi := { dst := (some 80), op := (Op.pick (Operand.tmp 77) (Operand.tmp 79) (Operand.const (Value.bool false))), type := 4, pos := "law.go:25", after := #[{ on := 28, ground := Ground.data }, { on := 30, ground := Ground.data }], guard := none }) (v := ?_) rfl (by kernel_rfl) (by kernel_rfl) (by kernel_rfl) (fun _ _ _ h => h) (Or.inl ⟨by rfl, ?_⟩) hHeld ?_
  rotate_left
  · intro w hSw; (try dsimp only at hSw); go_simp; try with_reducible rfl
  try simp only [Act.put, List.setIfInBounds_toArray, List.set_cons_zero, List.set_cons_succ]
  refine wpAnyH_take (i := 32) (oi := { dst := (some 81), op := (Op.move (Operand.tmp 80)), type := 4, pos := "law.go:25", after := #[{ on := 31, ground := Ground.data }, { on := 28, ground := Ground.chain }], guard := none }) (v := ?_) rfl (by kernel_rfl) (by kernel_rfl) (by kernel_rfl) (fun _ _ _ h => h) (Or.inl ⟨by rfl, ?_⟩) hHeld ?_
  rotate_left
  · intro w hSw; (try dsimp only at hSw); go_simp; try with_reducible rfl
  try simp only [Act.put, List.setIfInBounds_toArray, List.set_cons_zero, List.set_cons_succ]
  refine wpAnyH_take (i := 33) (oi := { dst := (some 82), op := (Op.move (Operand.tmp 12)), type := 27, pos := "law.go:25", after := #[{ on := 32, ground := Ground.guard }], guard := (some (32, true)) }) (v := ?_) rfl (by kernel_rfl) (by kernel_rfl) (by kernel_rfl) (fun _ _ _ h => h) (Or.inl ⟨by rfl, ?_⟩) hHeld ?_
  rotate_left
  · intro w hSw; (try dsimp only at hSw); go_simp; try with_reducible rfl
  try simp only [Act.put, List.setIfInBounds_toArray, List.set_cons_zero, List.set_cons_succ]
  refine wpAnyH_take (i := 34) (oi := { dst := (some 83), op := (Op.binOp BinOp.eql 27 (Operand.tmp 82) (Operand.const (Value.int IntKind.i64 9)) 27), type := 4, pos := "law.go:25", after := #[{ on := 33, ground := Ground.data }, { on := 32, ground := Ground.guard }], guard := (some (32, true)) }) (v := ?_) rfl (by kernel_rfl) (by kernel_rfl) (by kernel_rfl) (fun _ _ _ h => h) (Or.inl ⟨by rfl, ?_⟩) hHeld ?_
  rotate_left
  · intro w hSw; (try dsimp only at hSw); go_simp; try with_reducible rfl
  try simp only [Act.put, List.setIfInBounds_toArray, List.set_cons_zero, List.set_cons_succ]
  refine wpAnyH_take (i := 35) (oi := { dst := (some 84), op := (Op.pick (Operand.tmp 81) (Operand.tmp 83) (Operand.const (Value.bool false))), type := 4, pos := "law.go:25", after := #[{ on := 32, ground := Ground.data }, { on := 34, ground := Ground.data }], guard := none }) (v := ?_) rfl (by kernel_rfl) (by kernel_rfl) (by kernel_rfl) (fun _ _ _ h => h) (Or.inl ⟨by rfl, ?_⟩) hHeld ?_
  rotate_left
  · intro w hSw; (try dsimp only at hSw); go_simp; try with_reducible rfl
  try simp only [Act.put, List.setIfInBounds_toArray, List.set_cons_zero, List.set_cons_succ]
  refine wpAnyH_take (i := 36) (oi := { dst := (some 0), op := (Op.assign (Operand.tmp 84)), type := 4, pos := "law.go:25", after := #[{ on := 35, ground := Ground.data }, { on := 32, ground := Ground.chain }, { on := 0, ground := Ground.phase }, { on := 1, ground := Ground.phase }, { on := 2, ground := Ground.phase }, { on := 3, ground := Ground.phase }, { on := 4, ground := Ground.phase }, { on := 5, ground := Ground.phase }, { on := 6, ground := Ground.phase }, { on := 7, ground := Ground.phase }, { on := 8, ground := Ground.phase }, { on := 9, ground := Ground.phase }, { on := 10, ground := Ground.phase }, { on := 11, ground := Ground.phase }, { on := 12, ground := Ground.phase }, { on := 13, ground := Ground.phase }, { on := 14, ground := Ground.phase }, { on := 15, ground := Ground.phase }, { on := 16, ground := Ground.phase }, { on := 17, ground := Ground.phase }, { on := 18, ground := Ground.phase }, { on := 19, ground := Ground.phase }, { on := 20, ground := Ground.phase }, { on := 21, ground := Ground.phase }, { on := 22, ground := Ground.phase }, { on := 23, ground := Ground.phase }, { on := 24, ground := Ground.phase }, { on := 25, ground := Ground.phase }, { on := 26, ground := Ground.phase }, { on := 27, ground := Ground.phase }, { on := 28, ground := Ground.phase }, { on := 29, ground := Ground.phase }, { on := 30, ground := Ground.phase }, { on := 31, ground := Ground.phase }, { on := 32, ground := Ground.phase }, { on := 33, ground := Ground.phase }, { on := 34, ground := Ground.phase }, { on := 35, ground := Ground.phase }], guard := none }) (v := ?_) rfl (by kernel_rfl) (by kernel_rfl) (by kernel_rfl) (fun _ _ _ h => h) (Or.inl ⟨by rfl, ?_⟩) hHeld ?_
  rotate_left
  · intro w hSw; (try dsimp only at hSw); go_simp; try with_reducible rfl
  try simp only [Act.put, List.setIfInBounds_toArray, List.set_cons_zero, List.set_cons_succ]
  refine wpAnyH_done (by kernel_rfl) ?_ _
  go_wp2_with fail
  go_ret
  exact ⟨rfl, below_step HB17.out (HQ.out _ hHeld)⟩
end Go.Proofs.Yteogfjhmjlelnaa.G
