/- The law MemBack of mem is true: its walk. No condition. -/
import Derived.Test.YteogfjhmjlelnaaMu
import Derived.Test.YteogfjhmjlelnaaMv
set_option linter.unusedVariables false
set_option linter.unusedSimpArgs false
namespace Go.Proofs.Yteogfjhmjlelnaa.G
open Go.RowKit Go.Proofs.Yteogfjhmjlelnaa.B Go.Proofs.YteogfjhmjlelnaaW.PrintWords Go.Proofs.YteogfjhmjlelnaaW.PrintLast Go.Proofs.YteogfjhmjlelnaaW.PrintMore

theorem ba_a (N : Nat) (hN : N ≤ 255) : allocS [] 0 N true = (one 0 (List.replicate N z1), 1, 0) := by
  unfold allocS
  rw [if_neg (by simp; omega)]
  rfl
theorem pw_box0 {W : World} {g t : Nat} {a b c : Value} (h : W.heap[g]? = some (.cells #[a, b, c] t (0, 0))) : W.cell? ⟨g, 0, none⟩ = some a := (cell3 h).1
theorem pw_box1 {W : World} {g t : Nat} {a b c : Value} (h : W.heap[g]? = some (.cells #[a, b, c] t (0, 0))) : W.cell? ⟨g, 1, none⟩ = some b := (cell3 h).2.1
theorem pw_box2 {W : World} {g t : Nat} {a b c : Value} (h : W.heap[g]? = some (.cells #[a, b, c] t (0, 0))) : W.cell? ⟨g, 2, none⟩ = some c := (cell3 h).2.2
set_option maxRecDepth 100000 in
set_option maxHeartbeats 16000000 in
theorem MemBack_unwell (N : Nat) (hN : N ≤ 255) (n k : Int) (v : Vl) (o : Int) (hn : -9223372036854775808 ≤ v.n ∧ v.n ≤ 9223372036854775807) (w : World) (hw : ¬ Well v) : Calls Try.prog 3 #[.int .u8 N, .int .i64 n, .int .i64 k, .agg #[.int .i64 v.n, .int .i64 v.b, .int .i64 v.f], .int .i64 o] w fun e w' => e = .returned (.bool true) ∧ Below w.heap.size w w' := by
  have HB := Aside0.mk (below_alloc (Below.refl w.heap.size w) (.cells #[.int .i64 v.n, .int .i64 v.b, .int .i64 v.f] 23))
  have HX := Aside0.mk (blk_new w (.cells #[.int .i64 v.n, .int .i64 v.b, .int .i64 v.f] 23))
  go_enter Try.func3, Try.ntmps3
  go_upto_region 1 with (fail)
  generalize w.alloc (.cells #[.int .i64 v.n, .int .i64 v.b, .int .i64 v.f] 23) = wn at HB HX ⊢
  have hsz : IntKind.i64.wrap (N : Int) = N := by rw [IntKind.wrap_i64]; omega
  go_upto_region 4 with (first | (go_at_call 10; refine (shown_calls _).mono ?_; rintro e wn ⟨rfl, hk⟩; replace HX := Aside0.mk (blk_below HX.out hk); replace HB := Aside0.mk (below_step HB.out hk); clear hk) | (go_at_call 11; refine (Live.new _ HB.out).mono ?_; rintro e wn ⟨rfl, hL, hk⟩; replace HX := Aside0.mk (blk_below HX.out hk); have HL := Aside0.mk hL; clear hL hk) | (go_at_call 12; refine (HL.out.alloc (by decide) 0 N true _ (ba_a N hN)).mono ?_; rintro e wn ⟨rfl, gs1, hL, hk⟩; replace HX := Aside0.mk (HL.out.box HX.out hk); replace HL := Aside0.mk hL; clear hL hk))
  clear HB
  have hx := cell3 HX.out
  go_upto_region 5 with (first | (go_at_call 13; refine (well_no v _ hw).mono ?_; rintro e wn ⟨rfl, hk⟩; replace HL := Aside0.mk (HL.out.low hk); clear hk))
  go_wp2_with fail
  go_ret
  exact ⟨rfl, HL.out.below⟩
set_option maxRecDepth 100000 in
set_option maxHeartbeats 16000000 in
theorem MemBack_no (N : Nat) (hN : N ≤ 255) (n k : Int) (v : Vl) (o : Int) (hn : -9223372036854775808 ≤ v.n ∧ v.n ≤ 9223372036854775807) (w : World) (hw : Well v) (was : Vl) (f : Int) (hwas : loadS (one 0 (List.replicate N z1)) (vat o) 1 = (was, f)) (s2 : List Mb) (er : Int) (her : (er != 0) = true) (hst : storeS (one 0 (List.replicate N z1)) (vat n) k v = (s2, er)) : Calls Try.prog 3 #[.int .u8 N, .int .i64 n, .int .i64 k, .agg #[.int .i64 v.n, .int .i64 v.b, .int .i64 v.f], .int .i64 o] w fun e w' => e = .returned (.bool true) ∧ Below w.heap.size w w' := by
  have HWAS := Aside0.mk hwas
  have HST := Aside0.mk hst
  have HW := Aside0.mk hw
  clear hwas hst hw
  have HB := Aside0.mk (below_alloc (Below.refl w.heap.size w) (.cells #[.int .i64 v.n, .int .i64 v.b, .int .i64 v.f] 23))
  have HX := Aside0.mk (blk_new w (.cells #[.int .i64 v.n, .int .i64 v.b, .int .i64 v.f] 23))
  go_enter Try.func3, Try.ntmps3
  go_upto_region 1 with (fail)
  generalize w.alloc (.cells #[.int .i64 v.n, .int .i64 v.b, .int .i64 v.f] 23) = wn at HB HX ⊢
  have hsz : IntKind.i64.wrap (N : Int) = N := by rw [IntKind.wrap_i64]; omega
  go_upto_region 4 with (first | (go_at_call 10; refine (shown_calls _).mono ?_; rintro e wn ⟨rfl, hk⟩; replace HX := Aside0.mk (blk_below HX.out hk); replace HB := Aside0.mk (below_step HB.out hk); clear hk) | (go_at_call 11; refine (Live.new _ HB.out).mono ?_; rintro e wn ⟨rfl, hL, hk⟩; replace HX := Aside0.mk (blk_below HX.out hk); have HL := Aside0.mk hL; clear hL hk) | (go_at_call 12; refine (HL.out.alloc (by decide) 0 N true _ (ba_a N hN)).mono ?_; rintro e wn ⟨rfl, gs1, hL, hk⟩; replace HX := Aside0.mk (HL.out.box HX.out hk); replace HL := Aside0.mk hL; clear hL hk))
  clear HB
  have hx := cell3 HX.out
  go_upto_region 6 with (first | (go_at_call 13; refine (well_yes v _ HW.out).mono ?_; rintro e wn ⟨rfl, hk⟩; replace HX := Aside0.mk (blk_below HX.out hk); replace HL := Aside0.mk (HL.out.low hk); clear hk))
  clear hx
  go_upto_region 7 with (first | (go_at_call 15; refine (at_calls _ _).mono ?_; rintro e wn ⟨rfl, hk⟩; replace HX := Aside0.mk (blk_below HX.out hk); replace HL := Aside0.mk (HL.out.low hk); clear hk) | (go_at_call 14; refine (HL.out.load (vat o) 1 _ HWAS.out).mono ?_; rintro e wn ⟨rfl, hL, hk⟩; replace HX := Aside0.mk (blk_below HX.out hk); replace HL := Aside0.mk hL; clear hL hk))
  have hk := below_alloc (Below.refl wn.heap.size wn) (.cells #[.int .i64 was.n, .int .i64 was.b, .int .i64 was.f] 23)
  replace HX := Aside0.mk (blk_below HX.out hk)
  have HX15 := Aside0.mk (blk_new wn (.cells #[.int .i64 was.n, .int .i64 was.b, .int .i64 was.f] 23))
  replace HL := Aside0.mk (HL.out.low hk)
  clear hk
  generalize wn.heap.size = g15 at HX15 ⊢
  generalize wn.alloc (.cells #[.int .i64 was.n, .int .i64 was.b, .int .i64 was.f] 23) = wn at HL HX HX15 ⊢
  have HLD := Aside0.mk (HL.out.low (below_drew (Below.refl _ _)))
  have HXD : Aside0 (wn.drew.heap[w.heap.size]? = some (.cells #[.int .i64 v.n, .int .i64 v.b, .int .i64 v.f] 23)) := HX
  have hx := cell3 HX.out
  have hS : (wn.cell? ⟨w.heap.size, 0, none⟩ = some (.int .i64 v.n) ∧ wn.cell? ⟨w.heap.size, 1, none⟩ = some (.int .i64 v.b) ∧ wn.cell? ⟨w.heap.size, 2, none⟩ = some (.int .i64 v.f)) := ⟨hx.1, hx.2.1, hx.2.2⟩
  clear hx
  have HK := Aside0.mk (show ∀ Wa Wb : World, Below Wa.heap.size Wa Wb → (Wa.cell? ⟨w.heap.size, 0, none⟩ = some (.int .i64 v.n) ∧ Wa.cell? ⟨w.heap.size, 1, none⟩ = some (.int .i64 v.b) ∧ Wa.cell? ⟨w.heap.size, 2, none⟩ = some (.int .i64 v.f)) → (Wb.cell? ⟨w.heap.size, 0, none⟩ = some (.int .i64 v.n) ∧ Wb.cell? ⟨w.heap.size, 1, none⟩ = some (.int .i64 v.b) ∧ Wb.cell? ⟨w.heap.size, 2, none⟩ = some (.int .i64 v.f)) from fun _ _ hb h => ⟨pw_cell_below hb h.1, pw_cell_below hb h.2.1, pw_cell_below hb h.2.2⟩)
  refine wp_region_held_drew (S := fun w' => w'.cell? ⟨w.heap.size, 0, none⟩ = some (.int .i64 v.n) ∧ w'.cell? ⟨w.heap.size, 1, none⟩ = some (.int .i64 v.b) ∧ w'.cell? ⟨w.heap.size, 2, none⟩ = some (.int .i64 v.f)) (by kernel_rfl) ⟨hS.1, hS.2.1, hS.2.2⟩ (fun hHeld => ?_)
  refine wpAnyH_take (i := 0) (oi := { dst := (some 50), op := (Op.move (Operand.tmp 12)), type := 25, pos := "law.go:112", after := #[], guard := none }) (v := ?_) rfl (by kernel_rfl) (by kernel_rfl) (by kernel_rfl) (fun _ _ _ h => h) (Or.inl ⟨by rfl, ?_⟩) hHeld ?_
  rotate_left
  · intro w hSw; (try dsimp only at hSw); go_simp; try with_reducible rfl
  try simp only [Act.put, List.setIfInBounds_toArray, List.set_cons_zero, List.set_cons_succ]
  refine wpAnyH_take (i := 1) (oi := { dst := (some 51), op := (Op.move (Operand.tmp 1)), type := 2, pos := "law.go:112", after := #[], guard := none }) (v := ?_) rfl (by kernel_rfl) (by kernel_rfl) (by kernel_rfl) (fun _ _ _ h => h) (Or.inl ⟨by rfl, ?_⟩) hHeld ?_
  rotate_left
  · intro w hSw; (try dsimp only at hSw); go_simp; try with_reducible rfl
  try simp only [Act.put, List.setIfInBounds_toArray, List.set_cons_zero, List.set_cons_succ]
  refine wpAnyH_take (i := 3) (oi := { dst := (some 53), op := (Op.move (Operand.tmp 2)), type := 3, pos := "law.go:112", after := #[], guard := none }) (v := ?_) rfl (by kernel_rfl) (by kernel_rfl) (by kernel_rfl) (fun _ _ _ h => h) (Or.inl ⟨by rfl, ?_⟩) hHeld ?_
  rotate_left
  · intro w hSw; (try dsimp only at hSw); go_simp; try with_reducible rfl
  try simp only [Act.put, List.setIfInBounds_toArray, List.set_cons_zero, List.set_cons_succ]
  refine wpAnyH_take (i := 4) (oi := { dst := (some 54), op := (Op.load 23 (Operand.tmp 8)), type := 23, pos := "law.go:112", after := #[], guard := none }) (v := ?_) rfl (by kernel_rfl) (by kernel_rfl) (by kernel_rfl) (fun _ _ _ h => h) (Or.inl ⟨by rfl, ?_⟩) hHeld ?_
  rotate_left
  · intro w hSw; (try dsimp only at hSw); go_simp; try with_reducible rfl
  try simp only [Act.put, List.setIfInBounds_toArray, List.set_cons_zero, List.set_cons_succ]
  refine wpAnyH_ready (rs := [2]) (by kernel_rfl) (by simp) ?_
  refine AllReadyH.cons (o := { dst := (some 52), op := (Op.call { callee := (Callee.value (Operand.func 15)), args := #[(Operand.tmp 51)], argTypes := #[2] }), type := 23, pos := "law.go:112", after := #[{ on := 1, ground := Ground.data }], guard := none }) rfl (fun K hK => ?_) AllReadyH.nil
  go_simp
  refine (at_calls n _).mono ?_
  rintro e w5 ⟨rfl, hb2⟩
  refine hK.out _ _ (HK.out _ _ hb2 hHeld) (fun hHeld => ?_)
  clear hK K
  try simp only [Act.put, List.setIfInBounds_toArray, List.set_cons_zero, List.set_cons_succ]
  refine wpAnyH_ready (rs := [5]) (by kernel_rfl) (by simp) ?_
  refine AllReadyH.cons (o := { dst := (some 55), op := (Op.call { callee := (Callee.value (Operand.func 16)), args := #[(Operand.tmp 50), (Operand.tmp 52), (Operand.tmp 53), (Operand.tmp 54)], argTypes := #[25, 23, 3, 23] }), type := 27, pos := "law.go:112", after := #[{ on := 0, ground := Ground.data }, { on := 2, ground := Ground.data }, { on := 3, ground := Ground.data }, { on := 4, ground := Ground.data }, { on := 2, ground := Ground.chain }], guard := none }) rfl (fun K hK => ?_) AllReadyH.nil
  go_simp
  refine ((HLD.out.low hb2).store (vat n) k v _ HST.out).mono ?_
  rintro e w6 ⟨rfl, hL6, hk6⟩
  refine hK.out _ _ (⟨pw_box0 ((HLD.out.low hb2).box (blk_below HXD.out hb2) hk6), pw_box1 ((HLD.out.low hb2).box (blk_below HXD.out hb2) hk6), pw_box2 ((HLD.out.low hb2).box (blk_below HXD.out hb2) hk6)⟩) (fun hHeld => ?_)
  clear hK K
  try simp only [Act.put, List.setIfInBounds_toArray, List.set_cons_zero, List.set_cons_succ]
  refine wpAnyH_take (i := 6) (oi := { dst := (some 56), op := (Op.binOp BinOp.neq 27 (Operand.tmp 55) (Operand.const (Value.int IntKind.i64 0)) 27), type := 4, pos := "law.go:112", after := #[{ on := 5, ground := Ground.data }], guard := none }) (v := ?_) rfl (by kernel_rfl) (by kernel_rfl) (by kernel_rfl) (fun _ _ _ h => h) (Or.inl ⟨by rfl, ?_⟩) hHeld ?_
  rotate_left
  · intro w hSw; (try dsimp only at hSw); go_simp; try with_reducible rfl
  try simp only [Act.put, List.setIfInBounds_toArray, List.set_cons_zero, List.set_cons_succ]
  refine wpAnyH_done (by kernel_rfl) ?_ _
  go_wp2_with fail
  go_ret
  exact ⟨rfl, hL6.below⟩
set_option maxRecDepth 100000 in
set_option maxHeartbeats 32000000 in
theorem MemBack_yes (N : Nat) (hN : N ≤ 255) (n k : Int) (v : Vl) (o : Int) (hn : -9223372036854775808 ≤ v.n ∧ v.n ≤ 9223372036854775807) (w : World) (hw : Well v) (s2 : List Mb) (hst : storeS (one 0 (List.replicate N z1)) (vat n) k v = (s2, 0)) : Calls Try.prog 3 #[.int .u8 N, .int .i64 n, .int .i64 k, .agg #[.int .i64 v.n, .int .i64 v.b, .int .i64 v.f], .int .i64 o] w fun e w' => e = .returned (.bool true) ∧ Below w.heap.size w w' := by
  obtain ⟨hk, h0, h1, hback, f, is, hwas, his, hout⟩ := back_law (other := o) (by omega) hw hn hst
  have HD : Aside0 ((0 < v.b ∧ backV k v = v) ∨ (v.b ≤ 0 ∧ (k == 8) = true ∧ backV k v = v) ∨ (v.b ≤ 0 ∧ (k == 8) = false ∧ (k == 1) = true ∧ backV k v = ⟨v.n % 256, 0, 0⟩) ∨ (v.b ≤ 0 ∧ (k == 8) = false ∧ (k == 1) = false ∧ backV k v = ⟨wrap32 v.n, 0, 0⟩)) := Aside0.mk (by
    unfold backV
    by_cases hb : 0 < v.b
    · exact .inl ⟨hb, by rw [if_pos (.inl hb)]⟩
    · rcases hk with rfl | rfl | rfl
      · exact .inr (.inr (.inl ⟨by omega, rfl, rfl, by rw [if_neg (by omega), if_pos rfl]⟩))
      · exact .inr (.inr (.inr ⟨by omega, rfl, rfl, by rw [if_neg (by omega), if_neg (by decide)]⟩))
      · exact .inr (.inl ⟨by omega, rfl, by rw [if_pos (.inr rfl)]⟩))
  have HWAS := Aside0.mk hwas
  have HST := Aside0.mk hst
  have HBK := Aside0.mk hback
  have HIS := Aside0.mk his
  have HOUT := Aside0.mk hout
  have HW := Aside0.mk hw
  have H01 := Aside0.mk (show 0 ≤ n ∧ n + k ≤ 4096 ∧ 0 < k from ⟨h0, h1, by omega⟩)
  clear hwas hst hw hback his hout hk h0 h1
  generalize hx : backV k v = x at HD HBK
  clear hx
  have HB := Aside0.mk (below_alloc (Below.refl w.heap.size w) (.cells #[.int .i64 v.n, .int .i64 v.b, .int .i64 v.f] 23))
  have HX := Aside0.mk (blk_new w (.cells #[.int .i64 v.n, .int .i64 v.b, .int .i64 v.f] 23))
  go_enter Try.func3, Try.ntmps3
  go_upto_region 1 with (fail)
  generalize w.alloc (.cells #[.int .i64 v.n, .int .i64 v.b, .int .i64 v.f] 23) = wn at HB HX ⊢
  have hsz : IntKind.i64.wrap (N : Int) = N := by rw [IntKind.wrap_i64]; omega
  go_upto_region 4 with (first | (go_at_call 10; refine (shown_calls _).mono ?_; rintro e wn ⟨rfl, hk⟩; replace HX := Aside0.mk (blk_below HX.out hk); replace HB := Aside0.mk (below_step HB.out hk); clear hk) | (go_at_call 11; refine (Live.new _ HB.out).mono ?_; rintro e wn ⟨rfl, hL, hk⟩; replace HX := Aside0.mk (blk_below HX.out hk); have HL := Aside0.mk hL; clear hL hk) | (go_at_call 12; refine (HL.out.alloc (by decide) 0 N true _ (ba_a N hN)).mono ?_; rintro e wn ⟨rfl, gs1, hL, hk⟩; replace HX := Aside0.mk (HL.out.box HX.out hk); replace HL := Aside0.mk hL; clear hL hk))
  clear HB
  have hx := cell3 HX.out
  go_upto_region 6 with (first | (go_at_call 13; refine (well_yes v _ HW.out).mono ?_; rintro e wn ⟨rfl, hk⟩; replace HX := Aside0.mk (blk_below HX.out hk); replace HL := Aside0.mk (HL.out.low hk); clear hk))
  clear hx
  go_upto_region 7 with (first | (go_at_call 15; refine (at_calls _ _).mono ?_; rintro e wn ⟨rfl, hk⟩; replace HX := Aside0.mk (blk_below HX.out hk); replace HL := Aside0.mk (HL.out.low hk); clear hk) | (go_at_call 14; refine (HL.out.load (vat o) 1 _ HWAS.out).mono ?_; rintro e wn ⟨rfl, hL, hk⟩; replace HX := Aside0.mk (blk_below HX.out hk); replace HL := Aside0.mk hL; clear hL hk))
  have hk := below_alloc (Below.refl wn.heap.size wn) (.cells #[.int .i64 0, .int .i64 0, .int .i64 0] 23)
  replace HX := Aside0.mk (blk_below HX.out hk)
  have HY := Aside0.mk (blk_new wn (.cells #[.int .i64 0, .int .i64 0, .int .i64 0] 23))
  replace HL := Aside0.mk (HL.out.low hk)
  clear hk
  generalize wn.heap.size = g15 at HY ⊢
  generalize wn.alloc (.cells #[.int .i64 0, .int .i64 0, .int .i64 0] 23) = wn at HL HX HY ⊢
  have HLD := Aside0.mk (HL.out.low (below_drew (Below.refl _ _)))
  have HXD : Aside0 (wn.drew.heap[w.heap.size]? = some (.cells #[.int .i64 v.n, .int .i64 v.b, .int .i64 v.f] 23)) := HX
  have HYD : Aside0 (wn.drew.heap[g15]? = some (.cells #[.int .i64 0, .int .i64 0, .int .i64 0] 23)) := HY
  have hx := cell3 HX.out
  have hS : (wn.cell? ⟨w.heap.size, 0, none⟩ = some (.int .i64 v.n) ∧ wn.cell? ⟨w.heap.size, 1, none⟩ = some (.int .i64 v.b) ∧ wn.cell? ⟨w.heap.size, 2, none⟩ = some (.int .i64 v.f)) := ⟨hx.1, hx.2.1, hx.2.2⟩
  clear hx
  have HK := Aside0.mk (show ∀ Wa Wb : World, Below Wa.heap.size Wa Wb → (Wa.cell? ⟨w.heap.size, 0, none⟩ = some (.int .i64 v.n) ∧ Wa.cell? ⟨w.heap.size, 1, none⟩ = some (.int .i64 v.b) ∧ Wa.cell? ⟨w.heap.size, 2, none⟩ = some (.int .i64 v.f)) → (Wb.cell? ⟨w.heap.size, 0, none⟩ = some (.int .i64 v.n) ∧ Wb.cell? ⟨w.heap.size, 1, none⟩ = some (.int .i64 v.b) ∧ Wb.cell? ⟨w.heap.size, 2, none⟩ = some (.int .i64 v.f)) from fun _ _ hb h => ⟨pw_cell_below hb h.1, pw_cell_below hb h.2.1, pw_cell_below hb h.2.2⟩)
  refine wp_region_held_drew (S := fun w' => w'.cell? ⟨w.heap.size, 0, none⟩ = some (.int .i64 v.n) ∧ w'.cell? ⟨w.heap.size, 1, none⟩ = some (.int .i64 v.b) ∧ w'.cell? ⟨w.heap.size, 2, none⟩ = some (.int .i64 v.f)) (by kernel_rfl) ⟨hS.1, hS.2.1, hS.2.2⟩ (fun hHeld => ?_)
  refine wpAnyH_take (i := 0) (oi := { dst := (some 50), op := (Op.move (Operand.tmp 12)), type := 25, pos := "law.go:112", after := #[], guard := none }) (v := ?_) rfl (by kernel_rfl) (by kernel_rfl) (by kernel_rfl) (fun _ _ _ h => h) (Or.inl ⟨by rfl, ?_⟩) hHeld ?_
  rotate_left
  · intro w hSw; (try dsimp only at hSw); go_simp; try with_reducible rfl
  try simp only [Act.put, List.setIfInBounds_toArray, List.set_cons_zero, List.set_cons_succ]
  refine wpAnyH_take (i := 1) (oi := { dst := (some 51), op := (Op.move (Operand.tmp 1)), type := 2, pos := "law.go:112", after := #[], guard := none }) (v := ?_) rfl (by kernel_rfl) (by kernel_rfl) (by kernel_rfl) (fun _ _ _ h => h) (Or.inl ⟨by rfl, ?_⟩) hHeld ?_
  rotate_left
  · intro w hSw; (try dsimp only at hSw); go_simp; try with_reducible rfl
  try simp only [Act.put, List.setIfInBounds_toArray, List.set_cons_zero, List.set_cons_succ]
  refine wpAnyH_take (i := 3) (oi := { dst := (some 53), op := (Op.move (Operand.tmp 2)), type := 3, pos := "law.go:112", after := #[], guard := none }) (v := ?_) rfl (by kernel_rfl) (by kernel_rfl) (by kernel_rfl) (fun _ _ _ h => h) (Or.inl ⟨by rfl, ?_⟩) hHeld ?_
  rotate_left
  · intro w hSw; (try dsimp only at hSw); go_simp; try with_reducible rfl
  try simp only [Act.put, List.setIfInBounds_toArray, List.set_cons_zero, List.set_cons_succ]
  refine wpAnyH_take (i := 4) (oi := { dst := (some 54), op := (Op.load 23 (Operand.tmp 8)), type := 23, pos := "law.go:112", after := #[], guard := none }) (v := ?_) rfl (by kernel_rfl) (by kernel_rfl) (by kernel_rfl) (fun _ _ _ h => h) (Or.inl ⟨by rfl, ?_⟩) hHeld ?_
  rotate_left
  · intro w hSw; (try dsimp only at hSw); go_simp; try with_reducible rfl
  try simp only [Act.put, List.setIfInBounds_toArray, List.set_cons_zero, List.set_cons_succ]
  refine wpAnyH_ready (rs := [2]) (by kernel_rfl) (by simp) ?_
  refine AllReadyH.cons (o := { dst := (some 52), op := (Op.call { callee := (Callee.value (Operand.func 15)), args := #[(Operand.tmp 51)], argTypes := #[2] }), type := 23, pos := "law.go:112", after := #[{ on := 1, ground := Ground.data }], guard := none }) rfl (fun K hK => ?_) AllReadyH.nil
  go_simp
  refine (at_calls n _).mono ?_
  rintro e w5 ⟨rfl, hb2⟩
  refine hK.out _ _ (HK.out _ _ hb2 hHeld) (fun hHeld => ?_)
  clear hK K
  try simp only [Act.put, List.setIfInBounds_toArray, List.set_cons_zero, List.set_cons_succ]
  refine wpAnyH_ready (rs := [5]) (by kernel_rfl) (by simp) ?_
  refine AllReadyH.cons (o := { dst := (some 55), op := (Op.call { callee := (Callee.value (Operand.func 16)), args := #[(Operand.tmp 50), (Operand.tmp 52), (Operand.tmp 53), (Operand.tmp 54)], argTypes := #[25, 23, 3, 23] }), type := 27, pos := "law.go:112", after := #[{ on := 0, ground := Ground.data }, { on := 2, ground := Ground.data }, { on := 3, ground := Ground.data }, { on := 4, ground := Ground.data }, { on := 2, ground := Ground.chain }], guard := none }) rfl (fun K hK => ?_) AllReadyH.nil
  go_simp
  refine ((HLD.out.low hb2).store (vat n) k v _ HST.out).mono ?_
  rintro e w6 ⟨rfl, hL6, hk6⟩
  refine hK.out _ _ (⟨pw_box0 ((HLD.out.low hb2).box (blk_below HXD.out hb2) hk6), pw_box1 ((HLD.out.low hb2).box (blk_below HXD.out hb2) hk6), pw_box2 ((HLD.out.low hb2).box (blk_below HXD.out hb2) hk6)⟩) (fun hHeld => ?_)
  clear hK K
  try simp only [Act.put, List.setIfInBounds_toArray, List.set_cons_zero, List.set_cons_succ]
  refine wpAnyH_take (i := 6) (oi := { dst := (some 56), op := (Op.binOp BinOp.neq 27 (Operand.tmp 55) (Operand.const (Value.int IntKind.i64 0)) 27), type := 4, pos := "law.go:112", after := #[{ on := 5, ground := Ground.data }], guard := none }) (v := ?_) rfl (by kernel_rfl) (by kernel_rfl) (by kernel_rfl) (fun _ _ _ h => h) (Or.inl ⟨by rfl, ?_⟩) hHeld ?_
  rotate_left
  · intro w hSw; (try dsimp only at hSw); go_simp; try with_reducible rfl
  try simp only [Act.put, List.setIfInBounds_toArray, List.set_cons_zero, List.set_cons_succ]
  refine wpAnyH_done (by kernel_rfl) ?_ _
  have HX6 := Aside0.mk ((HLD.out.low hb2).box (blk_below HXD.out hb2) hk6)
  have HY6 := Aside0.mk ((HLD.out.low hb2).box (blk_below HYD.out hb2) hk6)
  have HL6 := Aside0.mk hL6
  clear hHeld hL6 hk6 hb2 HXD HYD HLD HL HX HY
  have HL := HL6
  have HX := HX6
  have HY := HY6
  clear HL6 HX6 HY6
  clear hS HK
  go_upto_region 9 with (fail)
  go_upto_region 10 with (first | (go_at_call 15; refine (at_calls _ _).mono ?_; rintro e wn ⟨rfl, hk⟩; replace HX := Aside0.mk (blk_below HX.out hk); replace HY := Aside0.mk (blk_below HY.out hk); replace HL := Aside0.mk (HL.out.low hk); clear hk) | (go_at_call 14; refine (HL.out.load (vat n) k _ HBK.out).mono ?_; rintro e wn ⟨rfl, hL, hk⟩; replace HX := Aside0.mk (blk_below HX.out hk); replace HY := Aside0.mk (blk_below HY.out hk); replace HL := Aside0.mk hL; clear hL hk))
  have hk := below_alloc (Below.refl wn.heap.size wn) (.cells #[.int .i64 x.n, .int .i64 x.b, .int .i64 x.f] 23)
  replace HX := Aside0.mk (blk_below HX.out hk)
  replace HY := Aside0.mk (blk_below HY.out hk)
  have HZ := Aside0.mk (blk_new wn (.cells #[.int .i64 x.n, .int .i64 x.b, .int .i64 x.f] 23))
  replace HL := Aside0.mk (HL.out.low hk)
  clear hk
  generalize wn.heap.size = g17 at HZ ⊢
  generalize wn.alloc (.cells #[.int .i64 x.n, .int .i64 x.b, .int .i64 x.f] 23) = wn at HL HX HY HZ ⊢
  go_upto_region 11 with (first | (go_at_call 15; refine (at_calls _ _).mono ?_; rintro e wn ⟨rfl, hk⟩; replace HX := Aside0.mk (blk_below HX.out hk); replace HY := Aside0.mk (blk_below HY.out hk); replace HZ := Aside0.mk (blk_below HZ.out hk); replace HL := Aside0.mk (HL.out.low hk); clear hk) | (go_at_call 14; refine (HL.out.load (vat o) 1 _ HIS.out).mono ?_; rintro e wn ⟨rfl, hL, hk⟩; replace HX := Aside0.mk (blk_below HX.out hk); replace HY := Aside0.mk (blk_below HY.out hk); replace HZ := Aside0.mk (blk_below HZ.out hk); replace HL := Aside0.mk hL; clear hL hk))
  have hk := below_alloc (Below.refl wn.heap.size wn) (.cells #[.int .i64 is.n, .int .i64 is.b, .int .i64 is.f] 23)
  replace HX := Aside0.mk (blk_below HX.out hk)
  replace HY := Aside0.mk (blk_below HY.out hk)
  replace HZ := Aside0.mk (blk_below HZ.out hk)
  have HV := Aside0.mk (blk_new wn (.cells #[.int .i64 is.n, .int .i64 is.b, .int .i64 is.f] 23))
  replace HL := Aside0.mk (HL.out.low hk)
  clear hk
  generalize wn.heap.size = g19 at HV ⊢
  generalize wn.alloc (.cells #[.int .i64 is.n, .int .i64 is.b, .int .i64 is.f] 23) = wn at HL HX HY HZ HV ⊢
  have hx := cell3 HX.out
  have hy := cell3 HY.out
  have hz := cell3 HZ.out
  have hv := cell3 HV.out
  clear HX HY HZ HV
  have hnk : wrap64 (n + k) = n + k := by have := H01.out; unfold wrap64; omega
  have hnk2 : IntKind.i64.wrap (n + k) = n + k := by have := H01.out; rw [IntKind.wrap_i64]; omega
  by_cases h1 : o < n
  · have his := HOUT.out (.inl h1)
    subst his
    clear HOUT HIS
    go_upto_region 13 with (fail)
    rcases HD.out with ⟨d1, d2⟩ | ⟨d1, d2, d3⟩ | ⟨d1, d2, d3, d4⟩ | ⟨d1, d2, d3, d4⟩
    · subst d2
      go_wp2_with fail
      go_ret
      exact ⟨rfl, HL.out.below⟩
    · subst d3
      go_wp2_with fail
      go_ret
      exact ⟨rfl, HL.out.below⟩
    · have hw1 : wrap64 (v.n % 256) = v.n % 256 := by unfold wrap64; omega
      have hw2 : IntKind.i64.wrap (v.n % 256) = v.n % 256 := by rw [IntKind.wrap_i64]; omega
      subst d4
      go_wp2_with fail
      go_ret
      exact ⟨rfl, HL.out.below⟩
    · have hw1 : wrap64 (wrap32 v.n) = wrap32 v.n := by unfold wrap64 wrap32; omega
      have hw2 : IntKind.i64.wrap (wrap32 v.n) = wrap32 v.n := by rw [IntKind.wrap_i64]; unfold wrap32; omega
      subst d4
      go_wp2_with fail
      go_ret
      exact ⟨rfl, HL.out.below⟩
  · have h2 : n ≤ o := by omega
    clear h1
    by_cases h3 : n + k ≤ o
    · have his := HOUT.out (.inr h3)
      subst his
      clear HOUT HIS
      go_upto_region 13 with (fail)
      rcases HD.out with ⟨d1, d2⟩ | ⟨d1, d2, d3⟩ | ⟨d1, d2, d3, d4⟩ | ⟨d1, d2, d3, d4⟩
      · subst d2
        go_wp2_with fail
        go_ret
        exact ⟨rfl, HL.out.below⟩
      · subst d3
        go_wp2_with fail
        go_ret
        exact ⟨rfl, HL.out.below⟩
      · have hw1 : wrap64 (v.n % 256) = v.n % 256 := by unfold wrap64; omega
        have hw2 : IntKind.i64.wrap (v.n % 256) = v.n % 256 := by rw [IntKind.wrap_i64]; omega
        subst d4
        go_wp2_with fail
        go_ret
        exact ⟨rfl, HL.out.below⟩
      · have hw1 : wrap64 (wrap32 v.n) = wrap32 v.n := by unfold wrap64 wrap32; omega
        have hw2 : IntKind.i64.wrap (wrap32 v.n) = wrap32 v.n := by rw [IntKind.wrap_i64]; unfold wrap32; omega
        subst d4
        go_wp2_with fail
        go_ret
        exact ⟨rfl, HL.out.below⟩
    · have h4 : o < n + k := by omega
      clear h3
      go_upto_region 13 with (fail)
      rcases HD.out with ⟨d1, d2⟩ | ⟨d1, d2, d3⟩ | ⟨d1, d2, d3, d4⟩ | ⟨d1, d2, d3, d4⟩
      · subst d2
        go_wp2_with fail
        go_ret
        exact ⟨rfl, HL.out.below⟩
      · subst d3
        go_wp2_with fail
        go_ret
        exact ⟨rfl, HL.out.below⟩
      · have hw1 : wrap64 (v.n % 256) = v.n % 256 := by unfold wrap64; omega
        have hw2 : IntKind.i64.wrap (v.n % 256) = v.n % 256 := by rw [IntKind.wrap_i64]; omega
        subst d4
        go_wp2_with fail
        go_ret
        exact ⟨rfl, HL.out.below⟩
      · have hw1 : wrap64 (wrap32 v.n) = wrap32 v.n := by unfold wrap64 wrap32; omega
        have hw2 : IntKind.i64.wrap (wrap32 v.n) = wrap32 v.n := by rw [IntKind.wrap_i64]; unfold wrap32; omega
        subst d4
        go_wp2_with fail
        go_ret
        exact ⟨rfl, HL.out.below⟩
theorem MemBack_calls (N : Nat) (hN : N ≤ 255) (n k : Int) (v : Vl) (o : Int) (hn : -9223372036854775808 ≤ v.n ∧ v.n ≤ 9223372036854775807) (w : World) : Calls Try.prog 3 #[.int .u8 N, .int .i64 n, .int .i64 k, .agg #[.int .i64 v.n, .int .i64 v.b, .int .i64 v.f], .int .i64 o] w fun e w' => e = .returned (.bool true) ∧ Below w.heap.size w w' := by
  by_cases hw : Well v
  · rcases hst : storeS (one 0 (List.replicate N z1)) (vat n) k v with ⟨s2, er⟩
    by_cases her : er = 0
    · subst her
      exact MemBack_yes N hN n k v o hn w hw s2 hst
    · exact MemBack_no N hN n k v o hn w hw _ _ rfl s2 er (bne_iff_ne.mpr her) hst
  · exact MemBack_unwell N hN n k v o hn w hw
theorem MemBack_row (a n k : Int) (v : Vl) (o : Int) (ha : 0 ≤ a ∧ a ≤ 255) (hn : -9223372036854775808 ≤ v.n ∧ v.n ≤ 9223372036854775807) (w : World) : Calls Try.prog 3 #[.int .u8 a, .int .i64 n, .int .i64 k, .agg #[.int .i64 v.n, .int .i64 v.b, .int .i64 v.f], .int .i64 o] w fun e w' => e = .returned (.bool true) ∧ Below w.heap.size w w' := by
  obtain ⟨N, rfl⟩ := Int.eq_ofNat_of_zero_le ha.1
  exact MemBack_calls N (by omega) n k v o hn w
end Go.Proofs.Yteogfjhmjlelnaa.G
