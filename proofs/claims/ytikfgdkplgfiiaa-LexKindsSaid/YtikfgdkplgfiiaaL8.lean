/- The law LexKinds of lex is true: its walk. No condition. -/
import Derived.Test.YtikfgdkplgfiiaaL3
import Derived.Test.YtikfgdkplgfiiaaPm
import Derived.Test.YtikfgdkplgfiiaaNd
set_option linter.unusedVariables false
set_option linter.unusedSimpArgs false
namespace Go.Proofs.Ytikfgdkplgfiiaa.G
open Go.RowKit Go.Proofs.Ytikfgdkplgfiiaa.B Go.Proofs.YtikfgdkplgfiiaaW.PrintWords Go.Proofs.YtikfgdkplgfiiaaW.PrintLast Go.Proofs.YtikfgdkplgfiiaaW.PrintMore

theorem name_c {s : ByteArray} {b : Bool} (h : nameS s.toList = b) (hs : s.size ≤ 20000) (W : World) : Calls Try.prog 15 #[.string s] W fun e w' => e = .returned (.bool b) ∧ Below W.heap.size W w' :=
  lex_Name.calls 30000 s _ W (by rw [← h]; exact name_f s (by omega) 30000 (by omega) (by decide))
theorem wordc {s : ByteArray} {b : Bool} (h : isWordS s.toList = b) (W : World) : Calls Try.prog 16 #[.string s] W fun e w' => e = .returned (.bool b) ∧ Below W.heap.size W w' := by
  rw [← h]; exact word_c rfl W
set_option maxRecDepth 100000 in
set_option maxHeartbeats 8000000 in
theorem LexKinds_walk (s : ByteArray) (w : World) (hs : s.size ≤ 140737488351232) (hg : Glob w) :
    Calls Try.prog 8 #[.string s] w fun e w' => e = .returned (.bool true) ∧ Below w.heap.size w w' := by
  have HG := Aside0.mk hg
  have HL9 := Aside0.mk (lexS_len s.toList)
  have HKP := Aside0.mk (kinds_plain s.toList)
  clear hg hs
  go_enter Try.func8, Try.ntmps8
  go_upto_region 3 with (first | (go_at_call 11; with_reducible refine (shown_calls _ HG.out).mono ?_; rintro e w1 ⟨rfl, hk⟩; have HB := Aside0.mk hk; clear hk) | (go_at_call 12; with_reducible refine (toks_const (b := s) _ (HG.out.below HB.out) rfl).mono ?_; rintro e w2 ⟨A1, c1, rfl, hR, hk⟩; have HR := Aside0.mk hR; replace HB := Aside0.mk (below_step HB.out hk); clear hR hk))
  obtain ⟨L, hL⟩ : ∃ L, (lexS s.toList).1 = L := ⟨_, rfl⟩
  obtain ⟨P, hP⟩ : ∃ P, (lexS s.toList).2.1 = P := ⟨_, rfl⟩
  obtain ⟨E, hE⟩ : ∃ E, (lexS s.toList).2.2 = E := ⟨_, rfl⟩
  rw [hL] at HR HL9 HKP ⊢
  rw [hP, hE]
  clear hL hP hE
  have hL9 : L.length ≤ 20000 := HL9.out
  go_upto_block 0 with (fail)
  go_wp2_with fail
  go_loopw [7] (fun iv wx => ∃ (i : Nat), i ≤ L.length ∧ iv = .int .i64 (i : Int) ∧ Hid (RowT wx w1.heap.size (.slice A1 L.length c1) L) ∧ Hid (Below w.heap.size w wx)) (fun iv _ => L.length - (intOf iv).toNat)
  case atStart => exact ⟨0, Nat.zero_le _, rfl, HR.out, HB.out⟩
  case round =>
    clear HR HB
    obtain ⟨i, hi, rfl, hR, hB⟩ := hrel
    have HR := Aside0.mk (show RowT wr w1.heap.size (.slice A1 L.length c1) L from hR)
    have HB : Aside0 (Below w.heap.size w wr) := Aside0.mk hB
    clear hR hB
    by_cases hlt : (i : Int) < (L.length : Int)
    · have hi1 : i < L.length := by omega
      obtain ⟨g1, c1', hf1⟩ := HR.out.form (by omega)
      injection hf1 with hA1 hn1 hc1
      subst hA1 hc1
      obtain ⟨x, hx⟩ : ∃ x, L[i]? = some x := ⟨_, List.getElem?_eq_getElem hi1⟩
      obtain ⟨tk, k1, k2, k3, k4, k5⟩ := HKP.out i x hx
      obtain ⟨tx, htx⟩ : ∃ tx, x.f2 = tx := ⟨_, rfl⟩
      have hts : tx.toList = tk := by rw [← htx, k1, toB_list]
      have HTK := Aside0.mk hts
      have HLX : Aside0 (lexS tk = ([⟨x.f0, 0, tx, x.f3⟩], 0, 0)) := Aside0.mk (by rw [k2, htx])
      have HTS : Aside0 (tx.size ≤ 20000) := Aside0.mk (by rw [← tl_len, hts]; exact k5)
      obtain ⟨b1, hb1⟩ : ∃ b, nameS tk = b := ⟨_, rfl⟩
      obtain ⟨b2, hb2⟩ : ∃ b, isWordS tk = b := ⟨_, rfl⟩
      have HNM : Aside0 (nameS tx.toList = b1) := Aside0.mk (by rw [hts, hb1])
      have HWD : Aside0 (isWordS tx.toList = b2) := Aside0.mk (by rw [hts, hb2])
      rw [hb1] at k3
      rw [hb2] at k4
      have e1 : (x.f0 == 1) = b1 := by rw [Bool.beq_eq_decide_eq]; exact k3
      have e2 : (x.f0 == 2) = b2 := by rw [Bool.beq_eq_decide_eq]; exact k4
      have e3 : (x.f0 != x.f0) = false := bne_self_eq_false _
      have e4 : (x.f3 != x.f3) = false := bne_self_eq_false _
      have e5 : (b1 != b1) = false := bne_self_eq_false _
      have e6 : (b2 != b2) = false := bne_self_eq_false _
      have HCX : Aside0 (∀ W, Below wr.heap.size wr W → W.cell? ⟨g1, i * 4, none⟩ = some (.int .i64 x.f0) ∧ W.cell? ⟨g1, i * 4 + 2, none⟩ = some (.string tx) ∧ W.cell? ⟨g1, i * 4 + 3, none⟩ = some (.int .i64 x.f3)) := Aside0.mk (fun W hb => by
        obtain ⟨x0, _, x2, x3⟩ := (HR.out.below hb).cells i x hx
        rw [htx] at x2
        exact ⟨x0, x2, x3⟩)
      have hwi : IntKind.i64.wrap ((i : Int) + 1) = (i : Int) + 1 := by rw [IntKind.wrap_i64]; omega
      obtain ⟨x0, x2, x3⟩ := HCX.out _ (Below.refl _ _)
      clear hx k1 k2 k3 k4 k5 htx hts hb1 hb2 hn1
      go_upto_region 7 with (go_at_call 12; with_reducible refine (toks_const (b := tx) _ (HG.out.below HB.out) HTK.out).mono ?_; rintro e w3 ⟨A2, c2, rfl, hR2, hk⟩; rw [HLX.out] at hR2 ⊢; have HR2 := Aside0.mk hR2; have HW := Aside0.mk hk; clear hR2 hk)
      obtain ⟨g2, c2', hf2⟩ := HR2.out.form (by simp)
      injection hf2 with hA2 hn2 hc2
      subst hA2 hc2
      obtain ⟨y0, y1, _, y3⟩ := HR2.out.cells 0 _ rfl
      have z0 : w3.cell? ⟨g2, 0, none⟩ = some (.int .i64 x.f0) := y0
      have z1 : w3.cell? ⟨g2, 1, none⟩ = some (.int .i64 0) := y1
      have z3 : w3.cell? ⟨g2, 3, none⟩ = some (.int .i64 x.f3) := y3
      clear x0 x2 x3 y0 y1 y3
      obtain ⟨x0, x2, x3⟩ := HCX.out _ HW.out
      go_still (by kernel_rfl)
      change Exit.then _ _ _ _ w3.drew
      replace HR := Aside0.mk (HR.out.below (below_drew HW.out))
      replace HB := Aside0.mk (below_drew (below_step HB.out HW.out))
      replace HCX := Aside0.mk (fun W hb => HCX.out W (below_step (below_drew HW.out) hb))
      clear HW HR2 z0 z1 z3 x0 x2 x3 hn2
      generalize w3.drew = wr at HR HB HCX ⊢
      obtain ⟨x0, x2, _⟩ := HCX.out _ (Below.refl _ _)
      have HK := Aside0.mk (fun (W : World) (hb : Below wr.heap.size wr W) => And.intro (HCX.out W hb).1 (And.intro (HCX.out W hb).2.1 hb))
      go_upto_region 9 with (fail)
      refine wp_region_held_drew (S := fun w' => w'.cell? ⟨g1, i * 4, none⟩ = some (.int .i64 x.f0) ∧ w'.cell? ⟨g1, i * 4 + 2, none⟩ = some (.string tx) ∧ Below wr.heap.size wr w') (by kernel_rfl) ⟨x0, x2, below_drew (Below.refl _ _)⟩ (fun hHeld => ?_)
      refine wpAnyH_take (i := 0) (oi := { dst := (some 72), op := (Op.move (Operand.tmp 4)), type := 23, pos := "law.go:136", after := #[], guard := none }) (v := ?_) rfl (by kernel_rfl) (by kernel_rfl) (by kernel_rfl) (fun _ _ _ h => h) (Or.inl ⟨by rfl, ?_⟩) hHeld ?_
      rotate_left
      · intro w hSw; (try dsimp only at hSw); go_simp; try with_reducible rfl
      try simp only [Act.put, List.setIfInBounds_toArray, List.set_cons_zero, List.set_cons_succ]
      refine wpAnyH_take (i := 1) (oi := { dst := (some 73), op := (Op.move (Operand.tmp 7)), type := 3, pos := "law.go:136", after := #[], guard := none }) (v := ?_) rfl (by kernel_rfl) (by kernel_rfl) (by kernel_rfl) (fun _ _ _ h => h) (Or.inl ⟨by rfl, ?_⟩) hHeld ?_
      rotate_left
      · intro w hSw; (try dsimp only at hSw); go_simp; try with_reducible rfl
      try simp only [Act.put, List.setIfInBounds_toArray, List.set_cons_zero, List.set_cons_succ]
      refine wpAnyH_take (i := 2) (oi := { dst := (some 74), op := (Op.indexAddr 23 (Operand.tmp 72) (Operand.tmp 73)), type := 0, pos := "law.go:136", after := #[{ on := 0, ground := Ground.data }, { on := 1, ground := Ground.data }], guard := none }) (v := ?_) rfl (by kernel_rfl) (by kernel_rfl) (by kernel_rfl) (fun _ _ _ h => h) (Or.inl ⟨by rfl, ?_⟩) hHeld ?_
      rotate_left
      · intro w hSw; (try dsimp only at hSw); go_simp; try with_reducible rfl
      try simp only [Act.put, List.setIfInBounds_toArray, List.set_cons_zero, List.set_cons_succ]
      refine wpAnyH_take (i := 3) (oi := { dst := (some 75), op := (Op.fieldAddr 32 (Operand.tmp 74) 0), type := 0, pos := "law.go:136", after := #[{ on := 2, ground := Ground.data }], guard := none }) (v := ?_) rfl (by kernel_rfl) (by kernel_rfl) (by kernel_rfl) (fun _ _ _ h => h) (Or.inl ⟨by rfl, ?_⟩) hHeld ?_
      rotate_left
      · intro w hSw; (try dsimp only at hSw); go_simp; try with_reducible rfl
      try simp only [Act.put, List.setIfInBounds_toArray, List.set_cons_zero, List.set_cons_succ]
      refine wpAnyH_take (i := 4) (oi := { dst := (some 76), op := (Op.load 3 (Operand.tmp 75)), type := 3, pos := "law.go:136", after := #[{ on := 3, ground := Ground.data }], guard := none }) (v := ?_) rfl (by kernel_rfl) (by kernel_rfl) (by kernel_rfl) (fun _ _ _ h => h) (Or.inl ⟨by rfl, ?_⟩) hHeld ?_
      rotate_left
      · intro w hSw; (try dsimp only at hSw); go_simp; try with_reducible rfl
      try simp only [Act.put, List.setIfInBounds_toArray, List.set_cons_zero, List.set_cons_succ]
      refine wpAnyH_take (i := 5) (oi := { dst := (some 77), op := (Op.binOp BinOp.eql 3 (Operand.tmp 76) (Operand.const (Value.int IntKind.i64 1)) 3), type := 4, pos := "law.go:136", after := #[{ on := 4, ground := Ground.data }], guard := none }) (v := ?_) rfl (by kernel_rfl) (by kernel_rfl) (by kernel_rfl) (fun _ _ _ h => h) (Or.inl ⟨by rfl, ?_⟩) hHeld ?_
      rotate_left
      · intro w hSw; (try dsimp only at hSw); go_simp; try with_reducible rfl
      try simp only [Act.put, List.setIfInBounds_toArray, List.set_cons_zero, List.set_cons_succ]
      refine wpAnyH_take (i := 6) (oi := { dst := (some 78), op := (Op.move (Operand.tmp 4)), type := 23, pos := "law.go:136", after := #[], guard := none }) (v := ?_) rfl (by kernel_rfl) (by kernel_rfl) (by kernel_rfl) (fun _ _ _ h => h) (Or.inl ⟨by rfl, ?_⟩) hHeld ?_
      rotate_left
      · intro w hSw; (try dsimp only at hSw); go_simp; try with_reducible rfl
      try simp only [Act.put, List.setIfInBounds_toArray, List.set_cons_zero, List.set_cons_succ]
      refine wpAnyH_take (i := 7) (oi := { dst := (some 79), op := (Op.move (Operand.tmp 7)), type := 3, pos := "law.go:136", after := #[], guard := none }) (v := ?_) rfl (by kernel_rfl) (by kernel_rfl) (by kernel_rfl) (fun _ _ _ h => h) (Or.inl ⟨by rfl, ?_⟩) hHeld ?_
      rotate_left
      · intro w hSw; (try dsimp only at hSw); go_simp; try with_reducible rfl
      try simp only [Act.put, List.setIfInBounds_toArray, List.set_cons_zero, List.set_cons_succ]
      refine wpAnyH_take (i := 8) (oi := { dst := (some 80), op := (Op.indexAddr 23 (Operand.tmp 78) (Operand.tmp 79)), type := 0, pos := "law.go:136", after := #[{ on := 6, ground := Ground.data }, { on := 7, ground := Ground.data }], guard := none }) (v := ?_) rfl (by kernel_rfl) (by kernel_rfl) (by kernel_rfl) (fun _ _ _ h => h) (Or.inl ⟨by rfl, ?_⟩) hHeld ?_
      rotate_left
      · intro w hSw; (try dsimp only at hSw); go_simp; try with_reducible rfl
      try simp only [Act.put, List.setIfInBounds_toArray, List.set_cons_zero, List.set_cons_succ]
      refine wpAnyH_take (i := 9) (oi := { dst := (some 81), op := (Op.fieldAddr 32 (Operand.tmp 80) 2), type := 0, pos := "law.go:136", after := #[{ on := 8, ground := Ground.data }], guard := none }) (v := ?_) rfl (by kernel_rfl) (by kernel_rfl) (by kernel_rfl) (fun _ _ _ h => h) (Or.inl ⟨by rfl, ?_⟩) hHeld ?_
      rotate_left
      · intro w hSw; (try dsimp only at hSw); go_simp; try with_reducible rfl
      try simp only [Act.put, List.setIfInBounds_toArray, List.set_cons_zero, List.set_cons_succ]
      refine wpAnyH_take (i := 10) (oi := { dst := (some 82), op := (Op.load 9 (Operand.tmp 81)), type := 9, pos := "law.go:136", after := #[{ on := 9, ground := Ground.data }], guard := none }) (v := ?_) rfl (by kernel_rfl) (by kernel_rfl) (by kernel_rfl) (fun _ _ _ h => h) (Or.inl ⟨by rfl, ?_⟩) hHeld ?_
      rotate_left
      · intro w hSw; (try dsimp only at hSw); go_simp; try with_reducible rfl
      try simp only [Act.put, List.setIfInBounds_toArray, List.set_cons_zero, List.set_cons_succ]
      refine wpAnyH_ready (rs := [11]) (by kernel_rfl) (by simp) ?_
      refine AllReadyH.cons (o := { dst := (some 83), op := (Op.call { callee := (Callee.value (Operand.func 15)), args := #[(Operand.tmp 82)], argTypes := #[9] }), type := 4, pos := "law.go:136", after := #[{ on := 10, ground := Ground.data }], guard := none }) rfl (fun K hK => ?_) AllReadyH.nil
      go_simp
      refine (name_c HNM.out HTS.out _).mono ?_
      rintro e w4 ⟨rfl, hb2⟩
      go_wp2_with fail
      refine hK.out _ _ (HK.out _ (below_step hHeld.2.2 hb2)) (fun hHeld => ?_)
      clear hK K
      try simp only [Act.put, List.setIfInBounds_toArray, List.set_cons_zero, List.set_cons_succ]
      refine wpAnyH_take (i := 12) (oi := { dst := (some 84), op := (Op.binOp BinOp.neq 4 (Operand.tmp 77) (Operand.tmp 83) 4), type := 4, pos := "law.go:136", after := #[{ on := 5, ground := Ground.data }, { on := 11, ground := Ground.data }], guard := none }) (v := ?_) rfl (by kernel_rfl) (by kernel_rfl) (by kernel_rfl) (fun _ _ _ h => h) (Or.inl ⟨by rfl, ?_⟩) hHeld ?_
      rotate_left
      · intro w hSw; (try dsimp only at hSw); go_simp; try with_reducible rfl
      try simp only [Act.put, List.setIfInBounds_toArray, List.set_cons_zero, List.set_cons_succ]
      refine wpAnyH_take (i := 13) (oi := { dst := (some 85), op := (Op.move (Operand.tmp 84)), type := 4, pos := "law.go:136", after := #[{ on := 12, ground := Ground.data }, { on := 11, ground := Ground.chain }], guard := none }) (v := ?_) rfl (by kernel_rfl) (by kernel_rfl) (by kernel_rfl) (fun _ _ _ h => h) (Or.inl ⟨by rfl, ?_⟩) hHeld ?_
      rotate_left
      · intro w hSw; (try dsimp only at hSw); go_simp; try with_reducible rfl
      try simp only [Act.put, List.setIfInBounds_toArray, List.set_cons_zero, List.set_cons_succ]
      refine wpAnyH_take (i := 14) (oi := { dst := (some 86), op := (Op.move (Operand.tmp 4)), type := 23, pos := "law.go:136", after := #[{ on := 13, ground := Ground.guard }], guard := (some (13, false)) }) (v := ?_) rfl (by kernel_rfl) (by kernel_rfl) (by kernel_rfl) (fun _ _ _ h => h) (Or.inl ⟨by rfl, ?_⟩) hHeld ?_
      rotate_left
      · intro w hSw; (try dsimp only at hSw); go_simp; try with_reducible rfl
      try simp only [Act.put, List.setIfInBounds_toArray, List.set_cons_zero, List.set_cons_succ]
      refine wpAnyH_take (i := 15) (oi := { dst := (some 87), op := (Op.move (Operand.tmp 7)), type := 3, pos := "law.go:136", after := #[{ on := 13, ground := Ground.guard }], guard := (some (13, false)) }) (v := ?_) rfl (by kernel_rfl) (by kernel_rfl) (by kernel_rfl) (fun _ _ _ h => h) (Or.inl ⟨by rfl, ?_⟩) hHeld ?_
      rotate_left
      · intro w hSw; (try dsimp only at hSw); go_simp; try with_reducible rfl
      try simp only [Act.put, List.setIfInBounds_toArray, List.set_cons_zero, List.set_cons_succ]
      refine wpAnyH_take (i := 16) (oi := { dst := (some 88), op := (Op.indexAddr 23 (Operand.tmp 86) (Operand.tmp 87)), type := 0, pos := "law.go:136", after := #[{ on := 14, ground := Ground.data }, { on := 15, ground := Ground.data }, { on := 13, ground := Ground.guard }], guard := (some (13, false)) }) (v := ?_) rfl (by kernel_rfl) (by kernel_rfl) (by kernel_rfl) (fun _ _ _ h => h) (Or.inl ⟨by rfl, ?_⟩) hHeld ?_
      rotate_left
      · intro w hSw; (try dsimp only at hSw); go_simp; try with_reducible rfl
      try simp only [Act.put, List.setIfInBounds_toArray, List.set_cons_zero, List.set_cons_succ]
      refine wpAnyH_take (i := 17) (oi := { dst := (some 89), op := (Op.fieldAddr 32 (Operand.tmp 88) 0), type := 0, pos := "law.go:136", after := #[{ on := 16, ground := Ground.data }, { on := 13, ground := Ground.guard }], guard := (some (13, false)) }) (v := ?_) rfl (by kernel_rfl) (by kernel_rfl) (by kernel_rfl) (fun _ _ _ h => h) (Or.inl ⟨by rfl, ?_⟩) hHeld ?_
      rotate_left
      · intro w hSw; (try dsimp only at hSw); go_simp; try with_reducible rfl
      try simp only [Act.put, List.setIfInBounds_toArray, List.set_cons_zero, List.set_cons_succ]
      refine wpAnyH_take (i := 18) (oi := { dst := (some 90), op := (Op.load 3 (Operand.tmp 89)), type := 3, pos := "law.go:136", after := #[{ on := 17, ground := Ground.data }, { on := 13, ground := Ground.guard }], guard := (some (13, false)) }) (v := ?_) rfl (by kernel_rfl) (by kernel_rfl) (by kernel_rfl) (fun _ _ _ h => h) (Or.inl ⟨by rfl, ?_⟩) hHeld ?_
      rotate_left
      · intro w hSw; (try dsimp only at hSw); go_simp; try with_reducible rfl
      try simp only [Act.put, List.setIfInBounds_toArray, List.set_cons_zero, List.set_cons_succ]
      refine wpAnyH_take (i := 19) (oi := { dst := (some 91), op := (Op.binOp BinOp.eql 3 (Operand.tmp 90) (Operand.const (Value.int IntKind.i64 2)) 3), type := 4, pos := "law.go:136", after := #[{ on := 18, ground := Ground.data }, { on := 13, ground := Ground.guard }], guard := (some (13, false)) }) (v := ?_) rfl (by kernel_rfl) (by kernel_rfl) (by kernel_rfl) (fun _ _ _ h => h) (Or.inl ⟨by rfl, ?_⟩) hHeld ?_
      rotate_left
      · intro w hSw; (try dsimp only at hSw); go_simp; try with_reducible rfl
      try simp only [Act.put, List.setIfInBounds_toArray, List.set_cons_zero, List.set_cons_succ]
      refine wpAnyH_take (i := 20) (oi := { dst := (some 92), op := (Op.move (Operand.tmp 4)), type := 23, pos := "law.go:136", after := #[{ on := 13, ground := Ground.guard }], guard := (some (13, false)) }) (v := ?_) rfl (by kernel_rfl) (by kernel_rfl) (by kernel_rfl) (fun _ _ _ h => h) (Or.inl ⟨by rfl, ?_⟩) hHeld ?_
      rotate_left
      · intro w hSw; (try dsimp only at hSw); go_simp; try with_reducible rfl
      try simp only [Act.put, List.setIfInBounds_toArray, List.set_cons_zero, List.set_cons_succ]
      refine wpAnyH_take (i := 21) (oi := { dst := (some 93), op := (Op.move (Operand.tmp 7)), type := 3, pos := "law.go:136", after := #[{ on := 13, ground := Ground.guard }], guard := (some (13, false)) }) (v := ?_) rfl (by kernel_rfl) (by kernel_rfl) (by kernel_rfl) (fun _ _ _ h => h) (Or.inl ⟨by rfl, ?_⟩) hHeld ?_
      rotate_left
      · intro w hSw; (try dsimp only at hSw); go_simp; try with_reducible rfl
      try simp only [Act.put, List.setIfInBounds_toArray, List.set_cons_zero, List.set_cons_succ]
      refine wpAnyH_take (i := 22) (oi := { dst := (some 94), op := (Op.indexAddr 23 (Operand.tmp 92) (Operand.tmp 93)), type := 0, pos := "law.go:136", after := #[{ on := 20, ground := Ground.data }, { on := 21, ground := Ground.data }, { on := 13, ground := Ground.guard }], guard := (some (13, false)) }) (v := ?_) rfl (by kernel_rfl) (by kernel_rfl) (by kernel_rfl) (fun _ _ _ h => h) (Or.inl ⟨by rfl, ?_⟩) hHeld ?_
      rotate_left
      · intro w hSw; (try dsimp only at hSw); go_simp; try with_reducible rfl
      try simp only [Act.put, List.setIfInBounds_toArray, List.set_cons_zero, List.set_cons_succ]
      refine wpAnyH_take (i := 23) (oi := { dst := (some 95), op := (Op.fieldAddr 32 (Operand.tmp 94) 2), type := 0, pos := "law.go:136", after := #[{ on := 22, ground := Ground.data }, { on := 13, ground := Ground.guard }], guard := (some (13, false)) }) (v := ?_) rfl (by kernel_rfl) (by kernel_rfl) (by kernel_rfl) (fun _ _ _ h => h) (Or.inl ⟨by rfl, ?_⟩) hHeld ?_
      rotate_left
      · intro w hSw; (try dsimp only at hSw); go_simp; try with_reducible rfl
      try simp only [Act.put, List.setIfInBounds_toArray, List.set_cons_zero, List.set_cons_succ]
      refine wpAnyH_take (i := 24) (oi := { dst := (some 96), op := (Op.load 9 (Operand.tmp 95)), type := 9, pos := "law.go:136", after := #[{ on := 23, ground := Ground.data }, { on := 13, ground := Ground.guard }], guard := (some (13, false)) }) (v := ?_) rfl (by kernel_rfl) (by kernel_rfl) (by kernel_rfl) (fun _ _ _ h => h) (Or.inl ⟨by rfl, ?_⟩) hHeld ?_
      rotate_left
      · intro w hSw; (try dsimp only at hSw); go_simp; try with_reducible rfl
      try simp only [Act.put, List.setIfInBounds_toArray, List.set_cons_zero, List.set_cons_succ]
      refine wpAnyH_ready (rs := [25]) (by kernel_rfl) (by simp) ?_
      refine AllReadyH.cons (o := { dst := (some 97), op := (Op.call { callee := (Callee.value (Operand.func 16)), args := #[(Operand.tmp 96)], argTypes := #[9] }), type := 4, pos := "law.go:136", after := #[{ on := 24, ground := Ground.data }, { on := 13, ground := Ground.chain }, { on := 13, ground := Ground.guard }], guard := (some (13, false)) }) rfl (fun K hK => ?_) AllReadyH.nil
      go_simp
      refine (wordc HWD.out _).mono ?_
      rintro e w4 ⟨rfl, hb2⟩
      go_wp2_with fail
      refine hK.out _ _ (HK.out _ (below_step hHeld.2.2 hb2)) (fun hHeld => ?_)
      clear hK K
      try simp only [Act.put, List.setIfInBounds_toArray, List.set_cons_zero, List.set_cons_succ]
      refine wpAnyH_take (i := 26) (oi := { dst := (some 98), op := (Op.binOp BinOp.neq 4 (Operand.tmp 91) (Operand.tmp 97) 4), type := 4, pos := "law.go:136", after := #[{ on := 19, ground := Ground.data }, { on := 25, ground := Ground.data }, { on := 13, ground := Ground.guard }], guard := (some (13, false)) }) (v := ?_) rfl (by kernel_rfl) (by kernel_rfl) (by kernel_rfl) (fun _ _ _ h => h) (Or.inl ⟨by rfl, ?_⟩) hHeld ?_
      rotate_left
      · intro w hSw; (try dsimp only at hSw); go_simp; try with_reducible rfl
      try simp only [Act.put, List.setIfInBounds_toArray, List.set_cons_zero, List.set_cons_succ]
      refine wpAnyH_take (i := 27) (oi := { dst := (some 99), op := (Op.pick (Operand.tmp 85) (Operand.const (Value.bool true)) (Operand.tmp 98)), type := 4, pos := "law.go:136", after := #[{ on := 13, ground := Ground.data }, { on := 26, ground := Ground.data }], guard := none }) (v := ?_) rfl (by kernel_rfl) (by kernel_rfl) (by kernel_rfl) (fun _ _ _ h => h) (Or.inl ⟨by rfl, ?_⟩) hHeld ?_
      rotate_left
      · intro w hSw; (try dsimp only at hSw); go_simp; try with_reducible rfl
      try simp only [Act.put, List.setIfInBounds_toArray, List.set_cons_zero, List.set_cons_succ]
      refine wpAnyH_done (by kernel_rfl) ?_ _
      replace HR := Aside0.mk (HR.out.below hHeld.2.2)
      replace HB := Aside0.mk (below_step HB.out hHeld.2.2)
      clear hHeld
      go_wp2_with fail
      go_roundw
      case rel => exact ⟨i + 1, by omega, by go_num, HR.out, HB.out⟩
      case measure => simp [intOf]; omega
    · go_wp2_with fail
      go_ret
      exact ⟨rfl, HB.out⟩
end Go.Proofs.Ytikfgdkplgfiiaa.G
