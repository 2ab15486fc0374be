/- The walk of the law MemMoves of mem, where the bytes may not be. No condition. -/
import Derived.Test.YteogfjhmjlelnaaL5
set_option linter.unusedVariables false
set_option linter.unusedSimpArgs false
namespace Go.Proofs.Yteogfjhmjlelnaa.G
open Go.RowKit Go.Proofs.Yteogfjhmjlelnaa.B Go.Proofs.YteogfjhmjlelnaaW.PrintWords Go.Proofs.YteogfjhmjlelnaaW.PrintLast Go.Proofs.YteogfjhmjlelnaaW.PrintMore

set_option maxRecDepth 100000 in
set_option maxHeartbeats 16000000 in
theorem MemMoves_na (A : Option Addr) (cp : Nat) (xs : List Int) (F G M a b k : Nat) (hF : F % 65 = a) (hG : G % 65 = b) (hM : M % 66 = k) (hak : 64 < a + k) (w : World) (hcp : xs.length ≤ cp) (hC : Kd.C (Kd.int .u8) w A xs.length xs) (hxs : ∀ x ∈ xs, 0 ≤ x ∧ x ≤ 255) (hlen : xs.length ≤ 9223372036854775807) (hB : F ≤ 255 ∧ G ≤ 255 ∧ M ≤ 255) :
    Calls Try.prog 5 #[.slice A xs.length cp, .int .u8 F, .int .u8 G, .int .u8 M] w fun e w' => e = .returned (.bool true) ∧ Below w.heap.size w w' := by
  have HC := Aside0.mk hC
  have HXS := Aside0.mk hxs
  have HFGM := Aside0.mk (show F % 65 = a ∧ G % 65 = b ∧ M % 66 = k from ⟨hF, hG, hM⟩)
  have HAK := Aside0.mk hak
  have HBB := Aside0.mk hB
  have ha : a < 65 := by omega
  have hb65 : b < 65 := by omega
  have hk66 : k < 66 := by omega
  clear hC hxs hF hG hM hak hB
  go_enter Try.func5, Try.ntmps5
  go_upto_block 0 with (first | (go_at_call 10; refine (shown_calls _).mono ?_; rintro e w1 ⟨rfl, hk⟩; have HB := Aside0.mk hk; clear hk) | (go_at_call 11; refine (Live.new _ HB.out).mono ?_; rintro e wn ⟨rfl, hL, hk⟩; have HL := Aside0.mk hL; clear hL hk) | (go_at_call 12; refine (HL.out.alloc (by decide) 0 64 true _ mo_a).mono ?_; rintro e wn ⟨rfl, gs1, hL, hk⟩; replace HL := Aside0.mk hL; clear hL hk))
  clear HB
  have HL0 := HL
  clear HL
  go_wp2_with fail
  go_loopw [13] (fun i wx => ∃ j : Nat, j ≤ xs.length ∧ j ≤ 64 ∧ i = .int .i64 j ∧ Hid (Live w wx w1.heap.size gs1 (one 0 (mput xs j)))) (fun i _ => 64 - (intOf i).toNat)
  case atStart => exact ⟨0, Nat.zero_le _, Nat.zero_le _, rfl, HL0.out⟩
  case round =>
   clear HL0
   obtain ⟨j, hj, hj2, rfl, hL⟩ := hrel
   by_cases hlt : j < xs.length ∧ j < 64
   ·
    obtain ⟨hjx, hj64⟩ := hlt
    have hat := Kd.at_int HC.out (j : Int) (by omega) (by omega)
    obtain ⟨ad, rfl, hcell⟩ := hat
    rw [Int.toNat_natCast] at hcell
    obtain ⟨x, hx⟩ : ∃ x, xs[j]? = some x := ⟨_, List.getElem?_eq_getElem hjx⟩
    have HXJ := Aside0.mk hx
    rw [show rd xs (j : Int) = x by simp [rd, hx]] at hcell
    have HC0 := Aside0.mk hcell
    have hxb := HXS.out x (List.mem_of_getElem? hx)
    have hwx : IntKind.i64.wrap x = x := by rw [IntKind.wrap_i64]; omega
    have hjl : ((j : Int) < (xs.length : Int)) := by omega
    have hj64' : ((j : Int) < 64) := by omega
    have hwj : IntKind.i64.wrap ((j : Int) + 1) = (j : Int) + 1 := by rw [IntKind.wrap_i64]; omega
    have hS : (wr.cell? (ad.add j) = some (.int .u8 x) ∧ Below w.heap.size w wr) := ⟨pw_cell_below hL.out.below hcell, hL.out.below⟩
    have HLD := Aside0.mk (hL.out.low (below_drew (Below.refl _ _)))
    clear hL hx hcell hxb
    go_upto_region 9 with (fail)
    have HK := Aside0.mk (show ∀ Wa Wb : World, Below Wa.heap.size Wa Wb → (Wa.cell? (ad.add j) = some (.int .u8 x) ∧ Below w.heap.size w Wa) → (Wb.cell? (ad.add j) = some (.int .u8 x) ∧ Below w.heap.size w Wb) from fun _ _ hb h => ⟨pw_cell_below hb h.1, below_step h.2 hb⟩)
    have HQ := Aside0.mk (show ∀ Wa : World, (Wa.cell? (ad.add j) = some (.int .u8 x) ∧ Below w.heap.size w Wa) → Below w.heap.size w Wa from fun _ h => h.2)
    refine wp_region_held_drew (S := fun w' => w'.cell? (ad.add j) = some (.int .u8 x) ∧ Below w.heap.size w w') (by kernel_rfl) ⟨hS.1, below_drew hS.2⟩ (fun hHeld => ?_)
    refine wpAnyH_take (i := 0) (oi := { dst := (some 41), op := (Op.move (Operand.tmp 10)), type := 25, pos := "law.go:166", after := #[], guard := none }) (v := ?_) rfl (by kernel_rfl) (by kernel_rfl) (by kernel_rfl) (fun _ _ _ h => h) (Or.inl ⟨by rfl, ?_⟩) hHeld ?_
    rotate_left
    · intro w hSw; (try dsimp only at hSw); go_simp; try with_reducible rfl
    try simp only [Act.put, List.setIfInBounds_toArray, List.set_cons_zero, List.set_cons_succ]
    refine wpAnyH_take (i := 1) (oi := { dst := (some 42), op := (Op.move (Operand.tmp 13)), type := 3, pos := "law.go:166", after := #[], guard := none }) (v := ?_) rfl (by kernel_rfl) (by kernel_rfl) (by kernel_rfl) (fun _ _ _ h => h) (Or.inl ⟨by rfl, ?_⟩) hHeld ?_
    rotate_left
    · intro w hSw; (try dsimp only at hSw); go_simp; try with_reducible rfl
    try simp only [Act.put, List.setIfInBounds_toArray, List.set_cons_zero, List.set_cons_succ]
    refine wpAnyH_take (i := 3) (oi := { dst := (some 44), op := (Op.move (Operand.tmp 0)), type := 37, pos := "law.go:166", after := #[], guard := none }) (v := ?_) rfl (by kernel_rfl) (by kernel_rfl) (by kernel_rfl) (fun _ _ _ h => h) (Or.inl ⟨by rfl, ?_⟩) hHeld ?_
    rotate_left
    · intro w hSw; (try dsimp only at hSw); go_simp; try with_reducible rfl
    try simp only [Act.put, List.setIfInBounds_toArray, List.set_cons_zero, List.set_cons_succ]
    refine wpAnyH_take (i := 4) (oi := { dst := (some 45), op := (Op.move (Operand.tmp 13)), type := 3, pos := "law.go:166", after := #[], guard := none }) (v := ?_) rfl (by kernel_rfl) (by kernel_rfl) (by kernel_rfl) (fun _ _ _ h => h) (Or.inl ⟨by rfl, ?_⟩) hHeld ?_
    rotate_left
    · intro w hSw; (try dsimp only at hSw); go_simp; try with_reducible rfl
    try simp only [Act.put, List.setIfInBounds_toArray, List.set_cons_zero, List.set_cons_succ]
    refine wpAnyH_take (i := 5) (oi := { dst := (some 46), op := (Op.indexAddr 37 (Operand.tmp 44) (Operand.tmp 45)), type := 0, pos := "law.go:166", after := #[{ on := 3, ground := Ground.data }, { on := 4, ground := Ground.data }], guard := none }) (v := ?_) rfl (by kernel_rfl) (by kernel_rfl) (by kernel_rfl) (fun _ _ _ h => h) (Or.inl ⟨by rfl, ?_⟩) hHeld ?_
    rotate_left
    · intro w hSw; (try dsimp only at hSw); go_simp; try with_reducible rfl
    try simp only [Act.put, List.setIfInBounds_toArray, List.set_cons_zero, List.set_cons_succ]
    refine wpAnyH_take (i := 6) (oi := { dst := (some 47), op := (Op.load 5 (Operand.tmp 46)), type := 5, pos := "law.go:166", after := #[{ on := 5, ground := Ground.data }], guard := none }) (v := ?_) rfl (by kernel_rfl) (by kernel_rfl) (by kernel_rfl) (fun _ _ _ h => h) (Or.inl ⟨by rfl, ?_⟩) hHeld ?_
    rotate_left
    · intro w hSw; (try dsimp only at hSw); go_simp; try with_reducible rfl
    try simp only [Act.put, List.setIfInBounds_toArray, List.set_cons_zero, List.set_cons_succ]
    refine wpAnyH_take (i := 7) (oi := { dst := (some 48), op := (Op.convert 5 2 (Operand.tmp 47)), type := 2, pos := "law.go:166", after := #[{ on := 6, ground := Ground.data }], guard := none }) (v := ?_) rfl (by kernel_rfl) (by kernel_rfl) (by kernel_rfl) (fun _ _ _ h => h) (Or.inl ⟨by rfl, ?_⟩) hHeld ?_
    rotate_left
    · intro w hSw; (try dsimp only at hSw); go_simp; try with_reducible rfl
    try simp only [Act.put, List.setIfInBounds_toArray, List.set_cons_zero, List.set_cons_succ]
    refine wpAnyH_take (i := 8) (oi := { dst := (some 49), op := (Op.build 23 #[(0, (Operand.tmp 48))]), type := 23, pos := "law.go:166", after := #[{ on := 7, ground := Ground.data }], guard := none }) (v := ?_) rfl (by kernel_rfl) (by kernel_rfl) (by kernel_rfl) (fun _ _ _ h => h) (Or.inl ⟨by rfl, ?_⟩) hHeld ?_
    rotate_left
    · intro w hSw; (try dsimp only at hSw); go_simp; try with_reducible rfl
    try simp only [Act.put, List.setIfInBounds_toArray, List.set_cons_zero, List.set_cons_succ]
    refine wpAnyH_ready (rs := [2]) (by kernel_rfl) (by simp) ?_
    refine AllReadyH.cons (o := { dst := (some 43), op := (Op.call { callee := (Callee.value (Operand.func 15)), args := #[(Operand.tmp 42)], argTypes := #[2] }), type := 23, pos := "law.go:166", after := #[{ on := 1, ground := Ground.data }], guard := none }) rfl (fun K hK => ?_) AllReadyH.nil
    go_simp
    refine (at_calls _ _).mono ?_
    rintro e w5 ⟨rfl, hb2⟩
    refine hK.out _ _ (HK.out _ _ hb2 hHeld) (fun hHeld => ?_)
    clear hK K
    try simp only [Act.put, List.setIfInBounds_toArray, List.set_cons_zero, List.set_cons_succ]
    refine wpAnyH_ready (rs := [9]) (by kernel_rfl) (by simp) ?_
    refine AllReadyH.cons (o := { dst := (some 50), op := (Op.call { callee := (Callee.value (Operand.func 16)), args := #[(Operand.tmp 41), (Operand.tmp 43), (Operand.const (Value.int IntKind.i64 1)), (Operand.tmp 49)], argTypes := #[25, 23, 3, 23] }), type := 27, pos := "law.go:166", after := #[{ on := 0, ground := Ground.data }, { on := 2, ground := Ground.data }, { on := 8, ground := Ground.data }, { on := 2, ground := Ground.chain }], guard := none }) rfl (fun K hK => ?_) AllReadyH.nil
    go_simp
    refine ((HLD.out.low hb2).store (vat j) 1 ⟨x, 0, 0⟩ _ (mo_s hj64 HXJ.out _ rfl)).mono ?_
    rintro e w6 ⟨rfl, hL6, hk6⟩
    refine hK.out _ _ (⟨pw_cell_below hL6.below HC0.out, hL6.below⟩) (fun hHeld => ?_)
    clear hK K
    try simp only [Act.put, List.setIfInBounds_toArray, List.set_cons_zero, List.set_cons_succ]
    refine wpAnyH_take (i := 10) (oi := { dst := (some 51), op := (Op.binOp BinOp.neq 27 (Operand.tmp 50) (Operand.const (Value.int IntKind.i64 0)) 27), type := 4, pos := "law.go:166", after := #[{ on := 9, ground := Ground.data }], guard := none }) (v := ?_) rfl (by kernel_rfl) (by kernel_rfl) (by kernel_rfl) (fun _ _ _ h => h) (Or.inl ⟨by rfl, ?_⟩) hHeld ?_
    rotate_left
    · intro w hSw; (try dsimp only at hSw); go_simp; try with_reducible rfl
    try simp only [Act.put, List.setIfInBounds_toArray, List.set_cons_zero, List.set_cons_succ]
    refine wpAnyH_done (by kernel_rfl) ?_ _
    have HL6 := Aside0.mk hL6
    clear hHeld hL6 hk6 hb2 hS HK HQ
    go_wp2_with fail
    go_roundw
    case rel => exact ⟨j + 1, by omega, by omega, by go_num, HL6.out⟩
    case measure => simp [intOf]; omega
   ·
    have hor : (xs.length : Int) ≤ (j : Int) ∨ (64 : Int) ≤ (j : Int) := by omega
    have HL := Aside0.mk hL
    have hl1 := mput_len (xs := xs) hj2
    clear hL hlt
    generalize hl : mput xs j = l1 at HL hl1
    clear hl
    have HL1 := Aside0.mk hl1
    clear hl1
    have hl2 := mcopy_len (a := a) (b := b) (k := k) HL1.out
    have hcp := mo_c (a := a) (b := b) (k := k) HL1.out (by omega)
    rw [if_neg (fun hh => by have := HAK.out; omega)] at hcp
    have HMV := Aside0.mk (show ∀ i : Nat, a ≤ i → i < a + k → a + k ≤ 64 ∧ b + k ≤ 64 → (mcopy l1 a b k)[i]? = l1[b + i - a]? from fun i h1 h2 h3 => mcopy_in HL1.out h3.1 h3.2 h1 h2)
    have HOUT := Aside0.mk (show ∀ i : Nat, (¬ (a + k ≤ 64 ∧ b + k ≤ 64) ∨ i < a ∨ a + k ≤ i) → (mcopy l1 a b k)[i]? = l1[i]? from fun i h => mcopy_out HL1.out h)
    generalize mcopy l1 a b k = l2 at hl2 hcp HMV HOUT
    have HL2 := Aside0.mk hl2
    have HCP := Aside0.mk hcp
    clear hl2 hcp
    rcases hor with hor | hor
    all_goals (go_upto_region 11 with (fail))
    all_goals clear hor hj hj2
    all_goals (
      go_upto_region 12 with (first | (go_at_call 17; refine (HL.out.bytes 1 l1 (bytes_one' _)).mono ?_; rintro e wn ⟨A1, c1, rfl, hL, hK, hk⟩; replace HL := Aside0.mk hL; have HKA := Aside0.mk hK; clear hL hK hk))
      rw [HL1.out]
      go_upto_region 15 with (fail)
      rw [show (F : Int) % 65 = ((F % 65 : Nat) : Int) by omega, show (G : Int) % 65 = ((G % 65 : Nat) : Int) by omega, show (M : Int) % 66 = ((M % 66 : Nat) : Int) by omega, HFGM.out.1, HFGM.out.2.1, HFGM.out.2.2]
      go_upto_region 16 with (first | (go_at_call 15; refine (at_calls _ _).mono ?_; rintro e wn ⟨rfl, hk⟩; replace HKA := Aside0.mk (HKA.out.below hk); replace HL := Aside0.mk (HL.out.low hk); clear hk) | (go_at_call 18; refine (HL.out.copy (vat a) (vat b) k _ HCP.out).mono ?_; rintro e wn ⟨rfl, hL, hk⟩; replace HKA := Aside0.mk (HKA.out.fr hk); replace HL := Aside0.mk hL; clear hL hk))
      go_upto_region 17 with (first | (go_at_call 17; refine (HL.out.bytes 1 l2 (bytes_one' _)).mono ?_; rintro e wn ⟨A2, c2, rfl, hL, hK, hk⟩; replace HKA := Aside0.mk (HKA.out.below hk); replace HL := Aside0.mk hL; have HKB := Aside0.mk hK; clear hL hK hk))
      rw [HL2.out]
      have h1' : (64 : Int) < (a : Int) + (k : Int) := by have := HAK.out; omega
      have HOUT := Aside0.mk (show ∀ i : Nat, True → l2[i]? = l1[i]? from fun i _ => HOUT.out i (.inl (by have := HAK.out; omega)))
      have HK1 := Aside0.mk HKA.out.row
      have HK2 := Aside0.mk HKB.out.row
      have HLE := Aside0.mk HL.out.below
      clear HKA HKB HL
      go_upto_block 2 with (fail)
      go_wp2_with fail
      go_loopw [20] (fun i wx => ∃ j : Nat, j ≤ 64 ∧ i = .int .i64 j ∧ Hid (Below wn.heap.size wn wx)) (fun i _ => 64 - (intOf i).toNat)
      case atStart => exact ⟨0, Nat.zero_le _, rfl, Below.refl _ _⟩
      case round =>
        obtain ⟨j, hj, rfl, hb⟩ := hrel
        by_cases hlt : j < 64
        · obtain ⟨_, _, he1, _, hr1⟩ := (HK1.out.below hb.out).form
          rw [HL1.out] at he1
          injection he1 with he1 _ _
          subst he1
          obtain ⟨x, hx⟩ : ∃ x, l1[j]? = some x := ⟨_, List.getElem?_eq_getElem (by rw [HL1.out]; exact hlt)⟩
          obtain ⟨g1, hg1, hc1⟩ := hr1 j _ hx
          subst hg1
          have HXJ := Aside0.mk hx
          have HB := Aside0.mk hb
          have hjl : ((j : Int) < 64) := by omega
          have hwj : IntKind.i64.wrap ((j : Int) + 1) = (j : Int) + 1 := by rw [IntKind.wrap_i64]; omega
          clear hr1 hb hx
          have HXB := Aside0.mk (blk_new wr (.cells #[.int .i64 x.k, .int .u8 x.v, .int .i64 x.p.n, .int .i64 x.p.b, .int .i64 x.p.f] 42))
          have HB2 := Aside0.mk (below_alloc HB.out (.cells #[.int .i64 x.k, .int .u8 x.v, .int .i64 x.p.n, .int .i64 x.p.b, .int .i64 x.p.f] 42))
          go_upto_region 23 with (fail)
          have HG := Aside0.mk HB.out.size
          clear hc1 HB
          generalize wr.heap.size = g21 at HXB HG ⊢
          generalize wr.alloc (.cells #[.int .i64 x.k, .int .u8 x.v, .int .i64 x.p.n, .int .i64 x.p.b, .int .i64 x.p.f] 42) = W2 at HXB HB2 ⊢
          have HY : Aside0 (l2[j]? = some x) := Aside0.mk (by rw [← HXJ.out]; exact HOUT.out j (trivial))
          have hx5 := cells5 HXB.out
          have HB3 := HB2
          have HX3 := HXB
          clear HB2 HXB
          generalize W2 = W3 at HB3 HX3 hx5 ⊢
          obtain ⟨_, _, he2, _, hr2⟩ := (HK2.out.below HB3.out).form
          rw [HL2.out] at he2
          injection he2 with he2 _ _
          subst he2
          obtain ⟨g2, hg2, hc2⟩ := hr2 j _ HY.out
          subst hg2
          clear hr2
          go_upto_region 25 with (fail)
          go_still (by kernel_rfl)
          change Exit.then _ _ _ _ W3.drew
          have HBD := Aside0.mk (below_drew HB3.out)
          clear hc2 hx5
          generalize W3.drew = wd at HBD ⊢
          go_wp2_with fail
          go_roundw
          case rel => exact ⟨j + 1, by omega, by go_num, HBD.out⟩
          case measure => simp [intOf]; omega
        · obtain rfl : j = 64 := by omega
          have HB := Aside0.mk hb
          clear hb
          go_wp2_with fail
          go_ret
          exact ⟨rfl, below_step HLE.out HB.out⟩
)
end Go.Proofs.Yteogfjhmjlelnaa.G
