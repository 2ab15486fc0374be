/- Mem.Store of a pointer, of a part, and of what may not be stored. The Mem has these blocks; the block's bytes are l. -/
import Derived.Test.YteogfjhmjlelnaaMl
set_option linter.unusedVariables false
set_option linter.unusedSimpArgs false
namespace Go.Proofs.Yteogfjhmjlelnaa.G
open Go.RowKit Go.Proofs.Yteogfjhmjlelnaa.B Go.Proofs.YteogfjhmjlelnaaW.PrintWords Go.Proofs.YteogfjhmjlelnaaW.PrintLast Go.Proofs.YteogfjhmjlelnaaW.PrintMore

set_option maxRecDepth 100000 in
set_option maxHeartbeats 8000000 in
theorem store_ptr (p x : Vl) (hx0 : (x.b == 0 && x.f == 0) = false) (hx1 : (decide (0 < x.b) && x.f == 0) = true) (gm : Nat) (v : Value) (bs : List Blk) (b : Blk) (l : List Bt) (w : World) (hM : IsMem w gm v bs) (hs : ∀ b ∈ bs, b.n ≤ 4096) (h : okAt bs p (8 : Nat) = some b) (hl : Bytes w b.gb l) (hln : l.length = b.n) :
    Calls Try.prog 16 #[.pointer (some ⟨gm, 0, none⟩), .agg #[.int .i64 p.n, .int .i64 p.b, .int .i64 p.f], .int .i64 8, .agg #[.int .i64 x.n, .int .i64 x.b, .int .i64 x.f]] w fun e w' => e = .returned (.int .i64 0) ∧ Bytes w' b.gb (over l p.n.toNat (ptrN x 8)) ∧ Kp w w' (· = b.gb) := by
  have HM := Aside0.mk hM
  have HS := Aside0.mk hs
  have HO := Aside0.mk h
  have HY := Aside0.mk hl
  skip
  have HLN := Aside0.mk hln
  have HSP := Aside0.mk (okAt_spec h)
  have HGB := Aside0.mk (blk_lt hl)
  have HBW := Aside0.mk (below_alloc (below_alloc (Below.refl w.heap.size w) (.cells #[.int .i64 p.n, .int .i64 p.b, .int .i64 p.f] 23)) (.cells #[.int .i64 x.n, .int .i64 x.b, .int .i64 x.f] 23))
  have hX := Aside0.mk (blk_alloc (blk_new w (.cells #[.int .i64 p.n, .int .i64 p.b, .int .i64 p.f] 23)) (.cells #[.int .i64 x.n, .int .i64 x.b, .int .i64 x.f] 23))
  have hZ := Aside0.mk (blk_at_ (W := w.alloc (.cells #[.int .i64 p.n, .int .i64 p.b, .int .i64 p.f] 23)) (n := w.heap.size + 1) (.cells #[.int .i64 x.n, .int .i64 x.b, .int .i64 x.f] 23) (by simp))
  clear hM hs h hl  hln
  go_enter Try.func16, Try.ntmps16
  go_upto_region 1 with (fail)
  generalize (w.alloc (.cells #[.int .i64 p.n, .int .i64 p.b, .int .i64 p.f] 23)).alloc (.cells #[.int .i64 x.n, .int .i64 x.b, .int .i64 x.f] 23) = W at HBW hX hZ ⊢
  have hx := cell3 hX.out
  go_upto_region 2 with (first | (go_at_call 32; refine (wide_good p 8 (by decide) gm v bs b _ (HM.out.below HBW.out) HS.out HO.out).mono ?_; rintro e w1 ⟨rfl, hb1⟩))
  have HZ1 := Aside0.mk (blk_below hZ.out hb1)
  have HB1 := Aside0.mk (below_step HBW.out hb1)
  clear hx hX hZ hb1 HBW
  go_upto_block 0 with (fail)
  have hz := cell3 HZ1.out
  go_upto_region 11 with (first | (go_at_call 33; refine (number_calls x _).mono ?_; rintro e w2 ⟨rfl, hb2⟩))
  have HZ2 := Aside0.mk (blk_below HZ1.out hb2)
  have HB2 := Aside0.mk (below_step HB1.out hb2)
  clear hz hb2 HZ1 HB1
  have hz := cell3 HZ2.out
  go_upto_block 3 with (first | (go_at_call 34; refine (pointer_calls x _).mono ?_; rintro e w3 ⟨rfl, hb3⟩))
  have HZ3 := Aside0.mk (blk_below HZ2.out hb3)
  have HB3 := Aside0.mk (below_step HB2.out hb3)
  clear hz hb3 HZ2 HB2
  go_wp2_with fail
  go_loopw [51] (fun i wx => ∃ j : Nat, j ≤ 8 ∧ i = .int .i64 j ∧ Hid (Bytes wx b.gb (over l p.n.toNat (ptrN x j))) ∧ Hid (Kp w3 wx (· = b.gb))) (fun i _ => 8 - (intOf i).toNat)
  case atStart => exact ⟨0, Nat.zero_le _, rfl, by show Bytes _ _ (over l p.n.toNat []); rw [over_nil]; exact blk_below HY.out HB3.out, Kp.refl _ _⟩
  case round =>
    obtain ⟨j, hj, rfl, hb, hkp⟩ := hrel
    have hgb := HGB.out
    have hz := cell3 (blk_kp HZ3.out hkp.out (by have := hgb; show ¬ (_ = _); omega))
    have hsp := HSP.out
    have hlen := HLN.out
    by_cases hlt : j < 8
    · obtain ⟨y, hy⟩ : ∃ y : Bt, (over l p.n.toNat (ptrN x j))[p.n.toNat + j]? = some y := ⟨_, List.getElem?_eq_getElem (by rw [over_length (by rw [ptrN_length]; omega)]; omega)⟩
      have hqj : p.n.toNat + j < l.length := by omega
      skip
      have hc := Bytes.at_ hb.out hy
      have hf0 := blk_frozen hb.out ((p.n.toNat + j) * 5)
      have hf1 := blk_frozen hb.out ((p.n.toNat + j) * 5 + 1)
      have hf2 := blk_frozen hb.out ((p.n.toNat + j) * 5 + 2)
      have hf3 := blk_frozen hb.out ((p.n.toNat + j) * 5 + 3)
      have hf4 := blk_frozen hb.out ((p.n.toNat + j) * 5 + 4)
      have HB := Aside0.mk hb
      have HKP := Aside0.mk hkp
      have HQJ := Aside0.mk hqj
      have hjk : ((j : Int) < (8 : Int)) := by omega
      have hw8 : wrap64 (8 * (j : Int)) = 8 * (j : Int) := by unfold wrap64; omega
      have hwj : IntKind.i64.wrap ((j : Int) + 1) = (j : Int) + 1 := by rw [IntKind.wrap_i64]; omega
      rw [Nat.add_mul] at hc hf0 hf1 hf2 hf3 hf4
      clear hb hkp hsp hlen hgb hy hqj
      go_wp2_with fail
      go_roundw
      case rel => exact ⟨j + 1, by omega, by go_num, by show Bytes _ _ _; rw [ptrN_succ]; exact HB.out.put_over (ptrN_length _ _) HQJ.out ⟨2, 0, ⟨x.n, x.b, (j : Int) + 1⟩⟩, kp_put5 HKP.out rfl _ _ _ _ _ _ _ _ _ _⟩
      case measure => simp [intOf]; omega
    · obtain rfl : j = 8 := by omega
      have HB := Aside0.mk hb
      have HKP := Aside0.mk hkp
      clear hz hsp hlen hb hkp
      go_wp2_with fail
      go_ret
      exact ⟨rfl, HB.out, (Kp.of_below HB3.out (· = b.gb)).then_ HKP.out (fun _ h => .inl h)⟩
set_option maxRecDepth 100000 in
set_option maxHeartbeats 8000000 in
theorem store_part (p x : Vl) (hx1 : (decide (0 < x.b) && x.f == 0) = false) (hx0 : (x.b == 0 && x.f == 0) = false) (hf : decide (0 < x.f) = true) (gm : Nat) (v : Value) (bs : List Blk) (b : Blk) (l : List Bt) (w : World) (hM : IsMem w gm v bs) (hs : ∀ b ∈ bs, b.n ≤ 4096) (h : okAt bs p (1 : Nat) = some b) (hl : Bytes w b.gb l) (hln : l.length = b.n) :
    Calls Try.prog 16 #[.pointer (some ⟨gm, 0, none⟩), .agg #[.int .i64 p.n, .int .i64 p.b, .int .i64 p.f], .int .i64 1, .agg #[.int .i64 x.n, .int .i64 x.b, .int .i64 x.f]] w fun e w' => e = .returned (.int .i64 0) ∧ Bytes w' b.gb (over l p.n.toNat ([⟨2, 0, x⟩])) ∧ Kp w w' (· = b.gb) := by
  have HM := Aside0.mk hM
  have HS := Aside0.mk hs
  have HO := Aside0.mk h
  have HY := Aside0.mk hl
  skip
  have HLN := Aside0.mk hln
  have HSP := Aside0.mk (okAt_spec h)
  have HGB := Aside0.mk (blk_lt hl)
  have HBW := Aside0.mk (below_alloc (below_alloc (Below.refl w.heap.size w) (.cells #[.int .i64 p.n, .int .i64 p.b, .int .i64 p.f] 23)) (.cells #[.int .i64 x.n, .int .i64 x.b, .int .i64 x.f] 23))
  have hX := Aside0.mk (blk_alloc (blk_new w (.cells #[.int .i64 p.n, .int .i64 p.b, .int .i64 p.f] 23)) (.cells #[.int .i64 x.n, .int .i64 x.b, .int .i64 x.f] 23))
  have hZ := Aside0.mk (blk_at_ (W := w.alloc (.cells #[.int .i64 p.n, .int .i64 p.b, .int .i64 p.f] 23)) (n := w.heap.size + 1) (.cells #[.int .i64 x.n, .int .i64 x.b, .int .i64 x.f] 23) (by simp))
  clear hM hs h hl  hln
  go_enter Try.func16, Try.ntmps16
  go_upto_region 1 with (fail)
  generalize (w.alloc (.cells #[.int .i64 p.n, .int .i64 p.b, .int .i64 p.f] 23)).alloc (.cells #[.int .i64 x.n, .int .i64 x.b, .int .i64 x.f] 23) = W at HBW hX hZ ⊢
  have hx := cell3 hX.out
  go_upto_region 2 with (first | (go_at_call 32; refine (wide_good p 1 (by decide) gm v bs b _ (HM.out.below HBW.out) HS.out HO.out).mono ?_; rintro e w1 ⟨rfl, hb1⟩))
  have HZ1 := Aside0.mk (blk_below hZ.out hb1)
  have HB1 := Aside0.mk (below_step HBW.out hb1)
  clear hx hX hZ hb1 HBW
  go_upto_block 0 with (fail)
  have hz := cell3 HZ1.out
  go_upto_region 11 with (first | (go_at_call 33; refine (number_calls x _).mono ?_; rintro e w2 ⟨rfl, hb2⟩))
  have HZ2 := Aside0.mk (blk_below HZ1.out hb2)
  have HB2 := Aside0.mk (below_step HB1.out hb2)
  clear hz hb2 HZ1 HB1
  have hz := cell3 HZ2.out
  go_upto_region 17 with (first | (go_at_call 34; refine (pointer_calls x _).mono ?_; rintro e w3 ⟨rfl, hb3⟩))
  have HZ3 := Aside0.mk (blk_below HZ2.out hb3)
  have HB3 := Aside0.mk (below_step HB2.out hb3)
  clear hz hb3 HZ2 HB2
  have hz := cell3 HZ3.out
  have hb := blk_below HY.out HB3.out
  have hsp := HSP.out
  have hln := HLN.out
  obtain ⟨y, hy⟩ : ∃ y : Bt, l[p.n.toNat]? = some y := ⟨_, List.getElem?_eq_getElem (by omega)⟩
  have hc := Bytes.at_ hb hy
  have hf0 := blk_frozen hb (p.n.toNat * 5)
  have hf1 := blk_frozen hb (p.n.toNat * 5 + 1)
  have hf2 := blk_frozen hb (p.n.toNat * 5 + 2)
  have hf3 := blk_frozen hb (p.n.toNat * 5 + 3)
  have hf4 := blk_frozen hb (p.n.toNat * 5 + 4)
  have HB := Aside0.mk (Bytes.put_over (l := l) (i := p.n.toNat) (seg := []) (j := 0) (by rw [over_nil]; exact hb) rfl (by omega) ⟨2, 0, x⟩)
  clear hb hsp hln hy
  go_wp2_with fail
  go_ret
  exact ⟨rfl, by simpa using HB.out, kp_put5 (Kp.of_below HB3.out (· = b.gb)) rfl _ _ _ _ _ _ _ _ _ _⟩
set_option maxRecDepth 100000 in
set_option maxHeartbeats 8000000 in
theorem store_no1 (p x : Vl) (k : Nat) (hk : k = 1 ∨ k = 4 ∨ k = 8) (hx1 : (decide (0 < x.b) && x.f == 0) = false) (hx0 : (x.b == 0 && x.f == 0) = false) (hf : decide (0 < x.f) = false) (gm : Nat) (v : Value) (bs : List Blk) (b : Blk) (l : List Bt) (w : World) (hM : IsMem w gm v bs) (hs : ∀ b ∈ bs, b.n ≤ 4096) (h : okAt bs p k = some b) (hl : Bytes w b.gb l) (hln : l.length = b.n) :
    Calls Try.prog 16 #[.pointer (some ⟨gm, 0, none⟩), .agg #[.int .i64 p.n, .int .i64 p.b, .int .i64 p.f], .int .i64 k, .agg #[.int .i64 x.n, .int .i64 x.b, .int .i64 x.f]] w fun e w' => e = .returned (.int .i64 9) ∧ Below w.heap.size w w' := by
  have HM := Aside0.mk hM
  have HS := Aside0.mk hs
  have HO := Aside0.mk h
  have HY := Aside0.mk hl
  have HKK := Aside0.mk hk
  have HLN := Aside0.mk hln
  have HSP := Aside0.mk (okAt_spec h)
  have HGB := Aside0.mk (blk_lt hl)
  have HBW := Aside0.mk (below_alloc (below_alloc (Below.refl w.heap.size w) (.cells #[.int .i64 p.n, .int .i64 p.b, .int .i64 p.f] 23)) (.cells #[.int .i64 x.n, .int .i64 x.b, .int .i64 x.f] 23))
  have hX := Aside0.mk (blk_alloc (blk_new w (.cells #[.int .i64 p.n, .int .i64 p.b, .int .i64 p.f] 23)) (.cells #[.int .i64 x.n, .int .i64 x.b, .int .i64 x.f] 23))
  have hZ := Aside0.mk (blk_at_ (W := w.alloc (.cells #[.int .i64 p.n, .int .i64 p.b, .int .i64 p.f] 23)) (n := w.heap.size + 1) (.cells #[.int .i64 x.n, .int .i64 x.b, .int .i64 x.f] 23) (by simp))
  clear hM hs h hl hk hln
  go_enter Try.func16, Try.ntmps16
  go_upto_region 1 with (fail)
  generalize (w.alloc (.cells #[.int .i64 p.n, .int .i64 p.b, .int .i64 p.f] 23)).alloc (.cells #[.int .i64 x.n, .int .i64 x.b, .int .i64 x.f] 23) = W at HBW hX hZ ⊢
  have hx := cell3 hX.out
  go_upto_region 2 with (first | (go_at_call 32; refine (wide_good p k HKK.out gm v bs b _ (HM.out.below HBW.out) HS.out HO.out).mono ?_; rintro e w1 ⟨rfl, hb1⟩))
  have HZ1 := Aside0.mk (blk_below hZ.out hb1)
  have HB1 := Aside0.mk (below_step HBW.out hb1)
  clear hx hX hZ hb1 HBW
  go_upto_block 0 with (fail)
  have hz := cell3 HZ1.out
  go_upto_region 11 with (first | (go_at_call 33; refine (number_calls x _).mono ?_; rintro e w2 ⟨rfl, hb2⟩))
  have HZ2 := Aside0.mk (blk_below HZ1.out hb2)
  have HB2 := Aside0.mk (below_step HB1.out hb2)
  clear hz hb2 HZ1 HB1
  have hz := cell3 HZ2.out
  go_upto_region 17 with (first | (go_at_call 34; refine (pointer_calls x _).mono ?_; rintro e w3 ⟨rfl, hb3⟩))
  have HZ3 := Aside0.mk (blk_below HZ2.out hb3)
  have HB3 := Aside0.mk (below_step HB2.out hb3)
  clear hz hb3 HZ2 HB2
  have hz := cell3 HZ3.out
  go_wp2_with fail
  go_ret
  exact ⟨rfl, HB3.out⟩
set_option maxRecDepth 100000 in
set_option maxHeartbeats 8000000 in
theorem store_no2 (p x : Vl) (k : Nat) (hk : k = 1 ∨ k = 4 ∨ k = 8) (hx1 : (decide (0 < x.b) && x.f == 0) = false) (hx0 : (x.b == 0 && x.f == 0) = false) (hf : decide (0 < x.f) = true) (hk1 : ((k : Int) == 1) = false) (gm : Nat) (v : Value) (bs : List Blk) (b : Blk) (l : List Bt) (w : World) (hM : IsMem w gm v bs) (hs : ∀ b ∈ bs, b.n ≤ 4096) (h : okAt bs p k = some b) (hl : Bytes w b.gb l) (hln : l.length = b.n) :
    Calls Try.prog 16 #[.pointer (some ⟨gm, 0, none⟩), .agg #[.int .i64 p.n, .int .i64 p.b, .int .i64 p.f], .int .i64 k, .agg #[.int .i64 x.n, .int .i64 x.b, .int .i64 x.f]] w fun e w' => e = .returned (.int .i64 9) ∧ Below w.heap.size w w' := by
  have HM := Aside0.mk hM
  have HS := Aside0.mk hs
  have HO := Aside0.mk h
  have HY := Aside0.mk hl
  have HKK := Aside0.mk hk
  have HLN := Aside0.mk hln
  have HSP := Aside0.mk (okAt_spec h)
  have HGB := Aside0.mk (blk_lt hl)
  have HBW := Aside0.mk (below_alloc (below_alloc (Below.refl w.heap.size w) (.cells #[.int .i64 p.n, .int .i64 p.b, .int .i64 p.f] 23)) (.cells #[.int .i64 x.n, .int .i64 x.b, .int .i64 x.f] 23))
  have hX := Aside0.mk (blk_alloc (blk_new w (.cells #[.int .i64 p.n, .int .i64 p.b, .int .i64 p.f] 23)) (.cells #[.int .i64 x.n, .int .i64 x.b, .int .i64 x.f] 23))
  have hZ := Aside0.mk (blk_at_ (W := w.alloc (.cells #[.int .i64 p.n, .int .i64 p.b, .int .i64 p.f] 23)) (n := w.heap.size + 1) (.cells #[.int .i64 x.n, .int .i64 x.b, .int .i64 x.f] 23) (by simp))
  clear hM hs h hl hk hln
  go_enter Try.func16, Try.ntmps16
  go_upto_region 1 with (fail)
  generalize (w.alloc (.cells #[.int .i64 p.n, .int .i64 p.b, .int .i64 p.f] 23)).alloc (.cells #[.int .i64 x.n, .int .i64 x.b, .int .i64 x.f] 23) = W at HBW hX hZ ⊢
  have hx := cell3 hX.out
  go_upto_region 2 with (first | (go_at_call 32; refine (wide_good p k HKK.out gm v bs b _ (HM.out.below HBW.out) HS.out HO.out).mono ?_; rintro e w1 ⟨rfl, hb1⟩))
  have HZ1 := Aside0.mk (blk_below hZ.out hb1)
  have HB1 := Aside0.mk (below_step HBW.out hb1)
  clear hx hX hZ hb1 HBW
  go_upto_block 0 with (fail)
  have hz := cell3 HZ1.out
  go_upto_region 11 with (first | (go_at_call 33; refine (number_calls x _).mono ?_; rintro e w2 ⟨rfl, hb2⟩))
  have HZ2 := Aside0.mk (blk_below HZ1.out hb2)
  have HB2 := Aside0.mk (below_step HB1.out hb2)
  clear hz hb2 HZ1 HB1
  have hz := cell3 HZ2.out
  go_upto_region 17 with (first | (go_at_call 34; refine (pointer_calls x _).mono ?_; rintro e w3 ⟨rfl, hb3⟩))
  have HZ3 := Aside0.mk (blk_below HZ2.out hb3)
  have HB3 := Aside0.mk (below_step HB2.out hb3)
  clear hz hb3 HZ2 HB2
  have hz := cell3 HZ3.out
  go_wp2_with fail
  go_ret
  exact ⟨rfl, HB3.out⟩
set_option maxRecDepth 100000 in
set_option maxHeartbeats 8000000 in
theorem store_no3 (p x : Vl) (k : Nat) (hk : k = 1 ∨ k = 4 ∨ k = 8) (hx1 : (decide (0 < x.b) && x.f == 0) = true) (hx0 : (x.b == 0 && x.f == 0) = false) (hk8 : ((k : Int) == 8) = false) (hf : decide (0 < x.f) = false) (gm : Nat) (v : Value) (bs : List Blk) (b : Blk) (l : List Bt) (w : World) (hM : IsMem w gm v bs) (hs : ∀ b ∈ bs, b.n ≤ 4096) (h : okAt bs p k = some b) (hl : Bytes w b.gb l) (hln : l.length = b.n) :
    Calls Try.prog 16 #[.pointer (some ⟨gm, 0, none⟩), .agg #[.int .i64 p.n, .int .i64 p.b, .int .i64 p.f], .int .i64 k, .agg #[.int .i64 x.n, .int .i64 x.b, .int .i64 x.f]] w fun e w' => e = .returned (.int .i64 9) ∧ Below w.heap.size w w' := by
  have HM := Aside0.mk hM
  have HS := Aside0.mk hs
  have HO := Aside0.mk h
  have HY := Aside0.mk hl
  have HKK := Aside0.mk hk
  have HLN := Aside0.mk hln
  have HSP := Aside0.mk (okAt_spec h)
  have HGB := Aside0.mk (blk_lt hl)
  have HBW := Aside0.mk (below_alloc (below_alloc (Below.refl w.heap.size w) (.cells #[.int .i64 p.n, .int .i64 p.b, .int .i64 p.f] 23)) (.cells #[.int .i64 x.n, .int .i64 x.b, .int .i64 x.f] 23))
  have hX := Aside0.mk (blk_alloc (blk_new w (.cells #[.int .i64 p.n, .int .i64 p.b, .int .i64 p.f] 23)) (.cells #[.int .i64 x.n, .int .i64 x.b, .int .i64 x.f] 23))
  have hZ := Aside0.mk (blk_at_ (W := w.alloc (.cells #[.int .i64 p.n, .int .i64 p.b, .int .i64 p.f] 23)) (n := w.heap.size + 1) (.cells #[.int .i64 x.n, .int .i64 x.b, .int .i64 x.f] 23) (by simp))
  clear hM hs h hl hk hln
  go_enter Try.func16, Try.ntmps16
  go_upto_region 1 with (fail)
  generalize (w.alloc (.cells #[.int .i64 p.n, .int .i64 p.b, .int .i64 p.f] 23)).alloc (.cells #[.int .i64 x.n, .int .i64 x.b, .int .i64 x.f] 23) = W at HBW hX hZ ⊢
  have hx := cell3 hX.out
  go_upto_region 2 with (first | (go_at_call 32; refine (wide_good p k HKK.out gm v bs b _ (HM.out.below HBW.out) HS.out HO.out).mono ?_; rintro e w1 ⟨rfl, hb1⟩))
  have HZ1 := Aside0.mk (blk_below hZ.out hb1)
  have HB1 := Aside0.mk (below_step HBW.out hb1)
  clear hx hX hZ hb1 HBW
  go_upto_block 0 with (fail)
  have hz := cell3 HZ1.out
  go_upto_region 11 with (first | (go_at_call 33; refine (number_calls x _).mono ?_; rintro e w2 ⟨rfl, hb2⟩))
  have HZ2 := Aside0.mk (blk_below HZ1.out hb2)
  have HB2 := Aside0.mk (below_step HB1.out hb2)
  clear hz hb2 HZ1 HB1
  have hz := cell3 HZ2.out
  go_upto_region 17 with (first | (go_at_call 34; refine (pointer_calls x _).mono ?_; rintro e w3 ⟨rfl, hb3⟩))
  have HZ3 := Aside0.mk (blk_below HZ2.out hb3)
  have HB3 := Aside0.mk (below_step HB2.out hb3)
  clear hz hb3 HZ2 HB2
  have hz := cell3 HZ3.out
  go_wp2_with fail
  go_ret
  exact ⟨rfl, HB3.out⟩
end Go.Proofs.Yteogfjhmjlelnaa.G
