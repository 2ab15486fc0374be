/- Mem.Store of a number at bytes that may be. The Mem has these blocks; the block's bytes are l. -/
import Derived.Test.YteogfjhmjlelnaaMk
set_option linter.unusedVariables false
set_option linter.unusedSimpArgs false
namespace Go.Proofs.Yteogfjhmjlelnaa.G
open Go.RowKit Go.Proofs.Yteogfjhmjlelnaa.B Go.Proofs.YteogfjhmjlelnaaW.PrintWords Go.Proofs.YteogfjhmjlelnaaW.PrintLast Go.Proofs.YteogfjhmjlelnaaW.PrintMore

theorem numSeg_succ (n : Int) (j : Nat) : numSeg n (j + 1) = numSeg n j ++ [⟨1, byteOf n j, ⟨0, 0, 0⟩⟩] := by
  unfold numSeg; rw [List.range_succ, List.map_append]; rfl
theorem numSeg_length (n : Int) (j : Nat) : (numSeg n j).length = j := by simp [numSeg]
def ptrN (x : Vl) (k : Nat) : List Bt := (List.range k).map fun (i : Nat) => ⟨2, 0, ⟨x.n, x.b, (i : Int) + 1⟩⟩
theorem ptrN_succ (x : Vl) (j : Nat) : ptrN x (j + 1) = ptrN x j ++ [⟨2, 0, ⟨x.n, x.b, (j : Int) + 1⟩⟩] := by
  unfold ptrN; rw [List.range_succ, List.map_append]; rfl
theorem ptrN_length (x : Vl) (j : Nat) : (ptrN x j).length = j := by simp [ptrN]
theorem Bytes.put_over {w : World} {gb i j : Nat} {l seg : List Bt} (h : Bytes w gb (over l i seg)) (hj : seg.length = j) (hlt : i + j < l.length) (x : Bt) :
    Bytes (((((w.setCell ⟨gb, i * 5 + j * 5, none⟩ (.int .i64 x.k)).setCell ⟨gb, i * 5 + j * 5 + 1, none⟩ (.int .u8 x.v)).setCell ⟨gb, i * 5 + j * 5 + 2, none⟩ (.int .i64 x.p.n)).setCell ⟨gb, i * 5 + j * 5 + 3, none⟩ (.int .i64 x.p.b)).setCell ⟨gb, i * 5 + j * 5 + 4, none⟩ (.int .i64 x.p.f)) gb (over l i (seg ++ [x])) := by
  have := h.put (i := i + j) (by rw [over_length (by omega)]; exact hlt) x
  rw [Nat.add_mul] at this
  rw [← over_snoc (by omega), hj]
  exact this
theorem kp_put5 {w W : World} {S : Nat → Prop} (h : Kp w W S) {g : Nat} (hS : S g) (o0 o1 o2 o3 o4 : Nat) (u0 u1 u2 u3 u4 : Value) :
    Kp w (((((W.setCell ⟨g, o0, none⟩ u0).setCell ⟨g, o1, none⟩ u1).setCell ⟨g, o2, none⟩ u2).setCell ⟨g, o3, none⟩ u3).setCell ⟨g, o4, none⟩ u4) S :=
  ((((h.setCell (.inl hS) _).setCell (.inl hS) _).setCell (.inl hS) _).setCell (.inl hS) _).setCell (.inl hS) _
set_option maxRecDepth 100000 in
set_option maxHeartbeats 8000000 in
theorem store_num (p x : Vl) (k : Nat) (hk : k = 1 ∨ k = 4 ∨ k = 8) (hx0 : (x.b == 0 && x.f == 0) = true) (gm : Nat) (v : Value) (bs : List Blk) (b : Blk) (l : List Bt) (w : World) (hM : IsMem w gm v bs) (hs : ∀ b ∈ bs, b.n ≤ 4096) (h : okAt bs p k = some b) (hl : Bytes w b.gb l) (hln : l.length = b.n) :
    Calls Try.prog 16 #[.pointer (some ⟨gm, 0, none⟩), .agg #[.int .i64 p.n, .int .i64 p.b, .int .i64 p.f], .int .i64 k, .agg #[.int .i64 x.n, .int .i64 x.b, .int .i64 x.f]] w fun e w' => e = .returned (.int .i64 0) ∧ Bytes w' b.gb (over l p.n.toNat (numSeg x.n k)) ∧ Kp w w' (· = b.gb) := by
  have HM := Aside0.mk hM
  have HS := Aside0.mk hs
  have HO := Aside0.mk h
  have HY := Aside0.mk hl
  have HKK := Aside0.mk hk
  have HLN := Aside0.mk hln
  have HSP := Aside0.mk (okAt_spec h)
  have HGB := Aside0.mk (blk_lt hl)
  have HBW := Aside0.mk (below_alloc (below_alloc (Below.refl w.heap.size w) (.cells #[.int .i64 p.n, .int .i64 p.b, .int .i64 p.f] 23)) (.cells #[.int .i64 x.n, .int .i64 x.b, .int .i64 x.f] 23))
  have hX := Aside0.mk (blk_alloc (blk_new w (.cells #[.int .i64 p.n, .int .i64 p.b, .int .i64 p.f] 23)) (.cells #[.int .i64 x.n, .int .i64 x.b, .int .i64 x.f] 23))
  have hZ := Aside0.mk (blk_at_ (W := w.alloc (.cells #[.int .i64 p.n, .int .i64 p.b, .int .i64 p.f] 23)) (n := w.heap.size + 1) (.cells #[.int .i64 x.n, .int .i64 x.b, .int .i64 x.f] 23) (by simp))
  clear hM hs h hl hk hln
  go_enter Try.func16, Try.ntmps16
  go_upto_region 1 with (fail)
  generalize (w.alloc (.cells #[.int .i64 p.n, .int .i64 p.b, .int .i64 p.f] 23)).alloc (.cells #[.int .i64 x.n, .int .i64 x.b, .int .i64 x.f] 23) = W at HBW hX hZ ⊢
  have hx := cell3 hX.out
  go_upto_region 2 with (first | (go_at_call 32; refine (wide_good p k HKK.out gm v bs b _ (HM.out.below HBW.out) HS.out HO.out).mono ?_; rintro e w1 ⟨rfl, hb1⟩))
  have HZ1 := Aside0.mk (blk_below hZ.out hb1)
  have HB1 := Aside0.mk (below_step HBW.out hb1)
  clear hx hX hZ hb1 HBW
  go_upto_block 0 with (fail)
  have hz := cell3 HZ1.out
  go_upto_block 1 with (first | (go_at_call 33; refine (number_calls x _).mono ?_; rintro e w2 ⟨rfl, hb2⟩))
  have HZ2 := Aside0.mk (blk_below HZ1.out hb2)
  have HB2 := Aside0.mk (below_step HB1.out hb2)
  clear hz hb2 HZ1 HB1
  go_wp2_with fail
  go_loopw [28] (fun i wx => ∃ j : Nat, j ≤ k ∧ i = .int .i64 j ∧ Hid (Bytes wx b.gb (over l p.n.toNat (numSeg x.n j))) ∧ Hid (Kp w2 wx (· = b.gb))) (fun i _ => k - (intOf i).toNat)
  case atStart => exact ⟨0, Nat.zero_le _, rfl, by show Bytes _ _ (over l p.n.toNat []); rw [over_nil]; exact blk_below HY.out HB2.out, Kp.refl _ _⟩
  case round =>
    obtain ⟨j, hj, rfl, hb, hkp⟩ := hrel
    have hgb := HGB.out
    have hz := cell3 (blk_kp HZ2.out hkp.out (by have := hgb; show ¬ (_ = _); omega))
    have hsp := HSP.out
    have hlen := HLN.out
    by_cases hlt : j < k
    · obtain ⟨y, hy⟩ : ∃ y : Bt, (over l p.n.toNat (numSeg x.n j))[p.n.toNat + j]? = some y := ⟨_, List.getElem?_eq_getElem (by rw [over_length (by rw [numSeg_length]; omega)]; omega)⟩
      have hqj : p.n.toNat + j < l.length := by omega
      have hk8 : k ≤ 8 := by have := HKK.out; omega
      have hc := Bytes.at_ hb.out hy
      have hf0 := blk_frozen hb.out ((p.n.toNat + j) * 5)
      have hf1 := blk_frozen hb.out ((p.n.toNat + j) * 5 + 1)
      have hf2 := blk_frozen hb.out ((p.n.toNat + j) * 5 + 2)
      have hf3 := blk_frozen hb.out ((p.n.toNat + j) * 5 + 3)
      have hf4 := blk_frozen hb.out ((p.n.toNat + j) * 5 + 4)
      have HB := Aside0.mk hb
      have HKP := Aside0.mk hkp
      have HQJ := Aside0.mk hqj
      have hjk : ((j : Int) < (k : Int)) := by omega
      have hw8 : wrap64 (8 * (j : Int)) = 8 * (j : Int) := by unfold wrap64; omega
      have hwj : IntKind.i64.wrap ((j : Int) + 1) = (j : Int) + 1 := by rw [IntKind.wrap_i64]; omega
      rw [Nat.add_mul] at hc hf0 hf1 hf2 hf3 hf4
      clear hb hkp hsp hlen hgb hy hqj
      go_wp2_with fail
      go_roundw
      case rel => exact ⟨j + 1, by omega, by go_num, by show Bytes _ _ _; rw [numSeg_succ]; exact HB.out.put_over (numSeg_length _ _) HQJ.out ⟨1, byteOf x.n j, ⟨0, 0, 0⟩⟩, kp_put5 HKP.out rfl _ _ _ _ _ _ _ _ _ _⟩
      case measure => simp [intOf]; omega
    · obtain rfl : j = k := by omega
      have HB := Aside0.mk hb
      have HKP := Aside0.mk hkp
      clear hz hsp hlen hb hkp
      go_wp2_with fail
      go_ret
      exact ⟨rfl, HB.out, (Kp.of_below HB2.out (· = b.gb)).then_ HKP.out (fun _ h => .inl h)⟩
end Go.Proofs.Yteogfjhmjlelnaa.G
