/- Mem.Load at bytes that may be. The Mem has these blocks; the block's bytes are l. -/
import Derived.Test.YteogfjhmjlelnaaMe
set_option linter.unusedVariables false
set_option linter.unusedSimpArgs false
namespace Go.Proofs.Yteogfjhmjlelnaa.G
open Go.RowKit Go.Proofs.Yteogfjhmjlelnaa.B Go.Proofs.YteogfjhmjlelnaaW.PrintWords Go.Proofs.YteogfjhmjlelnaaW.PrintLast Go.Proofs.YteogfjhmjlelnaaW.PrintMore

def zb : Bt := ⟨0, 0, ⟨0, 0, 0⟩⟩
def nOf (seg : List Bt) : Nat → Int
  | 0 => 0
  | i + 1 => nOf seg i + (seg.getD i zb).v * 2 ^ (8 * i)
def numB (seg : List Bt) : Nat → Bool
  | 0 => true
  | i + 1 => numB seg i && (seg.getD i zb).k == 1
def isPart (x y : Bt) (j : Nat) : Bool := x.k == 2 && x.v == 0 && x.p.n == y.p.n && x.p.b == y.p.b && x.p.f == (j : Int) + 1
def partB (k : Nat) (seg : List Bt) : Nat → Bool
  | 0 => (k : Int) == 8
  | i + 1 => partB k seg i && isPart (seg.getD i zb) (seg.getD 0 zb) i
theorem part_if (x y : Bt) (j : Nat) (w : World) :
    (if x.k = 2 then if x.v = 0 then if x.p.n = y.p.n then if x.p.b = y.p.b then if x.p.f = (j : Int) + 1 then Result.ok (Next.value (Value.bool true)) w else Result.ok (Next.value (Value.bool false)) w else Result.ok (Next.value (Value.bool false)) w else Result.ok (Next.value (Value.bool false)) w else Result.ok (Next.value (Value.bool false)) w else Result.ok (Next.value (Value.bool false)) w) = Result.ok (Next.value (Value.bool (isPart x y j))) w := by
  unfold isPart
  repeat' split
  all_goals simp_all
theorem cells5 {W : World} {g t : Nat} {a b c d e : Value} (h : W.heap[g]? = some (.cells #[a, b, c, d, e] t (0, 0))) :
    W.cell? ⟨g, 0, none⟩ = some a ∧ W.cell? ⟨g, 1, none⟩ = some b ∧ W.cell? ⟨g, 2, none⟩ = some c ∧ W.cell? ⟨g, 3, none⟩ = some d ∧ W.cell? ⟨g, 4, none⟩ = some e :=
  ⟨(blk_cell h 0).trans rfl, (blk_cell h 1).trans rfl, (blk_cell h 2).trans rfl, (blk_cell h 3).trans rfl, (blk_cell h 4).trans rfl⟩
theorem nOf_bound {seg : List Bt} (hv : ∀ x ∈ seg, 0 ≤ x.v ∧ x.v ≤ 255) : ∀ i, i ≤ seg.length → 0 ≤ nOf seg i ∧ nOf seg i < 2 ^ (8 * i)
  | 0, _ => by simp [nOf]
  | i + 1, hi => by
    obtain ⟨h1, h2⟩ := nOf_bound hv i (by omega)
    have hx := hv _ (List.getElem_mem (show i < seg.length by omega))
    have hg : (seg.getD i zb) = seg[i] := by simp [List.getD_eq_getElem?_getD, List.getElem?_eq_getElem (show i < seg.length by omega)]
    simp only [nOf, hg]
    have hp : (0 : Int) < 2 ^ (8 * i) := Int.pow_pos (by decide)
    rw [show (2 : Int) ^ (8 * (i + 1)) = 256 * 2 ^ (8 * i) by rw [show 8 * (i + 1) = 8 * i + 8 by omega, Int.pow_add]; omega]
    have h3 : 0 ≤ seg[i].v * 2 ^ (8 * i) := Int.mul_nonneg hx.1 (Int.le_of_lt hp)
    have h4 : seg[i].v * 2 ^ (8 * i) ≤ 255 * 2 ^ (8 * i) := Int.mul_le_mul_of_nonneg_right hx.2 (Int.le_of_lt hp)
    omega
def loadR (k : Nat) (seg : List Bt) : Vl × Int :=
  if numB seg k = true then (if k = 4 then (⟨wrap64 (wrap32 (nOf seg k)), 0, 0⟩, 0) else (⟨wrap64 (nOf seg k), 0, 0⟩, 0))
  else if partB k seg k = true then (⟨(seg.getD 0 zb).p.n, (seg.getD 0 zb).p.b, 0⟩, 0)
  else if k = 1 ∧ (seg.getD 0 zb).k = 2 then ((seg.getD 0 zb).p, 0) else (⟨0, 0, 0⟩, 9)
theorem load_kept {w w1 w2 : World} (h1 : Below w.heap.size w w1) (h2 : Below w1.heap.size w1 w2) (a b c : Value) :
    Below w.heap.size w (((w2.setCell ⟨w.heap.size + 1, 0, none⟩ a).setCell ⟨w.heap.size + 1, 1, none⟩ b).setCell ⟨w.heap.size + 1, 2, none⟩ c) :=
  (((Kp.of_below (below_step h1 h2) (fun _ => False)).setCell (.inr (by simp)) a).setCell (.inr (by simp)) b |>.setCell (.inr (by simp)) c).to_below (fun _ h => h.elim)
theorem okAt_spec {bs : List Blk} {p : Vl} {n : Int} {b : Blk} (h : okAt bs p n = some b) : 0 ≤ n ∧ n ≤ 4096 ∧ 0 ≤ p.n ∧ p.n ≤ (b.n : Int) - n ∧ b.there = true ∧ bs[p.b.toNat - 1]? = some b := by
  unfold okAt at h
  split at h
  · split at h
    · rename_i b' hb
      split at h
      · rename_i hc
        cases h
        exact ⟨hc.2.1, hc.2.2.1, hc.2.2.2.1, hc.2.2.2.2, hc.1, hb⟩
      · cases h
    · cases h
  · cases h
theorem u8_u64 {a : Int} (h : 0 ≤ a ∧ a ≤ 255) : IntKind.u64.wrap a = a := by rw [IntKind.wrap_u64]; omega
theorem pow8 (j : Nat) (hj : j < 8) : (2 : Int) ^ (8 * (j + 1)) ≤ 18446744073709551616 ∧ (2 : Int) ^ (8 * (j + 1)) = 256 * 2 ^ (8 * j) ∧ (0 : Int) < 2 ^ (8 * j) := by
  have : j = 0 ∨ j = 1 ∨ j = 2 ∨ j = 3 ∨ j = 4 ∨ j = 5 ∨ j = 6 ∨ j = 7 := by omega
  rcases this with rfl | rfl | rfl | rfl | rfl | rfl | rfl | rfl <;> decide
theorem or_step {seg : List Bt} (hv : ∀ x ∈ seg, 0 ≤ x.v ∧ x.v ≤ 255) {j : Nat} {x : Bt} (hx : seg[j]? = some x) (hj : j < 8) : bits .or .u64 (nOf seg j) (IntKind.u64.wrap (x.v * 2 ^ (8 * j))) = nOf seg (j + 1) := by
  have hl := (List.getElem?_eq_some_iff.1 hx).1
  obtain ⟨h1, h2⟩ := nOf_bound hv j (by omega)
  obtain ⟨p1, p2, p3⟩ := pow8 j hj
  have hxv := hv x (List.mem_of_getElem? hx)
  have hg : seg.getD j zb = x := by rw [List.getD_eq_getElem?_getD, hx]; rfl
  have h3 : 0 ≤ x.v * 2 ^ (8 * j) := Int.mul_nonneg hxv.1 (Int.le_of_lt p3)
  have h4 : x.v * 2 ^ (8 * j) ≤ 255 * 2 ^ (8 * j) := Int.mul_le_mul_of_nonneg_right hxv.2 (Int.le_of_lt p3)
  rw [show IntKind.u64.wrap (x.v * 2 ^ (8 * j)) = x.v * 2 ^ (8 * j) by rw [IntKind.wrap_u64]; omega]
  rw [show bits .or .u64 (nOf seg j) (x.v * 2 ^ (8 * j)) = bits .or .u64 (x.v * 2 ^ (8 * j)) (nOf seg j) by simp only [bits, BitVec.or_comm]]
  have hb := bits_join .u64 64 (by decide) (fun n h0 h1 => by rw [IntKind.wrap_u64]; omega) (8 * j) (x.v * 2 ^ (8 * j)) (nOf seg j) h3 (Int.mul_emod_left _ _) (by omega) h1 h2 (by omega)
  rw [hb, nOf, hg]
  omega
set_option maxRecDepth 100000 in
set_option maxHeartbeats 8000000 in
theorem load_loop (p : Vl) (k : Nat) (hk : k = 1 ∨ k = 4 ∨ k = 8) (gm : Nat) (v : Value) (bs : List Blk) (b : Blk) (l seg : List Bt) (w : World) (hM : IsMem w gm v bs) (hs : ∀ b ∈ bs, b.n ≤ 4096) (h : okAt bs p k = some b) (hl : Bytes w b.gb l) (hln : l.length = b.n) (hseg : seg = (l.drop p.n.toNat).take k) (hv : ∀ x ∈ l, 0 ≤ x.v ∧ x.v ≤ 255) :
    Calls Try.prog 14 #[.pointer (some ⟨gm, 0, none⟩), .agg #[.int .i64 p.n, .int .i64 p.b, .int .i64 p.f], .int .i64 k] w fun e w' => e = .returned (.tuple #[.agg #[.int .i64 (loadR k seg).1.n, .int .i64 (loadR k seg).1.b, .int .i64 (loadR k seg).1.f], .int .i64 (loadR k seg).2]) ∧ Below w.heap.size w w' := by
  have HM := Aside0.mk hM
  have HS := Aside0.mk hs
  have HO := Aside0.mk h
  have HY := Aside0.mk hl
  have HKK := Aside0.mk hk
  have HSEG := Aside0.mk hseg
  have HLN := Aside0.mk hln
  have HV := Aside0.mk hv
  have hsp := okAt_spec h
  have HLEN := Aside0.mk (show seg.length = k by rw [hseg, List.length_take, List.length_drop]; omega)
  have HSP := Aside0.mk hsp
  have HBW := Aside0.mk (below_alloc (below_alloc (Below.refl w.heap.size w) (.cells #[.int .i64 p.n, .int .i64 p.b, .int .i64 p.f] 23)) (.cells #[.int .i64 0, .int .i64 0, .int .i64 0] 23))
  have hX := Aside0.mk (blk_alloc (blk_new w (.cells #[.int .i64 p.n, .int .i64 p.b, .int .i64 p.f] 23)) (.cells #[.int .i64 0, .int .i64 0, .int .i64 0] 23))
  have hZ := Aside0.mk (blk_at_ (W := w.alloc (.cells #[.int .i64 p.n, .int .i64 p.b, .int .i64 p.f] 23)) (n := w.heap.size + 1) (.cells #[.int .i64 0, .int .i64 0, .int .i64 0] 23) (by simp))
  clear hM hs h hl hk hseg hln hv hsp
  go_enter Try.func14, Try.ntmps14
  go_upto_region 1 with (fail)
  generalize (w.alloc (.cells #[.int .i64 p.n, .int .i64 p.b, .int .i64 p.f] 23)).alloc (.cells #[.int .i64 0, .int .i64 0, .int .i64 0] 23) = W at HBW hX hZ ⊢
  have hx := cell3 hX.out
  go_upto_region 2 with (first | (go_at_call 32; refine (wide_good p k HKK.out gm v bs b _ (HM.out.below HBW.out) HS.out HO.out).mono ?_; rintro e w1 ⟨rfl, hb1⟩))
  have HZ1 := Aside0.mk (blk_below hZ.out hb1)
  have HB1 := Aside0.mk (below_step HBW.out hb1)
  clear hx hX hZ hb1 HBW
  go_upto_block 0 with (fail)
  go_wp2_with fail
  go_loopw [30, 10, 11, 12] (fun i n nu pa wx => ∃ j : Nat, j ≤ k ∧ i = .int .i64 j ∧ n = .int .u64 (nOf seg j) ∧ nu = .bool (numB seg j) ∧ pa = .bool (partB k seg j) ∧ Hid (Below w1.heap.size w1 wx)) (fun i _ _ _ _ => k - (intOf i).toNat)
  case atStart => exact ⟨0, Nat.zero_le _, rfl, rfl, rfl, rfl, Below.refl _ _⟩
  case round =>
    obtain ⟨j, hj, rfl, rfl, rfl, rfl, hb⟩ := hrel
    by_cases hlt : j < k
    · have hk0 : 0 < k := by omega
      have hk8 : k ≤ 8 := by have := HKK.out; omega
      obtain ⟨x, hx⟩ : ∃ x : Bt, seg[j]? = some x := ⟨_, List.getElem?_eq_getElem (by rw [HLEN.out]; exact hlt)⟩
      obtain ⟨y, hy⟩ : ∃ y : Bt, seg[0]? = some y := ⟨_, List.getElem?_eq_getElem (by rw [HLEN.out]; exact hk0)⟩
      have HSX := Aside0.mk hx
      have HSY := Aside0.mk hy
      have hc := Bytes.at_ (w := wr) (gb := b.gb) (l := l) (i := p.n.toNat + j) (x := x) (blk_below (blk_below HY.out HB1.out) hb.out) (by rw [HSEG.out, List.getElem?_take_of_lt hlt, List.getElem?_drop] at hx; exact hx)
      have hd := Bytes.at_ (w := wr) (gb := b.gb) (l := l) (i := p.n.toNat) (x := y) (blk_below (blk_below HY.out HB1.out) hb.out) (by rw [HSEG.out, List.getElem?_take_of_lt hk0, List.getElem?_drop] at hy; exact hy)
      rw [Nat.add_mul] at hc
      clear hx hy
      have hvs : ∀ z ∈ seg, 0 ≤ z.v ∧ z.v ≤ 255 := fun z hz => HV.out z (by rw [HSEG.out] at hz; exact List.mem_of_mem_drop (List.mem_of_mem_take hz))
      have hv0 : IntKind.u64.wrap x.v = x.v := u8_u64 (hvs x (List.mem_of_getElem? HSX.out))
      have hw8 : wrap64 (8 * (j : Int)) = 8 * (j : Int) := by unfold wrap64; omega
      have hor := or_step hvs HSX.out (by omega)
      have HGX := Aside0.mk (show seg.getD j zb = x by rw [List.getD_eq_getElem?_getD, HSX.out]; rfl)
      have HGY := Aside0.mk (show seg.getD 0 zb = y by rw [List.getD_eq_getElem?_getD, HSY.out]; rfl)
      clear hvs
      have hwj : IntKind.i64.wrap ((j : Int) + 1) = (j : Int) + 1 := by rw [IntKind.wrap_i64]; omega
      have hjk : ((j : Int) < (k : Int)) := by omega
      have HJ := Aside0.mk hb
      have hS0 := cells5 (blk_new wr (.cells #[.int .i64 x.k, .int .u8 x.v, .int .i64 x.p.n, .int .i64 x.p.b, .int .i64 x.p.f] 42))
      cases hn : numB seg j with
      | true =>
        have HN := Aside0.mk hn
        cases hp : partB k seg j with
        | true =>
          have HP := Aside0.mk hp
          go_upto_region 11 with (fail)
          have hS : ((wr.alloc (.cells #[.int .i64 x.k, .int .u8 x.v, .int .i64 x.p.n, .int .i64 x.p.b, .int .i64 x.p.f] 42)).cell? ⟨wr.heap.size, 0, none⟩ = some (.int .i64 x.k) ∧ (wr.alloc (.cells #[.int .i64 x.k, .int .u8 x.v, .int .i64 x.p.n, .int .i64 x.p.b, .int .i64 x.p.f] 42)).cell? ⟨wr.heap.size, 1, none⟩ = some (.int .u8 x.v) ∧ (wr.alloc (.cells #[.int .i64 x.k, .int .u8 x.v, .int .i64 x.p.n, .int .i64 x.p.b, .int .i64 x.p.f] 42)).cell? ⟨wr.heap.size, 2, none⟩ = some (.int .i64 x.p.n) ∧ (wr.alloc (.cells #[.int .i64 x.k, .int .u8 x.v, .int .i64 x.p.n, .int .i64 x.p.b, .int .i64 x.p.f] 42)).cell? ⟨wr.heap.size, 3, none⟩ = some (.int .i64 x.p.b) ∧ (wr.alloc (.cells #[.int .i64 x.k, .int .u8 x.v, .int .i64 x.p.n, .int .i64 x.p.b, .int .i64 x.p.f] 42)).cell? ⟨wr.heap.size, 4, none⟩ = some (.int .i64 x.p.f) ∧ (wr.alloc (.cells #[.int .i64 x.k, .int .u8 x.v, .int .i64 x.p.n, .int .i64 x.p.b, .int .i64 x.p.f] 42)).cell? ⟨b.gb, p.n.toNat * 5 + 2, none⟩ = some (.int .i64 y.p.n) ∧ (wr.alloc (.cells #[.int .i64 x.k, .int .u8 x.v, .int .i64 x.p.n, .int .i64 x.p.b, .int .i64 x.p.f] 42)).cell? ⟨b.gb, p.n.toNat * 5 + 3, none⟩ = some (.int .i64 y.p.b) ∧ Below w1.heap.size w1 (wr.alloc (.cells #[.int .i64 x.k, .int .u8 x.v, .int .i64 x.p.n, .int .i64 x.p.b, .int .i64 x.p.f] 42))) := ⟨hS0.1, hS0.2.1, hS0.2.2.1, hS0.2.2.2.1, hS0.2.2.2.2, pw_cell_below (below_alloc (Below.refl wr.heap.size wr) _) hd.2.2.1, pw_cell_below (below_alloc (Below.refl wr.heap.size wr) _) hd.2.2.2.1, below_alloc HJ.out _⟩
          generalize hg : wr.alloc (.cells #[.int .i64 x.k, .int .u8 x.v, .int .i64 x.p.n, .int .i64 x.p.b, .int .i64 x.p.f] 42) = W2 at hS ⊢
          clear hg hc hd hS0
          have HK := Aside0.mk (show ∀ Wa Wb : World, Below Wa.heap.size Wa Wb → (Wa.cell? ⟨wr.heap.size, 0, none⟩ = some (.int .i64 x.k) ∧ Wa.cell? ⟨wr.heap.size, 1, none⟩ = some (.int .u8 x.v) ∧ Wa.cell? ⟨wr.heap.size, 2, none⟩ = some (.int .i64 x.p.n) ∧ Wa.cell? ⟨wr.heap.size, 3, none⟩ = some (.int .i64 x.p.b) ∧ Wa.cell? ⟨wr.heap.size, 4, none⟩ = some (.int .i64 x.p.f) ∧ Wa.cell? ⟨b.gb, p.n.toNat * 5 + 2, none⟩ = some (.int .i64 y.p.n) ∧ Wa.cell? ⟨b.gb, p.n.toNat * 5 + 3, none⟩ = some (.int .i64 y.p.b) ∧ Below w1.heap.size w1 Wa) → (Wb.cell? ⟨wr.heap.size, 0, none⟩ = some (.int .i64 x.k) ∧ Wb.cell? ⟨wr.heap.size, 1, none⟩ = some (.int .u8 x.v) ∧ Wb.cell? ⟨wr.heap.size, 2, none⟩ = some (.int .i64 x.p.n) ∧ Wb.cell? ⟨wr.heap.size, 3, none⟩ = some (.int .i64 x.p.b) ∧ Wb.cell? ⟨wr.heap.size, 4, none⟩ = some (.int .i64 x.p.f) ∧ Wb.cell? ⟨b.gb, p.n.toNat * 5 + 2, none⟩ = some (.int .i64 y.p.n) ∧ Wb.cell? ⟨b.gb, p.n.toNat * 5 + 3, none⟩ = some (.int .i64 y.p.b) ∧ Below w1.heap.size w1 Wb) from fun _ _ hb h => ⟨pw_cell_below hb h.1, pw_cell_below hb h.2.1, pw_cell_below hb h.2.2.1, pw_cell_below hb h.2.2.2.1, pw_cell_below hb h.2.2.2.2.1, pw_cell_below hb h.2.2.2.2.2.1, pw_cell_below hb h.2.2.2.2.2.2.1, below_step h.2.2.2.2.2.2.2 hb⟩)
          have HQ := Aside0.mk (show ∀ Wa : World, (Wa.cell? ⟨wr.heap.size, 0, none⟩ = some (.int .i64 x.k) ∧ Wa.cell? ⟨wr.heap.size, 1, none⟩ = some (.int .u8 x.v) ∧ Wa.cell? ⟨wr.heap.size, 2, none⟩ = some (.int .i64 x.p.n) ∧ Wa.cell? ⟨wr.heap.size, 3, none⟩ = some (.int .i64 x.p.b) ∧ Wa.cell? ⟨wr.heap.size, 4, none⟩ = some (.int .i64 x.p.f) ∧ Wa.cell? ⟨b.gb, p.n.toNat * 5 + 2, none⟩ = some (.int .i64 y.p.n) ∧ Wa.cell? ⟨b.gb, p.n.toNat * 5 + 3, none⟩ = some (.int .i64 y.p.b) ∧ Below w1.heap.size w1 Wa) → Below w1.heap.size w1 Wa from fun _ h => h.2.2.2.2.2.2.2)
          refine wp_region_held_drew (S := fun w' => w'.cell? ⟨wr.heap.size, 0, none⟩ = some (.int .i64 x.k) ∧ w'.cell? ⟨wr.heap.size, 1, none⟩ = some (.int .u8 x.v) ∧ w'.cell? ⟨wr.heap.size, 2, none⟩ = some (.int .i64 x.p.n) ∧ w'.cell? ⟨wr.heap.size, 3, none⟩ = some (.int .i64 x.p.b) ∧ w'.cell? ⟨wr.heap.size, 4, none⟩ = some (.int .i64 x.p.f) ∧ w'.cell? ⟨b.gb, p.n.toNat * 5 + 2, none⟩ = some (.int .i64 y.p.n) ∧ w'.cell? ⟨b.gb, p.n.toNat * 5 + 3, none⟩ = some (.int .i64 y.p.b) ∧ Below w1.heap.size w1 w') (by kernel_rfl) ⟨hS.1, hS.2.1, hS.2.2.1, hS.2.2.2.1, hS.2.2.2.2.1, hS.2.2.2.2.2.1, hS.2.2.2.2.2.2.1, below_drew hS.2.2.2.2.2.2.2⟩ (fun hHeld => ?_)
          refine wpAnyH_take (i := 0) (oi := { dst := (some 49), op := (Op.move (Operand.tmp 12)), type := 4, pos := "mem.go:131", after := #[], guard := none }) (v := ?_) rfl (by kernel_rfl) (by kernel_rfl) (by kernel_rfl) (fun _ _ _ h => h) (Or.inl ⟨by rfl, ?_⟩) hHeld ?_
          rotate_left
          · intro w hSw; (try dsimp only at hSw); go_simp; try with_reducible rfl
          try simp only [Act.put, List.setIfInBounds_toArray, List.set_cons_zero, List.set_cons_succ]
          refine wpAnyH_take (i := 1) (oi := { dst := (some 50), op := (Op.move (Operand.tmp 49)), type := 4, pos := "mem.go:131", after := #[{ on := 0, ground := Ground.data }], guard := none }) (v := ?_) rfl (by kernel_rfl) (by kernel_rfl) (by kernel_rfl) (fun _ _ _ h => h) (Or.inl ⟨by rfl, ?_⟩) hHeld ?_
          rotate_left
          · intro w hSw; (try dsimp only at hSw); go_simp; try with_reducible rfl
          try simp only [Act.put, List.setIfInBounds_toArray, List.set_cons_zero, List.set_cons_succ]
          refine wpAnyH_take (i := 2) (oi := { dst := (some 51), op := (Op.load 42 (Operand.tmp 14)), type := 42, pos := "mem.go:131", after := #[{ on := 1, ground := Ground.guard }], guard := (some (1, true)) }) (v := ?_) rfl (by kernel_rfl) (by kernel_rfl) (by kernel_rfl) (fun _ _ _ h => h) (Or.inl ⟨by rfl, ?_⟩) hHeld ?_
          rotate_left
          · intro w hSw; (try dsimp only at hSw); go_simp; try with_reducible rfl
          try simp only [Act.put, List.setIfInBounds_toArray, List.set_cons_zero, List.set_cons_succ]
          refine wpAnyH_take (i := 3) (oi := { dst := (some 52), op := (Op.move (Operand.tmp 8)), type := 38, pos := "mem.go:131", after := #[{ on := 1, ground := Ground.guard }], guard := (some (1, true)) }) (v := ?_) rfl (by kernel_rfl) (by kernel_rfl) (by kernel_rfl) (fun _ _ _ h => h) (Or.inl ⟨by rfl, ?_⟩) hHeld ?_
          rotate_left
          · intro w hSw; (try dsimp only at hSw); go_simp; try with_reducible rfl
          try simp only [Act.put, List.setIfInBounds_toArray, List.set_cons_zero, List.set_cons_succ]
          refine wpAnyH_take (i := 4) (oi := { dst := (some 53), op := (Op.indexAddr 38 (Operand.tmp 52) (Operand.const (Value.int IntKind.i64 0))), type := 0, pos := "mem.go:131", after := #[{ on := 3, ground := Ground.data }, { on := 1, ground := Ground.guard }], guard := (some (1, true)) }) (v := ?_) rfl (by kernel_rfl) (by kernel_rfl) (by kernel_rfl) (fun _ _ _ h => h) (Or.inl ⟨by rfl, ?_⟩) hHeld ?_
          rotate_left
          · intro w hSw; (try dsimp only at hSw); go_simp; try with_reducible rfl
          try simp only [Act.put, List.setIfInBounds_toArray, List.set_cons_zero, List.set_cons_succ]
          refine wpAnyH_take (i := 5) (oi := { dst := (some 54), op := (Op.fieldAddr 42 (Operand.tmp 53) 2), type := 0, pos := "mem.go:131", after := #[{ on := 4, ground := Ground.data }, { on := 1, ground := Ground.guard }], guard := (some (1, true)) }) (v := ?_) rfl (by kernel_rfl) (by kernel_rfl) (by kernel_rfl) (fun _ _ _ h => h) (Or.inl ⟨by rfl, ?_⟩) hHeld ?_
          rotate_left
          · intro w hSw; (try dsimp only at hSw); go_simp; try with_reducible rfl
          try simp only [Act.put, List.setIfInBounds_toArray, List.set_cons_zero, List.set_cons_succ]
          refine wpAnyH_take (i := 6) (oi := { dst := (some 55), op := (Op.fieldAddr 23 (Operand.tmp 54) 0), type := 0, pos := "mem.go:131", after := #[{ on := 5, ground := Ground.data }, { on := 1, ground := Ground.guard }], guard := (some (1, true)) }) (v := ?_) rfl (by kernel_rfl) (by kernel_rfl) (by kernel_rfl) (fun _ _ _ h => h) (Or.inl ⟨by rfl, ?_⟩) hHeld ?_
          rotate_left
          · intro w hSw; (try dsimp only at hSw); go_simp; try with_reducible rfl
          try simp only [Act.put, List.setIfInBounds_toArray, List.set_cons_zero, List.set_cons_succ]
          refine wpAnyH_take (i := 7) (oi := { dst := (some 56), op := (Op.load 2 (Operand.tmp 55)), type := 2, pos := "mem.go:131", after := #[{ on := 6, ground := Ground.data }, { on := 1, ground := Ground.guard }], guard := (some (1, true)) }) (v := ?_) rfl (by kernel_rfl) (by kernel_rfl) (by kernel_rfl) (fun _ _ _ h => h) (Or.inl ⟨by rfl, ?_⟩) hHeld ?_
          rotate_left
          · intro w hSw; (try dsimp only at hSw); go_simp; try with_reducible rfl
          try simp only [Act.put, List.setIfInBounds_toArray, List.set_cons_zero, List.set_cons_succ]
          refine wpAnyH_take (i := 8) (oi := { dst := (some 57), op := (Op.move (Operand.tmp 8)), type := 38, pos := "mem.go:131", after := #[{ on := 1, ground := Ground.guard }], guard := (some (1, true)) }) (v := ?_) rfl (by kernel_rfl) (by kernel_rfl) (by kernel_rfl) (fun _ _ _ h => h) (Or.inl ⟨by rfl, ?_⟩) hHeld ?_
          rotate_left
          · intro w hSw; (try dsimp only at hSw); go_simp; try with_reducible rfl
          try simp only [Act.put, List.setIfInBounds_toArray, List.set_cons_zero, List.set_cons_succ]
          refine wpAnyH_take (i := 9) (oi := { dst := (some 58), op := (Op.indexAddr 38 (Operand.tmp 57) (Operand.const (Value.int IntKind.i64 0))), type := 0, pos := "mem.go:131", after := #[{ on := 8, ground := Ground.data }, { on := 1, ground := Ground.guard }], guard := (some (1, true)) }) (v := ?_) rfl (by kernel_rfl) (by kernel_rfl) (by kernel_rfl) (fun _ _ _ h => h) (Or.inl ⟨by rfl, ?_⟩) hHeld ?_
          rotate_left
          · intro w hSw; (try dsimp only at hSw); go_simp; try with_reducible rfl
          try simp only [Act.put, List.setIfInBounds_toArray, List.set_cons_zero, List.set_cons_succ]
          refine wpAnyH_take (i := 10) (oi := { dst := (some 59), op := (Op.fieldAddr 42 (Operand.tmp 58) 2), type := 0, pos := "mem.go:131", after := #[{ on := 9, ground := Ground.data }, { on := 1, ground := Ground.guard }], guard := (some (1, true)) }) (v := ?_) rfl (by kernel_rfl) (by kernel_rfl) (by kernel_rfl) (fun _ _ _ h => h) (Or.inl ⟨by rfl, ?_⟩) hHeld ?_
          rotate_left
          · intro w hSw; (try dsimp only at hSw); go_simp; try with_reducible rfl
          try simp only [Act.put, List.setIfInBounds_toArray, List.set_cons_zero, List.set_cons_succ]
          refine wpAnyH_take (i := 11) (oi := { dst := (some 60), op := (Op.fieldAddr 23 (Operand.tmp 59) 1), type := 0, pos := "mem.go:131", after := #[{ on := 10, ground := Ground.data }, { on := 1, ground := Ground.guard }], guard := (some (1, true)) }) (v := ?_) rfl (by kernel_rfl) (by kernel_rfl) (by kernel_rfl) (fun _ _ _ h => h) (Or.inl ⟨by rfl, ?_⟩) hHeld ?_
          rotate_left
          · intro w hSw; (try dsimp only at hSw); go_simp; try with_reducible rfl
          try simp only [Act.put, List.setIfInBounds_toArray, List.set_cons_zero, List.set_cons_succ]
          refine wpAnyH_take (i := 12) (oi := { dst := (some 61), op := (Op.load 3 (Operand.tmp 60)), type := 3, pos := "mem.go:131", after := #[{ on := 11, ground := Ground.data }, { on := 1, ground := Ground.guard }], guard := (some (1, true)) }) (v := ?_) rfl (by kernel_rfl) (by kernel_rfl) (by kernel_rfl) (fun _ _ _ h => h) (Or.inl ⟨by rfl, ?_⟩) hHeld ?_
          rotate_left
          · intro w hSw; (try dsimp only at hSw); go_simp; try with_reducible rfl
          try simp only [Act.put, List.setIfInBounds_toArray, List.set_cons_zero, List.set_cons_succ]
          refine wpAnyH_take (i := 13) (oi := { dst := (some 62), op := (Op.move (Operand.tmp 13)), type := 3, pos := "mem.go:131", after := #[{ on := 1, ground := Ground.guard }], guard := (some (1, true)) }) (v := ?_) rfl (by kernel_rfl) (by kernel_rfl) (by kernel_rfl) (fun _ _ _ h => h) (Or.inl ⟨by rfl, ?_⟩) hHeld ?_
          rotate_left
          · intro w hSw; (try dsimp only at hSw); go_simp; try with_reducible rfl
          try simp only [Act.put, List.setIfInBounds_toArray, List.set_cons_zero, List.set_cons_succ]
          refine wpAnyH_take (i := 14) (oi := { dst := (some 63), op := (Op.binOp BinOp.add 3 (Operand.tmp 62) (Operand.const (Value.int IntKind.i64 1)) 3), type := 3, pos := "mem.go:131", after := #[{ on := 13, ground := Ground.data }, { on := 1, ground := Ground.guard }], guard := (some (1, true)) }) (v := ?_) rfl (by kernel_rfl) (by kernel_rfl) (by kernel_rfl) (fun _ _ _ h => h) (Or.inl ⟨by rfl, ?_⟩) hHeld ?_
          rotate_left
          · intro w hSw; (try dsimp only at hSw); go_simp; try with_reducible rfl
          try simp only [Act.put, List.setIfInBounds_toArray, List.set_cons_zero, List.set_cons_succ]
          refine wpAnyH_take (i := 15) (oi := { dst := (some 64), op := (Op.build 23 #[(0, (Operand.tmp 56)), (1, (Operand.tmp 61)), (2, (Operand.tmp 63))]), type := 23, pos := "mem.go:131", after := #[{ on := 7, ground := Ground.data }, { on := 12, ground := Ground.data }, { on := 14, ground := Ground.data }, { on := 1, ground := Ground.guard }], guard := (some (1, true)) }) (v := ?_) rfl (by kernel_rfl) (by kernel_rfl) (by kernel_rfl) (fun _ _ _ h => h) (Or.inl ⟨by rfl, ?_⟩) hHeld ?_
          rotate_left
          · intro w hSw; (try dsimp only at hSw); go_simp; try with_reducible rfl
          try simp only [Act.put, List.setIfInBounds_toArray, List.set_cons_zero, List.set_cons_succ]
          refine wpAnyH_take (i := 16) (oi := { dst := (some 65), op := (Op.build 42 #[(0, (Operand.const (Value.int IntKind.i64 2))), (2, (Operand.tmp 64))]), type := 42, pos := "mem.go:131", after := #[{ on := 15, ground := Ground.data }, { on := 1, ground := Ground.guard }], guard := (some (1, true)) }) (v := ?_) rfl (by kernel_rfl) (by kernel_rfl) (by kernel_rfl) (fun _ _ _ h => h) (Or.inl ⟨by rfl, ?_⟩) hHeld ?_
          rotate_left
          · intro w hSw; (try dsimp only at hSw); go_simp; try with_reducible rfl
          try simp only [Act.put, List.setIfInBounds_toArray, List.set_cons_zero, List.set_cons_succ]
          refine wpAnyH_take (i := 17) (oi := { dst := (some 66), op := (Op.binOp BinOp.eql 42 (Operand.tmp 51) (Operand.tmp 65) 42), type := 4, pos := "mem.go:131", after := #[{ on := 2, ground := Ground.data }, { on := 16, ground := Ground.data }, { on := 1, ground := Ground.guard }], guard := (some (1, true)) }) (v := .bool (isPart x y j)) rfl (by kernel_rfl) (by kernel_rfl) (by kernel_rfl) (fun _ _ _ h => h) (Or.inl ⟨by rfl, ?_⟩) hHeld ?_
          · intro w hSw; (try dsimp only at hSw); go_simp; exact part_if x y j _
          try simp only [Act.put, List.setIfInBounds_toArray, List.set_cons_zero, List.set_cons_succ]
          refine wpAnyH_take (i := 18) (oi := { dst := (some 67), op := (Op.pick (Operand.tmp 50) (Operand.tmp 66) (Operand.const (Value.bool false))), type := 4, pos := "mem.go:131", after := #[{ on := 1, ground := Ground.data }, { on := 17, ground := Ground.data }], guard := none }) (v := ?_) rfl (by kernel_rfl) (by kernel_rfl) (by kernel_rfl) (fun _ _ _ h => h) (Or.inl ⟨by rfl, ?_⟩) hHeld ?_
          rotate_left
          · intro w hSw; (try dsimp only at hSw); go_simp; try with_reducible rfl
          try simp only [Act.put, List.setIfInBounds_toArray, List.set_cons_zero, List.set_cons_succ]
          refine wpAnyH_take (i := 19) (oi := { dst := (some 12), op := (Op.assign (Operand.tmp 67)), type := 4, pos := "mem.go:131", after := #[{ on := 18, ground := Ground.data }, { on := 1, ground := Ground.chain }, { on := 0, ground := Ground.phase }, { on := 1, ground := Ground.phase }, { on := 2, ground := Ground.phase }, { on := 3, ground := Ground.phase }, { on := 4, ground := Ground.phase }, { on := 5, ground := Ground.phase }, { on := 6, ground := Ground.phase }, { on := 7, ground := Ground.phase }, { on := 8, ground := Ground.phase }, { on := 9, ground := Ground.phase }, { on := 10, ground := Ground.phase }, { on := 11, ground := Ground.phase }, { on := 12, ground := Ground.phase }, { on := 13, ground := Ground.phase }, { on := 14, ground := Ground.phase }, { on := 15, ground := Ground.phase }, { on := 16, ground := Ground.phase }, { on := 17, ground := Ground.phase }, { on := 18, ground := Ground.phase }], guard := none }) (v := ?_) rfl (by kernel_rfl) (by kernel_rfl) (by kernel_rfl) (fun _ _ _ h => h) (Or.inl ⟨by rfl, ?_⟩) hHeld ?_
          rotate_left
          · intro w hSw; (try dsimp only at hSw); go_simp; try with_reducible rfl
          try simp only [Act.put, List.setIfInBounds_toArray, List.set_cons_zero, List.set_cons_succ]
          refine wpAnyH_done (by kernel_rfl) ?_ _
          go_wp2_with fail
          go_roundw
          case rel => exact ⟨j + 1, by omega, by go_num, rfl, by rw [numB, HN.out, HGX.out]; simp, by rw [partB, HP.out, HGX.out, HGY.out]; simp, HQ.out _ hHeld⟩
          case measure => simp [intOf]; omega
        | false =>
          have HP := Aside0.mk hp
          go_upto_region 11 with (fail)
          have hS : ((wr.alloc (.cells #[.int .i64 x.k, .int .u8 x.v, .int .i64 x.p.n, .int .i64 x.p.b, .int .i64 x.p.f] 42)).cell? ⟨wr.heap.size, 0, none⟩ = some (.int .i64 x.k) ∧ (wr.alloc (.cells #[.int .i64 x.k, .int .u8 x.v, .int .i64 x.p.n, .int .i64 x.p.b, .int .i64 x.p.f] 42)).cell? ⟨wr.heap.size, 1, none⟩ = some (.int .u8 x.v) ∧ (wr.alloc (.cells #[.int .i64 x.k, .int .u8 x.v, .int .i64 x.p.n, .int .i64 x.p.b, .int .i64 x.p.f] 42)).cell? ⟨wr.heap.size, 2, none⟩ = some (.int .i64 x.p.n) ∧ (wr.alloc (.cells #[.int .i64 x.k, .int .u8 x.v, .int .i64 x.p.n, .int .i64 x.p.b, .int .i64 x.p.f] 42)).cell? ⟨wr.heap.size, 3, none⟩ = some (.int .i64 x.p.b) ∧ (wr.alloc (.cells #[.int .i64 x.k, .int .u8 x.v, .int .i64 x.p.n, .int .i64 x.p.b, .int .i64 x.p.f] 42)).cell? ⟨wr.heap.size, 4, none⟩ = some (.int .i64 x.p.f) ∧ (wr.alloc (.cells #[.int .i64 x.k, .int .u8 x.v, .int .i64 x.p.n, .int .i64 x.p.b, .int .i64 x.p.f] 42)).cell? ⟨b.gb, p.n.toNat * 5 + 2, none⟩ = some (.int .i64 y.p.n) ∧ (wr.alloc (.cells #[.int .i64 x.k, .int .u8 x.v, .int .i64 x.p.n, .int .i64 x.p.b, .int .i64 x.p.f] 42)).cell? ⟨b.gb, p.n.toNat * 5 + 3, none⟩ = some (.int .i64 y.p.b) ∧ Below w1.heap.size w1 (wr.alloc (.cells #[.int .i64 x.k, .int .u8 x.v, .int .i64 x.p.n, .int .i64 x.p.b, .int .i64 x.p.f] 42))) := ⟨hS0.1, hS0.2.1, hS0.2.2.1, hS0.2.2.2.1, hS0.2.2.2.2, pw_cell_below (below_alloc (Below.refl wr.heap.size wr) _) hd.2.2.1, pw_cell_below (below_alloc (Below.refl wr.heap.size wr) _) hd.2.2.2.1, below_alloc HJ.out _⟩
          generalize hg : wr.alloc (.cells #[.int .i64 x.k, .int .u8 x.v, .int .i64 x.p.n, .int .i64 x.p.b, .int .i64 x.p.f] 42) = W2 at hS ⊢
          clear hg hc hd hS0
          have HK := Aside0.mk (show ∀ Wa Wb : World, Below Wa.heap.size Wa Wb → (Wa.cell? ⟨wr.heap.size, 0, none⟩ = some (.int .i64 x.k) ∧ Wa.cell? ⟨wr.heap.size, 1, none⟩ = some (.int .u8 x.v) ∧ Wa.cell? ⟨wr.heap.size, 2, none⟩ = some (.int .i64 x.p.n) ∧ Wa.cell? ⟨wr.heap.size, 3, none⟩ = some (.int .i64 x.p.b) ∧ Wa.cell? ⟨wr.heap.size, 4, none⟩ = some (.int .i64 x.p.f) ∧ Wa.cell? ⟨b.gb, p.n.toNat * 5 + 2, none⟩ = some (.int .i64 y.p.n) ∧ Wa.cell? ⟨b.gb, p.n.toNat * 5 + 3, none⟩ = some (.int .i64 y.p.b) ∧ Below w1.heap.size w1 Wa) → (Wb.cell? ⟨wr.heap.size, 0, none⟩ = some (.int .i64 x.k) ∧ Wb.cell? ⟨wr.heap.size, 1, none⟩ = some (.int .u8 x.v) ∧ Wb.cell? ⟨wr.heap.size, 2, none⟩ = some (.int .i64 x.p.n) ∧ Wb.cell? ⟨wr.heap.size, 3, none⟩ = some (.int .i64 x.p.b) ∧ Wb.cell? ⟨wr.heap.size, 4, none⟩ = some (.int .i64 x.p.f) ∧ Wb.cell? ⟨b.gb, p.n.toNat * 5 + 2, none⟩ = some (.int .i64 y.p.n) ∧ Wb.cell? ⟨b.gb, p.n.toNat * 5 + 3, none⟩ = some (.int .i64 y.p.b) ∧ Below w1.heap.size w1 Wb) from fun _ _ hb h => ⟨pw_cell_below hb h.1, pw_cell_below hb h.2.1, pw_cell_below hb h.2.2.1, pw_cell_below hb h.2.2.2.1, pw_cell_below hb h.2.2.2.2.1, pw_cell_below hb h.2.2.2.2.2.1, pw_cell_below hb h.2.2.2.2.2.2.1, below_step h.2.2.2.2.2.2.2 hb⟩)
          have HQ := Aside0.mk (show ∀ Wa : World, (Wa.cell? ⟨wr.heap.size, 0, none⟩ = some (.int .i64 x.k) ∧ Wa.cell? ⟨wr.heap.size, 1, none⟩ = some (.int .u8 x.v) ∧ Wa.cell? ⟨wr.heap.size, 2, none⟩ = some (.int .i64 x.p.n) ∧ Wa.cell? ⟨wr.heap.size, 3, none⟩ = some (.int .i64 x.p.b) ∧ Wa.cell? ⟨wr.heap.size, 4, none⟩ = some (.int .i64 x.p.f) ∧ Wa.cell? ⟨b.gb, p.n.toNat * 5 + 2, none⟩ = some (.int .i64 y.p.n) ∧ Wa.cell? ⟨b.gb, p.n.toNat * 5 + 3, none⟩ = some (.int .i64 y.p.b) ∧ Below w1.heap.size w1 Wa) → Below w1.heap.size w1 Wa from fun _ h => h.2.2.2.2.2.2.2)
          refine wp_region_held_drew (S := fun w' => w'.cell? ⟨wr.heap.size, 0, none⟩ = some (.int .i64 x.k) ∧ w'.cell? ⟨wr.heap.size, 1, none⟩ = some (.int .u8 x.v) ∧ w'.cell? ⟨wr.heap.size, 2, none⟩ = some (.int .i64 x.p.n) ∧ w'.cell? ⟨wr.heap.size, 3, none⟩ = some (.int .i64 x.p.b) ∧ w'.cell? ⟨wr.heap.size, 4, none⟩ = some (.int .i64 x.p.f) ∧ w'.cell? ⟨b.gb, p.n.toNat * 5 + 2, none⟩ = some (.int .i64 y.p.n) ∧ w'.cell? ⟨b.gb, p.n.toNat * 5 + 3, none⟩ = some (.int .i64 y.p.b) ∧ Below w1.heap.size w1 w') (by kernel_rfl) ⟨hS.1, hS.2.1, hS.2.2.1, hS.2.2.2.1, hS.2.2.2.2.1, hS.2.2.2.2.2.1, hS.2.2.2.2.2.2.1, below_drew hS.2.2.2.2.2.2.2⟩ (fun hHeld => ?_)
          refine wpAnyH_take (i := 0) (oi := { dst := (some 49), op := (Op.move (Operand.tmp 12)), type := 4, pos := "mem.go:131", after := #[], guard := none }) (v := ?_) rfl (by kernel_rfl) (by kernel_rfl) (by kernel_rfl) (fun _ _ _ h => h) (Or.inl ⟨by rfl, ?_⟩) hHeld ?_
          rotate_left
          · intro w hSw; (try dsimp only at hSw); go_simp; try with_reducible rfl
          try simp only [Act.put, List.setIfInBounds_toArray, List.set_cons_zero, List.set_cons_succ]
          refine wpAnyH_take (i := 1) (oi := { dst := (some 50), op := (Op.move (Operand.tmp 49)), type := 4, pos := "mem.go:131", after := #[{ on := 0, ground := Ground.data }], guard := none }) (v := ?_) rfl (by kernel_rfl) (by kernel_rfl) (by kernel_rfl) (fun _ _ _ h => h) (Or.inl ⟨by rfl, ?_⟩) hHeld ?_
          rotate_left
          · intro w hSw; (try dsimp only at hSw); go_simp; try with_reducible rfl
          try simp only [Act.put, List.setIfInBounds_toArray, List.set_cons_zero, List.set_cons_succ]
          refine wpAnyH_take (i := 2) (oi := { dst := (some 51), op := (Op.load 42 (Operand.tmp 14)), type := 42, pos := "mem.go:131", after := #[{ on := 1, ground := Ground.guard }], guard := (some (1, true)) }) rfl (by kernel_rfl) (by kernel_rfl) (by kernel_rfl) (fun _ _ _ h => h) (Or.inr ⟨by rfl, rfl⟩) hHeld ?_
          try simp only [Act.put, List.setIfInBounds_toArray, List.set_cons_zero, List.set_cons_succ]
          refine wpAnyH_take (i := 3) (oi := { dst := (some 52), op := (Op.move (Operand.tmp 8)), type := 38, pos := "mem.go:131", after := #[{ on := 1, ground := Ground.guard }], guard := (some (1, true)) }) rfl (by kernel_rfl) (by kernel_rfl) (by kernel_rfl) (fun _ _ _ h => h) (Or.inr ⟨by rfl, rfl⟩) hHeld ?_
          try simp only [Act.put, List.setIfInBounds_toArray, List.set_cons_zero, List.set_cons_succ]
          refine wpAnyH_take (i := 4) (oi := { dst := (some 53), op := (Op.indexAddr 38 (Operand.tmp 52) (Operand.const (Value.int IntKind.i64 0))), type := 0, pos := "mem.go:131", after := #[{ on := 3, ground := Ground.data }, { on := 1, ground := Ground.guard }], guard := (some (1, true)) }) rfl (by kernel_rfl) (by kernel_rfl) (by kernel_rfl) (fun _ _ _ h => h) (Or.inr ⟨by rfl, rfl⟩) hHeld ?_
          try simp only [Act.put, List.setIfInBounds_toArray, List.set_cons_zero, List.set_cons_succ]
          refine wpAnyH_take (i := 5) (oi := { dst := (some 54), op := (Op.fieldAddr 42 (Operand.tmp 53) 2), type := 0, pos := "mem.go:131", after := #[{ on := 4, ground := Ground.data }, { on := 1, ground := Ground.guard }], guard := (some (1, true)) }) rfl (by kernel_rfl) (by kernel_rfl) (by kernel_rfl) (fun _ _ _ h => h) (Or.inr ⟨by rfl, rfl⟩) hHeld ?_
          try simp only [Act.put, List.setIfInBounds_toArray, List.set_cons_zero, List.set_cons_succ]
          refine wpAnyH_take (i := 6) (oi := { dst := (some 55), op := (Op.fieldAddr 23 (Operand.tmp 54) 0), type := 0, pos := "mem.go:131", after := #[{ on := 5, ground := Ground.data }, { on := 1, ground := Ground.guard }], guard := (some (1, true)) }) rfl (by kernel_rfl) (by kernel_rfl) (by kernel_rfl) (fun _ _ _ h => h) (Or.inr ⟨by rfl, rfl⟩) hHeld ?_
          try simp only [Act.put, List.setIfInBounds_toArray, List.set_cons_zero, List.set_cons_succ]
          refine wpAnyH_take (i := 7) (oi := { dst := (some 56), op := (Op.load 2 (Operand.tmp 55)), type := 2, pos := "mem.go:131", after := #[{ on := 6, ground := Ground.data }, { on := 1, ground := Ground.guard }], guard := (some (1, true)) }) rfl (by kernel_rfl) (by kernel_rfl) (by kernel_rfl) (fun _ _ _ h => h) (Or.inr ⟨by rfl, rfl⟩) hHeld ?_
          try simp only [Act.put, List.setIfInBounds_toArray, List.set_cons_zero, List.set_cons_succ]
          refine wpAnyH_take (i := 8) (oi := { dst := (some 57), op := (Op.move (Operand.tmp 8)), type := 38, pos := "mem.go:131", after := #[{ on := 1, ground := Ground.guard }], guard := (some (1, true)) }) rfl (by kernel_rfl) (by kernel_rfl) (by kernel_rfl) (fun _ _ _ h => h) (Or.inr ⟨by rfl, rfl⟩) hHeld ?_
          try simp only [Act.put, List.setIfInBounds_toArray, List.set_cons_zero, List.set_cons_succ]
          refine wpAnyH_take (i := 9) (oi := { dst := (some 58), op := (Op.indexAddr 38 (Operand.tmp 57) (Operand.const (Value.int IntKind.i64 0))), type := 0, pos := "mem.go:131", after := #[{ on := 8, ground := Ground.data }, { on := 1, ground := Ground.guard }], guard := (some (1, true)) }) rfl (by kernel_rfl) (by kernel_rfl) (by kernel_rfl) (fun _ _ _ h => h) (Or.inr ⟨by rfl, rfl⟩) hHeld ?_
          try simp only [Act.put, List.setIfInBounds_toArray, List.set_cons_zero, List.set_cons_succ]
          refine wpAnyH_take (i := 10) (oi := { dst := (some 59), op := (Op.fieldAddr 42 (Operand.tmp 58) 2), type := 0, pos := "mem.go:131", after := #[{ on := 9, ground := Ground.data }, { on := 1, ground := Ground.guard }], guard := (some (1, true)) }) rfl (by kernel_rfl) (by kernel_rfl) (by kernel_rfl) (fun _ _ _ h => h) (Or.inr ⟨by rfl, rfl⟩) hHeld ?_
          try simp only [Act.put, List.setIfInBounds_toArray, List.set_cons_zero, List.set_cons_succ]
          refine wpAnyH_take (i := 11) (oi := { dst := (some 60), op := (Op.fieldAddr 23 (Operand.tmp 59) 1), type := 0, pos := "mem.go:131", after := #[{ on := 10, ground := Ground.data }, { on := 1, ground := Ground.guard }], guard := (some (1, true)) }) rfl (by kernel_rfl) (by kernel_rfl) (by kernel_rfl) (fun _ _ _ h => h) (Or.inr ⟨by rfl, rfl⟩) hHeld ?_
          try simp only [Act.put, List.setIfInBounds_toArray, List.set_cons_zero, List.set_cons_succ]
          refine wpAnyH_take (i := 12) (oi := { dst := (some 61), op := (Op.load 3 (Operand.tmp 60)), type := 3, pos := "mem.go:131", after := #[{ on := 11, ground := Ground.data }, { on := 1, ground := Ground.guard }], guard := (some (1, true)) }) rfl (by kernel_rfl) (by kernel_rfl) (by kernel_rfl) (fun _ _ _ h => h) (Or.inr ⟨by rfl, rfl⟩) hHeld ?_
          try simp only [Act.put, List.setIfInBounds_toArray, List.set_cons_zero, List.set_cons_succ]
          refine wpAnyH_take (i := 13) (oi := { dst := (some 62), op := (Op.move (Operand.tmp 13)), type := 3, pos := "mem.go:131", after := #[{ on := 1, ground := Ground.guard }], guard := (some (1, true)) }) rfl (by kernel_rfl) (by kernel_rfl) (by kernel_rfl) (fun _ _ _ h => h) (Or.inr ⟨by rfl, rfl⟩) hHeld ?_
          try simp only [Act.put, List.setIfInBounds_toArray, List.set_cons_zero, List.set_cons_succ]
          refine wpAnyH_take (i := 14) (oi := { dst := (some 63), op := (Op.binOp BinOp.add 3 (Operand.tmp 62) (Operand.const (Value.int IntKind.i64 1)) 3), type := 3, pos := "mem.go:131", after := #[{ on := 13, ground := Ground.data }, { on := 1, ground := Ground.guard }], guard := (some (1, true)) }) rfl (by kernel_rfl) (by kernel_rfl) (by kernel_rfl) (fun _ _ _ h => h) (Or.inr ⟨by rfl, rfl⟩) hHeld ?_
          try simp only [Act.put, List.setIfInBounds_toArray, List.set_cons_zero, List.set_cons_succ]
          refine wpAnyH_take (i := 15) (oi := { dst := (some 64), op := (Op.build 23 #[(0, (Operand.tmp 56)), (1, (Operand.tmp 61)), (2, (Operand.tmp 63))]), type := 23, pos := "mem.go:131", after := #[{ on := 7, ground := Ground.data }, { on := 12, ground := Ground.data }, { on := 14, ground := Ground.data }, { on := 1, ground := Ground.guard }], guard := (some (1, true)) }) rfl (by kernel_rfl) (by kernel_rfl) (by kernel_rfl) (fun _ _ _ h => h) (Or.inr ⟨by rfl, rfl⟩) hHeld ?_
          try simp only [Act.put, List.setIfInBounds_toArray, List.set_cons_zero, List.set_cons_succ]
          refine wpAnyH_take (i := 16) (oi := { dst := (some 65), op := (Op.build 42 #[(0, (Operand.const (Value.int IntKind.i64 2))), (2, (Operand.tmp 64))]), type := 42, pos := "mem.go:131", after := #[{ on := 15, ground := Ground.data }, { on := 1, ground := Ground.guard }], guard := (some (1, true)) }) rfl (by kernel_rfl) (by kernel_rfl) (by kernel_rfl) (fun _ _ _ h => h) (Or.inr ⟨by rfl, rfl⟩) hHeld ?_
          try simp only [Act.put, List.setIfInBounds_toArray, List.set_cons_zero, List.set_cons_succ]
          refine wpAnyH_take (i := 17) (oi := { dst := (some 66), op := (Op.binOp BinOp.eql 42 (Operand.tmp 51) (Operand.tmp 65) 42), type := 4, pos := "mem.go:131", after := #[{ on := 2, ground := Ground.data }, { on := 16, ground := Ground.data }, { on := 1, ground := Ground.guard }], guard := (some (1, true)) }) rfl (by kernel_rfl) (by kernel_rfl) (by kernel_rfl) (fun _ _ _ h => h) (Or.inr ⟨by rfl, rfl⟩) hHeld ?_
          try simp only [Act.put, List.setIfInBounds_toArray, List.set_cons_zero, List.set_cons_succ]
          refine wpAnyH_take (i := 18) (oi := { dst := (some 67), op := (Op.pick (Operand.tmp 50) (Operand.tmp 66) (Operand.const (Value.bool false))), type := 4, pos := "mem.go:131", after := #[{ on := 1, ground := Ground.data }, { on := 17, ground := Ground.data }], guard := none }) (v := ?_) rfl (by kernel_rfl) (by kernel_rfl) (by kernel_rfl) (fun _ _ _ h => h) (Or.inl ⟨by rfl, ?_⟩) hHeld ?_
          rotate_left
          · intro w hSw; (try dsimp only at hSw); go_simp; try with_reducible rfl
          try simp only [Act.put, List.setIfInBounds_toArray, List.set_cons_zero, List.set_cons_succ]
          refine wpAnyH_take (i := 19) (oi := { dst := (some 12), op := (Op.assign (Operand.tmp 67)), type := 4, pos := "mem.go:131", after := #[{ on := 18, ground := Ground.data }, { on := 1, ground := Ground.chain }, { on := 0, ground := Ground.phase }, { on := 1, ground := Ground.phase }, { on := 2, ground := Ground.phase }, { on := 3, ground := Ground.phase }, { on := 4, ground := Ground.phase }, { on := 5, ground := Ground.phase }, { on := 6, ground := Ground.phase }, { on := 7, ground := Ground.phase }, { on := 8, ground := Ground.phase }, { on := 9, ground := Ground.phase }, { on := 10, ground := Ground.phase }, { on := 11, ground := Ground.phase }, { on := 12, ground := Ground.phase }, { on := 13, ground := Ground.phase }, { on := 14, ground := Ground.phase }, { on := 15, ground := Ground.phase }, { on := 16, ground := Ground.phase }, { on := 17, ground := Ground.phase }, { on := 18, ground := Ground.phase }], guard := none }) (v := ?_) rfl (by kernel_rfl) (by kernel_rfl) (by kernel_rfl) (fun _ _ _ h => h) (Or.inl ⟨by rfl, ?_⟩) hHeld ?_
          rotate_left
          · intro w hSw; (try dsimp only at hSw); go_simp; try with_reducible rfl
          try simp only [Act.put, List.setIfInBounds_toArray, List.set_cons_zero, List.set_cons_succ]
          refine wpAnyH_done (by kernel_rfl) ?_ _
          go_wp2_with fail
          go_roundw
          case rel => exact ⟨j + 1, by omega, by go_num, rfl, by rw [numB, HN.out, HGX.out]; simp, by rw [partB, HP.out, HGX.out, HGY.out]; rfl, HQ.out _ hHeld⟩
          case measure => simp [intOf]; omega
      | false =>
        have HN := Aside0.mk hn
        cases hp : partB k seg j with
        | true =>
          have HP := Aside0.mk hp
          go_upto_region 11 with (fail)
          have hS : ((wr.alloc (.cells #[.int .i64 x.k, .int .u8 x.v, .int .i64 x.p.n, .int .i64 x.p.b, .int .i64 x.p.f] 42)).cell? ⟨wr.heap.size, 0, none⟩ = some (.int .i64 x.k) ∧ (wr.alloc (.cells #[.int .i64 x.k, .int .u8 x.v, .int .i64 x.p.n, .int .i64 x.p.b, .int .i64 x.p.f] 42)).cell? ⟨wr.heap.size, 1, none⟩ = some (.int .u8 x.v) ∧ (wr.alloc (.cells #[.int .i64 x.k, .int .u8 x.v, .int .i64 x.p.n, .int .i64 x.p.b, .int .i64 x.p.f] 42)).cell? ⟨wr.heap.size, 2, none⟩ = some (.int .i64 x.p.n) ∧ (wr.alloc (.cells #[.int .i64 x.k, .int .u8 x.v, .int .i64 x.p.n, .int .i64 x.p.b, .int .i64 x.p.f] 42)).cell? ⟨wr.heap.size, 3, none⟩ = some (.int .i64 x.p.b) ∧ (wr.alloc (.cells #[.int .i64 x.k, .int .u8 x.v, .int .i64 x.p.n, .int .i64 x.p.b, .int .i64 x.p.f] 42)).cell? ⟨wr.heap.size, 4, none⟩ = some (.int .i64 x.p.f) ∧ (wr.alloc (.cells #[.int .i64 x.k, .int .u8 x.v, .int .i64 x.p.n, .int .i64 x.p.b, .int .i64 x.p.f] 42)).cell? ⟨b.gb, p.n.toNat * 5 + 2, none⟩ = some (.int .i64 y.p.n) ∧ (wr.alloc (.cells #[.int .i64 x.k, .int .u8 x.v, .int .i64 x.p.n, .int .i64 x.p.b, .int .i64 x.p.f] 42)).cell? ⟨b.gb, p.n.toNat * 5 + 3, none⟩ = some (.int .i64 y.p.b) ∧ Below w1.heap.size w1 (wr.alloc (.cells #[.int .i64 x.k, .int .u8 x.v, .int .i64 x.p.n, .int .i64 x.p.b, .int .i64 x.p.f] 42))) := ⟨hS0.1, hS0.2.1, hS0.2.2.1, hS0.2.2.2.1, hS0.2.2.2.2, pw_cell_below (below_alloc (Below.refl wr.heap.size wr) _) hd.2.2.1, pw_cell_below (below_alloc (Below.refl wr.heap.size wr) _) hd.2.2.2.1, below_alloc HJ.out _⟩
          generalize hg : wr.alloc (.cells #[.int .i64 x.k, .int .u8 x.v, .int .i64 x.p.n, .int .i64 x.p.b, .int .i64 x.p.f] 42) = W2 at hS ⊢
          clear hg hc hd hS0
          have HK := Aside0.mk (show ∀ Wa Wb : World, Below Wa.heap.size Wa Wb → (Wa.cell? ⟨wr.heap.size, 0, none⟩ = some (.int .i64 x.k) ∧ Wa.cell? ⟨wr.heap.size, 1, none⟩ = some (.int .u8 x.v) ∧ Wa.cell? ⟨wr.heap.size, 2, none⟩ = some (.int .i64 x.p.n) ∧ Wa.cell? ⟨wr.heap.size, 3, none⟩ = some (.int .i64 x.p.b) ∧ Wa.cell? ⟨wr.heap.size, 4, none⟩ = some (.int .i64 x.p.f) ∧ Wa.cell? ⟨b.gb, p.n.toNat * 5 + 2, none⟩ = some (.int .i64 y.p.n) ∧ Wa.cell? ⟨b.gb, p.n.toNat * 5 + 3, none⟩ = some (.int .i64 y.p.b) ∧ Below w1.heap.size w1 Wa) → (Wb.cell? ⟨wr.heap.size, 0, none⟩ = some (.int .i64 x.k) ∧ Wb.cell? ⟨wr.heap.size, 1, none⟩ = some (.int .u8 x.v) ∧ Wb.cell? ⟨wr.heap.size, 2, none⟩ = some (.int .i64 x.p.n) ∧ Wb.cell? ⟨wr.heap.size, 3, none⟩ = some (.int .i64 x.p.b) ∧ Wb.cell? ⟨wr.heap.size, 4, none⟩ = some (.int .i64 x.p.f) ∧ Wb.cell? ⟨b.gb, p.n.toNat * 5 + 2, none⟩ = some (.int .i64 y.p.n) ∧ Wb.cell? ⟨b.gb, p.n.toNat * 5 + 3, none⟩ = some (.int .i64 y.p.b) ∧ Below w1.heap.size w1 Wb) from fun _ _ hb h => ⟨pw_cell_below hb h.1, pw_cell_below hb h.2.1, pw_cell_below hb h.2.2.1, pw_cell_below hb h.2.2.2.1, pw_cell_below hb h.2.2.2.2.1, pw_cell_below hb h.2.2.2.2.2.1, pw_cell_below hb h.2.2.2.2.2.2.1, below_step h.2.2.2.2.2.2.2 hb⟩)
          have HQ := Aside0.mk (show ∀ Wa : World, (Wa.cell? ⟨wr.heap.size, 0, none⟩ = some (.int .i64 x.k) ∧ Wa.cell? ⟨wr.heap.size, 1, none⟩ = some (.int .u8 x.v) ∧ Wa.cell? ⟨wr.heap.size, 2, none⟩ = some (.int .i64 x.p.n) ∧ Wa.cell? ⟨wr.heap.size, 3, none⟩ = some (.int .i64 x.p.b) ∧ Wa.cell? ⟨wr.heap.size, 4, none⟩ = some (.int .i64 x.p.f) ∧ Wa.cell? ⟨b.gb, p.n.toNat * 5 + 2, none⟩ = some (.int .i64 y.p.n) ∧ Wa.cell? ⟨b.gb, p.n.toNat * 5 + 3, none⟩ = some (.int .i64 y.p.b) ∧ Below w1.heap.size w1 Wa) → Below w1.heap.size w1 Wa from fun _ h => h.2.2.2.2.2.2.2)
          refine wp_region_held_drew (S := fun w' => w'.cell? ⟨wr.heap.size, 0, none⟩ = some (.int .i64 x.k) ∧ w'.cell? ⟨wr.heap.size, 1, none⟩ = some (.int .u8 x.v) ∧ w'.cell? ⟨wr.heap.size, 2, none⟩ = some (.int .i64 x.p.n) ∧ w'.cell? ⟨wr.heap.size, 3, none⟩ = some (.int .i64 x.p.b) ∧ w'.cell? ⟨wr.heap.size, 4, none⟩ = some (.int .i64 x.p.f) ∧ w'.cell? ⟨b.gb, p.n.toNat * 5 + 2, none⟩ = some (.int .i64 y.p.n) ∧ w'.cell? ⟨b.gb, p.n.toNat * 5 + 3, none⟩ = some (.int .i64 y.p.b) ∧ Below w1.heap.size w1 w') (by kernel_rfl) ⟨hS.1, hS.2.1, hS.2.2.1, hS.2.2.2.1, hS.2.2.2.2.1, hS.2.2.2.2.2.1, hS.2.2.2.2.2.2.1, below_drew hS.2.2.2.2.2.2.2⟩ (fun hHeld => ?_)
          refine wpAnyH_take (i := 0) (oi := { dst := (some 49), op := (Op.move (Operand.tmp 12)), type := 4, pos := "mem.go:131", after := #[], guard := none }) (v := ?_) rfl (by kernel_rfl) (by kernel_rfl) (by kernel_rfl) (fun _ _ _ h => h) (Or.inl ⟨by rfl, ?_⟩) hHeld ?_
          rotate_left
          · intro w hSw; (try dsimp only at hSw); go_simp; try with_reducible rfl
          try simp only [Act.put, List.setIfInBounds_toArray, List.set_cons_zero, List.set_cons_succ]
          refine wpAnyH_take (i := 1) (oi := { dst := (some 50), op := (Op.move (Operand.tmp 49)), type := 4, pos := "mem.go:131", after := #[{ on := 0, ground := Ground.data }], guard := none }) (v := ?_) rfl (by kernel_rfl) (by kernel_rfl) (by kernel_rfl) (fun _ _ _ h => h) (Or.inl ⟨by rfl, ?_⟩) hHeld ?_
          rotate_left
          · intro w hSw; (try dsimp only at hSw); go_simp; try with_reducible rfl
          try simp only [Act.put, List.setIfInBounds_toArray, List.set_cons_zero, List.set_cons_succ]
          refine wpAnyH_take (i := 2) (oi := { dst := (some 51), op := (Op.load 42 (Operand.tmp 14)), type := 42, pos := "mem.go:131", after := #[{ on := 1, ground := Ground.guard }], guard := (some (1, true)) }) (v := ?_) rfl (by kernel_rfl) (by kernel_rfl) (by kernel_rfl) (fun _ _ _ h => h) (Or.inl ⟨by rfl, ?_⟩) hHeld ?_
          rotate_left
          · intro w hSw; (try dsimp only at hSw); go_simp; try with_reducible rfl
          try simp only [Act.put, List.setIfInBounds_toArray, List.set_cons_zero, List.set_cons_succ]
          refine wpAnyH_take (i := 3) (oi := { dst := (some 52), op := (Op.move (Operand.tmp 8)), type := 38, pos := "mem.go:131", after := #[{ on := 1, ground := Ground.guard }], guard := (some (1, true)) }) (v := ?_) rfl (by kernel_rfl) (by kernel_rfl) (by kernel_rfl) (fun _ _ _ h => h) (Or.inl ⟨by rfl, ?_⟩) hHeld ?_
          rotate_left
          · intro w hSw; (try dsimp only at hSw); go_simp; try with_reducible rfl
          try simp only [Act.put, List.setIfInBounds_toArray, List.set_cons_zero, List.set_cons_succ]
          refine wpAnyH_take (i := 4) (oi := { dst := (some 53), op := (Op.indexAddr 38 (Operand.tmp 52) (Operand.const (Value.int IntKind.i64 0))), type := 0, pos := "mem.go:131", after := #[{ on := 3, ground := Ground.data }, { on := 1, ground := Ground.guard }], guard := (some (1, true)) }) (v := ?_) rfl (by kernel_rfl) (by kernel_rfl) (by kernel_rfl) (fun _ _ _ h => h) (Or.inl ⟨by rfl, ?_⟩) hHeld ?_
          rotate_left
          · intro w hSw; (try dsimp only at hSw); go_simp; try with_reducible rfl
          try simp only [Act.put, List.setIfInBounds_toArray, List.set_cons_zero, List.set_cons_succ]
          refine wpAnyH_take (i := 5) (oi := { dst := (some 54), op := (Op.fieldAddr 42 (Operand.tmp 53) 2), type := 0, pos := "mem.go:131", after := #[{ on := 4, ground := Ground.data }, { on := 1, ground := Ground.guard }], guard := (some (1, true)) }) (v := ?_) rfl (by kernel_rfl) (by kernel_rfl) (by kernel_rfl) (fun _ _ _ h => h) (Or.inl ⟨by rfl, ?_⟩) hHeld ?_
          rotate_left
          · intro w hSw; (try dsimp only at hSw); go_simp; try with_reducible rfl
          try simp only [Act.put, List.setIfInBounds_toArray, List.set_cons_zero, List.set_cons_succ]
          refine wpAnyH_take (i := 6) (oi := { dst := (some 55), op := (Op.fieldAddr 23 (Operand.tmp 54) 0), type := 0, pos := "mem.go:131", after := #[{ on := 5, ground := Ground.data }, { on := 1, ground := Ground.guard }], guard := (some (1, true)) }) (v := ?_) rfl (by kernel_rfl) (by kernel_rfl) (by kernel_rfl) (fun _ _ _ h => h) (Or.inl ⟨by rfl, ?_⟩) hHeld ?_
          rotate_left
          · intro w hSw; (try dsimp only at hSw); go_simp; try with_reducible rfl
          try simp only [Act.put, List.setIfInBounds_toArray, List.set_cons_zero, List.set_cons_succ]
          refine wpAnyH_take (i := 7) (oi := { dst := (some 56), op := (Op.load 2 (Operand.tmp 55)), type := 2, pos := "mem.go:131", after := #[{ on := 6, ground := Ground.data }, { on := 1, ground := Ground.guard }], guard := (some (1, true)) }) (v := ?_) rfl (by kernel_rfl) (by kernel_rfl) (by kernel_rfl) (fun _ _ _ h => h) (Or.inl ⟨by rfl, ?_⟩) hHeld ?_
          rotate_left
          · intro w hSw; (try dsimp only at hSw); go_simp; try with_reducible rfl
          try simp only [Act.put, List.setIfInBounds_toArray, List.set_cons_zero, List.set_cons_succ]
          refine wpAnyH_take (i := 8) (oi := { dst := (some 57), op := (Op.move (Operand.tmp 8)), type := 38, pos := "mem.go:131", after := #[{ on := 1, ground := Ground.guard }], guard := (some (1, true)) }) (v := ?_) rfl (by kernel_rfl) (by kernel_rfl) (by kernel_rfl) (fun _ _ _ h => h) (Or.inl ⟨by rfl, ?_⟩) hHeld ?_
          rotate_left
          · intro w hSw; (try dsimp only at hSw); go_simp; try with_reducible rfl
          try simp only [Act.put, List.setIfInBounds_toArray, List.set_cons_zero, List.set_cons_succ]
          refine wpAnyH_take (i := 9) (oi := { dst := (some 58), op := (Op.indexAddr 38 (Operand.tmp 57) (Operand.const (Value.int IntKind.i64 0))), type := 0, pos := "mem.go:131", after := #[{ on := 8, ground := Ground.data }, { on := 1, ground := Ground.guard }], guard := (some (1, true)) }) (v := ?_) rfl (by kernel_rfl) (by kernel_rfl) (by kernel_rfl) (fun _ _ _ h => h) (Or.inl ⟨by rfl, ?_⟩) hHeld ?_
          rotate_left
          · intro w hSw; (try dsimp only at hSw); go_simp; try with_reducible rfl
          try simp only [Act.put, List.setIfInBounds_toArray, List.set_cons_zero, List.set_cons_succ]
          refine wpAnyH_take (i := 10) (oi := { dst := (some 59), op := (Op.fieldAddr 42 (Operand.tmp 58) 2), type := 0, pos := "mem.go:131", after := #[{ on := 9, ground := Ground.data }, { on := 1, ground := Ground.guard }], guard := (some (1, true)) }) (v := ?_) rfl (by kernel_rfl) (by kernel_rfl) (by kernel_rfl) (fun _ _ _ h => h) (Or.inl ⟨by rfl, ?_⟩) hHeld ?_
          rotate_left
          · intro w hSw; (try dsimp only at hSw); go_simp; try with_reducible rfl
          try simp only [Act.put, List.setIfInBounds_toArray, List.set_cons_zero, List.set_cons_succ]
          refine wpAnyH_take (i := 11) (oi := { dst := (some 60), op := (Op.fieldAddr 23 (Operand.tmp 59) 1), type := 0, pos := "mem.go:131", after := #[{ on := 10, ground := Ground.data }, { on := 1, ground := Ground.guard }], guard := (some (1, true)) }) (v := ?_) rfl (by kernel_rfl) (by kernel_rfl) (by kernel_rfl) (fun _ _ _ h => h) (Or.inl ⟨by rfl, ?_⟩) hHeld ?_
          rotate_left
          · intro w hSw; (try dsimp only at hSw); go_simp; try with_reducible rfl
          try simp only [Act.put, List.setIfInBounds_toArray, List.set_cons_zero, List.set_cons_succ]
          refine wpAnyH_take (i := 12) (oi := { dst := (some 61), op := (Op.load 3 (Operand.tmp 60)), type := 3, pos := "mem.go:131", after := #[{ on := 11, ground := Ground.data }, { on := 1, ground := Ground.guard }], guard := (some (1, true)) }) (v := ?_) rfl (by kernel_rfl) (by kernel_rfl) (by kernel_rfl) (fun _ _ _ h => h) (Or.inl ⟨by rfl, ?_⟩) hHeld ?_
          rotate_left
          · intro w hSw; (try dsimp only at hSw); go_simp; try with_reducible rfl
          try simp only [Act.put, List.setIfInBounds_toArray, List.set_cons_zero, List.set_cons_succ]
          refine wpAnyH_take (i := 13) (oi := { dst := (some 62), op := (Op.move (Operand.tmp 13)), type := 3, pos := "mem.go:131", after := #[{ on := 1, ground := Ground.guard }], guard := (some (1, true)) }) (v := ?_) rfl (by kernel_rfl) (by kernel_rfl) (by kernel_rfl) (fun _ _ _ h => h) (Or.inl ⟨by rfl, ?_⟩) hHeld ?_
          rotate_left
          · intro w hSw; (try dsimp only at hSw); go_simp; try with_reducible rfl
          try simp only [Act.put, List.setIfInBounds_toArray, List.set_cons_zero, List.set_cons_succ]
          refine wpAnyH_take (i := 14) (oi := { dst := (some 63), op := (Op.binOp BinOp.add 3 (Operand.tmp 62) (Operand.const (Value.int IntKind.i64 1)) 3), type := 3, pos := "mem.go:131", after := #[{ on := 13, ground := Ground.data }, { on := 1, ground := Ground.guard }], guard := (some (1, true)) }) (v := ?_) rfl (by kernel_rfl) (by kernel_rfl) (by kernel_rfl) (fun _ _ _ h => h) (Or.inl ⟨by rfl, ?_⟩) hHeld ?_
          rotate_left
          · intro w hSw; (try dsimp only at hSw); go_simp; try with_reducible rfl
          try simp only [Act.put, List.setIfInBounds_toArray, List.set_cons_zero, List.set_cons_succ]
          refine wpAnyH_take (i := 15) (oi := { dst := (some 64), op := (Op.build 23 #[(0, (Operand.tmp 56)), (1, (Operand.tmp 61)), (2, (Operand.tmp 63))]), type := 23, pos := "mem.go:131", after := #[{ on := 7, ground := Ground.data }, { on := 12, ground := Ground.data }, { on := 14, ground := Ground.data }, { on := 1, ground := Ground.guard }], guard := (some (1, true)) }) (v := ?_) rfl (by kernel_rfl) (by kernel_rfl) (by kernel_rfl) (fun _ _ _ h => h) (Or.inl ⟨by rfl, ?_⟩) hHeld ?_
          rotate_left
          · intro w hSw; (try dsimp only at hSw); go_simp; try with_reducible rfl
          try simp only [Act.put, List.setIfInBounds_toArray, List.set_cons_zero, List.set_cons_succ]
          refine wpAnyH_take (i := 16) (oi := { dst := (some 65), op := (Op.build 42 #[(0, (Operand.const (Value.int IntKind.i64 2))), (2, (Operand.tmp 64))]), type := 42, pos := "mem.go:131", after := #[{ on := 15, ground := Ground.data }, { on := 1, ground := Ground.guard }], guard := (some (1, true)) }) (v := ?_) rfl (by kernel_rfl) (by kernel_rfl) (by kernel_rfl) (fun _ _ _ h => h) (Or.inl ⟨by rfl, ?_⟩) hHeld ?_
          rotate_left
          · intro w hSw; (try dsimp only at hSw); go_simp; try with_reducible rfl
          try simp only [Act.put, List.setIfInBounds_toArray, List.set_cons_zero, List.set_cons_succ]
          refine wpAnyH_take (i := 17) (oi := { dst := (some 66), op := (Op.binOp BinOp.eql 42 (Operand.tmp 51) (Operand.tmp 65) 42), type := 4, pos := "mem.go:131", after := #[{ on := 2, ground := Ground.data }, { on := 16, ground := Ground.data }, { on := 1, ground := Ground.guard }], guard := (some (1, true)) }) (v := .bool (isPart x y j)) rfl (by kernel_rfl) (by kernel_rfl) (by kernel_rfl) (fun _ _ _ h => h) (Or.inl ⟨by rfl, ?_⟩) hHeld ?_
          · intro w hSw; (try dsimp only at hSw); go_simp; exact part_if x y j _
          try simp only [Act.put, List.setIfInBounds_toArray, List.set_cons_zero, List.set_cons_succ]
          refine wpAnyH_take (i := 18) (oi := { dst := (some 67), op := (Op.pick (Operand.tmp 50) (Operand.tmp 66) (Operand.const (Value.bool false))), type := 4, pos := "mem.go:131", after := #[{ on := 1, ground := Ground.data }, { on := 17, ground := Ground.data }], guard := none }) (v := ?_) rfl (by kernel_rfl) (by kernel_rfl) (by kernel_rfl) (fun _ _ _ h => h) (Or.inl ⟨by rfl, ?_⟩) hHeld ?_
          rotate_left
          · intro w hSw; (try dsimp only at hSw); go_simp; try with_reducible rfl
          try simp only [Act.put, List.setIfInBounds_toArray, List.set_cons_zero, List.set_cons_succ]
          refine wpAnyH_take (i := 19) (oi := { dst := (some 12), op := (Op.assign (Operand.tmp 67)), type := 4, pos := "mem.go:131", after := #[{ on := 18, ground := Ground.data }, { on := 1, ground := Ground.chain }, { on := 0, ground := Ground.phase }, { on := 1, ground := Ground.phase }, { on := 2, ground := Ground.phase }, { on := 3, ground := Ground.phase }, { on := 4, ground := Ground.phase }, { on := 5, ground := Ground.phase }, { on := 6, ground := Ground.phase }, { on := 7, ground := Ground.phase }, { on := 8, ground := Ground.phase }, { on := 9, ground := Ground.phase }, { on := 10, ground := Ground.phase }, { on := 11, ground := Ground.phase }, { on := 12, ground := Ground.phase }, { on := 13, ground := Ground.phase }, { on := 14, ground := Ground.phase }, { on := 15, ground := Ground.phase }, { on := 16, ground := Ground.phase }, { on := 17, ground := Ground.phase }, { on := 18, ground := Ground.phase }], guard := none }) (v := ?_) rfl (by kernel_rfl) (by kernel_rfl) (by kernel_rfl) (fun _ _ _ h => h) (Or.inl ⟨by rfl, ?_⟩) hHeld ?_
          rotate_left
          · intro w hSw; (try dsimp only at hSw); go_simp; try with_reducible rfl
          try simp only [Act.put, List.setIfInBounds_toArray, List.set_cons_zero, List.set_cons_succ]
          refine wpAnyH_done (by kernel_rfl) ?_ _
          go_wp2_with fail
          go_roundw
          case rel => exact ⟨j + 1, by omega, by go_num, rfl, by rw [numB, HN.out, HGX.out]; rfl, by rw [partB, HP.out, HGX.out, HGY.out]; simp, HQ.out _ hHeld⟩
          case measure => simp [intOf]; omega
        | false =>
          have HP := Aside0.mk hp
          go_upto_region 11 with (fail)
          have hS : ((wr.alloc (.cells #[.int .i64 x.k, .int .u8 x.v, .int .i64 x.p.n, .int .i64 x.p.b, .int .i64 x.p.f] 42)).cell? ⟨wr.heap.size, 0, none⟩ = some (.int .i64 x.k) ∧ (wr.alloc (.cells #[.int .i64 x.k, .int .u8 x.v, .int .i64 x.p.n, .int .i64 x.p.b, .int .i64 x.p.f] 42)).cell? ⟨wr.heap.size, 1, none⟩ = some (.int .u8 x.v) ∧ (wr.alloc (.cells #[.int .i64 x.k, .int .u8 x.v, .int .i64 x.p.n, .int .i64 x.p.b, .int .i64 x.p.f] 42)).cell? ⟨wr.heap.size, 2, none⟩ = some (.int .i64 x.p.n) ∧ (wr.alloc (.cells #[.int .i64 x.k, .int .u8 x.v, .int .i64 x.p.n, .int .i64 x.p.b, .int .i64 x.p.f] 42)).cell? ⟨wr.heap.size, 3, none⟩ = some (.int .i64 x.p.b) ∧ (wr.alloc (.cells #[.int .i64 x.k, .int .u8 x.v, .int .i64 x.p.n, .int .i64 x.p.b, .int .i64 x.p.f] 42)).cell? ⟨wr.heap.size, 4, none⟩ = some (.int .i64 x.p.f) ∧ (wr.alloc (.cells #[.int .i64 x.k, .int .u8 x.v, .int .i64 x.p.n, .int .i64 x.p.b, .int .i64 x.p.f] 42)).cell? ⟨b.gb, p.n.toNat * 5 + 2, none⟩ = some (.int .i64 y.p.n) ∧ (wr.alloc (.cells #[.int .i64 x.k, .int .u8 x.v, .int .i64 x.p.n, .int .i64 x.p.b, .int .i64 x.p.f] 42)).cell? ⟨b.gb, p.n.toNat * 5 + 3, none⟩ = some (.int .i64 y.p.b) ∧ Below w1.heap.size w1 (wr.alloc (.cells #[.int .i64 x.k, .int .u8 x.v, .int .i64 x.p.n, .int .i64 x.p.b, .int .i64 x.p.f] 42))) := ⟨hS0.1, hS0.2.1, hS0.2.2.1, hS0.2.2.2.1, hS0.2.2.2.2, pw_cell_below (below_alloc (Below.refl wr.heap.size wr) _) hd.2.2.1, pw_cell_below (below_alloc (Below.refl wr.heap.size wr) _) hd.2.2.2.1, below_alloc HJ.out _⟩
          generalize hg : wr.alloc (.cells #[.int .i64 x.k, .int .u8 x.v, .int .i64 x.p.n, .int .i64 x.p.b, .int .i64 x.p.f] 42) = W2 at hS ⊢
          clear hg hc hd hS0
          have HK := Aside0.mk (show ∀ Wa Wb : World, Below Wa.heap.size Wa Wb → (Wa.cell? ⟨wr.heap.size, 0, none⟩ = some (.int .i64 x.k) ∧ Wa.cell? ⟨wr.heap.size, 1, none⟩ = some (.int .u8 x.v) ∧ Wa.cell? ⟨wr.heap.size, 2, none⟩ = some (.int .i64 x.p.n) ∧ Wa.cell? ⟨wr.heap.size, 3, none⟩ = some (.int .i64 x.p.b) ∧ Wa.cell? ⟨wr.heap.size, 4, none⟩ = some (.int .i64 x.p.f) ∧ Wa.cell? ⟨b.gb, p.n.toNat * 5 + 2, none⟩ = some (.int .i64 y.p.n) ∧ Wa.cell? ⟨b.gb, p.n.toNat * 5 + 3, none⟩ = some (.int .i64 y.p.b) ∧ Below w1.heap.size w1 Wa) → (Wb.cell? ⟨wr.heap.size, 0, none⟩ = some (.int .i64 x.k) ∧ Wb.cell? ⟨wr.heap.size, 1, none⟩ = some (.int .u8 x.v) ∧ Wb.cell? ⟨wr.heap.size, 2, none⟩ = some (.int .i64 x.p.n) ∧ Wb.cell? ⟨wr.heap.size, 3, none⟩ = some (.int .i64 x.p.b) ∧ Wb.cell? ⟨wr.heap.size, 4, none⟩ = some (.int .i64 x.p.f) ∧ Wb.cell? ⟨b.gb, p.n.toNat * 5 + 2, none⟩ = some (.int .i64 y.p.n) ∧ Wb.cell? ⟨b.gb, p.n.toNat * 5 + 3, none⟩ = some (.int .i64 y.p.b) ∧ Below w1.heap.size w1 Wb) from fun _ _ hb h => ⟨pw_cell_below hb h.1, pw_cell_below hb h.2.1, pw_cell_below hb h.2.2.1, pw_cell_below hb h.2.2.2.1, pw_cell_below hb h.2.2.2.2.1, pw_cell_below hb h.2.2.2.2.2.1, pw_cell_below hb h.2.2.2.2.2.2.1, below_step h.2.2.2.2.2.2.2 hb⟩)
          have HQ := Aside0.mk (show ∀ Wa : World, (Wa.cell? ⟨wr.heap.size, 0, none⟩ = some (.int .i64 x.k) ∧ Wa.cell? ⟨wr.heap.size, 1, none⟩ = some (.int .u8 x.v) ∧ Wa.cell? ⟨wr.heap.size, 2, none⟩ = some (.int .i64 x.p.n) ∧ Wa.cell? ⟨wr.heap.size, 3, none⟩ = some (.int .i64 x.p.b) ∧ Wa.cell? ⟨wr.heap.size, 4, none⟩ = some (.int .i64 x.p.f) ∧ Wa.cell? ⟨b.gb, p.n.toNat * 5 + 2, none⟩ = some (.int .i64 y.p.n) ∧ Wa.cell? ⟨b.gb, p.n.toNat * 5 + 3, none⟩ = some (.int .i64 y.p.b) ∧ Below w1.heap.size w1 Wa) → Below w1.heap.size w1 Wa from fun _ h => h.2.2.2.2.2.2.2)
          refine wp_region_held_drew (S := fun w' => w'.cell? ⟨wr.heap.size, 0, none⟩ = some (.int .i64 x.k) ∧ w'.cell? ⟨wr.heap.size, 1, none⟩ = some (.int .u8 x.v) ∧ w'.cell? ⟨wr.heap.size, 2, none⟩ = some (.int .i64 x.p.n) ∧ w'.cell? ⟨wr.heap.size, 3, none⟩ = some (.int .i64 x.p.b) ∧ w'.cell? ⟨wr.heap.size, 4, none⟩ = some (.int .i64 x.p.f) ∧ w'.cell? ⟨b.gb, p.n.toNat * 5 + 2, none⟩ = some (.int .i64 y.p.n) ∧ w'.cell? ⟨b.gb, p.n.toNat * 5 + 3, none⟩ = some (.int .i64 y.p.b) ∧ Below w1.heap.size w1 w') (by kernel_rfl) ⟨hS.1, hS.2.1, hS.2.2.1, hS.2.2.2.1, hS.2.2.2.2.1, hS.2.2.2.2.2.1, hS.2.2.2.2.2.2.1, below_drew hS.2.2.2.2.2.2.2⟩ (fun hHeld => ?_)
          refine wpAnyH_take (i := 0) (oi := { dst := (some 49), op := (Op.move (Operand.tmp 12)), type := 4, pos := "mem.go:131", after := #[], guard := none }) (v := ?_) rfl (by kernel_rfl) (by kernel_rfl) (by kernel_rfl) (fun _ _ _ h => h) (Or.inl ⟨by rfl, ?_⟩) hHeld ?_
          rotate_left
          · intro w hSw; (try dsimp only at hSw); go_simp; try with_reducible rfl
          try simp only [Act.put, List.setIfInBounds_toArray, List.set_cons_zero, List.set_cons_succ]
          refine wpAnyH_take (i := 1) (oi := { dst := (some 50), op := (Op.move (Operand.tmp 49)), type := 4, pos := "mem.go:131", after := #[{ on := 0, ground := Ground.data }], guard := none }) (v := ?_) rfl (by kernel_rfl) (by kernel_rfl) (by kernel_rfl) (fun _ _ _ h => h) (Or.inl ⟨by rfl, ?_⟩) hHeld ?_
          rotate_left
          · intro w hSw; (try dsimp only at hSw); go_simp; try with_reducible rfl
          try simp only [Act.put, List.setIfInBounds_toArray, List.set_cons_zero, List.set_cons_succ]
          refine wpAnyH_take (i := 2) (oi := { dst := (some 51), op := (Op.load 42 (Operand.tmp 14)), type := 42, pos := "mem.go:131", after := #[{ on := 1, ground := Ground.guard }], guard := (some (1, true)) }) rfl (by kernel_rfl) (by kernel_rfl) (by kernel_rfl) (fun _ _ _ h => h) (Or.inr ⟨by rfl, rfl⟩) hHeld ?_
          try simp only [Act.put, List.setIfInBounds_toArray, List.set_cons_zero, List.set_cons_succ]
          refine wpAnyH_take (i := 3) (oi := { dst := (some 52), op := (Op.move (Operand.tmp 8)), type := 38, pos := "mem.go:131", after := #[{ on := 1, ground := Ground.guard }], guard := (some (1, true)) }) rfl (by kernel_rfl) (by kernel_rfl) (by kernel_rfl) (fun _ _ _ h => h) (Or.inr ⟨by rfl, rfl⟩) hHeld ?_
          try simp only [Act.put, List.setIfInBounds_toArray, List.set_cons_zero, List.set_cons_succ]
          refine wpAnyH_take (i := 4) (oi := { dst := (some 53), op := (Op.indexAddr 38 (Operand.tmp 52) (Operand.const (Value.int IntKind.i64 0))), type := 0, pos := "mem.go:131", after := #[{ on := 3, ground := Ground.data }, { on := 1, ground := Ground.guard }], guard := (some (1, true)) }) rfl (by kernel_rfl) (by kernel_rfl) (by kernel_rfl) (fun _ _ _ h => h) (Or.inr ⟨by rfl, rfl⟩) hHeld ?_
          try simp only [Act.put, List.setIfInBounds_toArray, List.set_cons_zero, List.set_cons_succ]
          refine wpAnyH_take (i := 5) (oi := { dst := (some 54), op := (Op.fieldAddr 42 (Operand.tmp 53) 2), type := 0, pos := "mem.go:131", after := #[{ on := 4, ground := Ground.data }, { on := 1, ground := Ground.guard }], guard := (some (1, true)) }) rfl (by kernel_rfl) (by kernel_rfl) (by kernel_rfl) (fun _ _ _ h => h) (Or.inr ⟨by rfl, rfl⟩) hHeld ?_
          try simp only [Act.put, List.setIfInBounds_toArray, List.set_cons_zero, List.set_cons_succ]
          refine wpAnyH_take (i := 6) (oi := { dst := (some 55), op := (Op.fieldAddr 23 (Operand.tmp 54) 0), type := 0, pos := "mem.go:131", after := #[{ on := 5, ground := Ground.data }, { on := 1, ground := Ground.guard }], guard := (some (1, true)) }) rfl (by kernel_rfl) (by kernel_rfl) (by kernel_rfl) (fun _ _ _ h => h) (Or.inr ⟨by rfl, rfl⟩) hHeld ?_
          try simp only [Act.put, List.setIfInBounds_toArray, List.set_cons_zero, List.set_cons_succ]
          refine wpAnyH_take (i := 7) (oi := { dst := (some 56), op := (Op.load 2 (Operand.tmp 55)), type := 2, pos := "mem.go:131", after := #[{ on := 6, ground := Ground.data }, { on := 1, ground := Ground.guard }], guard := (some (1, true)) }) rfl (by kernel_rfl) (by kernel_rfl) (by kernel_rfl) (fun _ _ _ h => h) (Or.inr ⟨by rfl, rfl⟩) hHeld ?_
          try simp only [Act.put, List.setIfInBounds_toArray, List.set_cons_zero, List.set_cons_succ]
          refine wpAnyH_take (i := 8) (oi := { dst := (some 57), op := (Op.move (Operand.tmp 8)), type := 38, pos := "mem.go:131", after := #[{ on := 1, ground := Ground.guard }], guard := (some (1, true)) }) rfl (by kernel_rfl) (by kernel_rfl) (by kernel_rfl) (fun _ _ _ h => h) (Or.inr ⟨by rfl, rfl⟩) hHeld ?_
          try simp only [Act.put, List.setIfInBounds_toArray, List.set_cons_zero, List.set_cons_succ]
          refine wpAnyH_take (i := 9) (oi := { dst := (some 58), op := (Op.indexAddr 38 (Operand.tmp 57) (Operand.const (Value.int IntKind.i64 0))), type := 0, pos := "mem.go:131", after := #[{ on := 8, ground := Ground.data }, { on := 1, ground := Ground.guard }], guard := (some (1, true)) }) rfl (by kernel_rfl) (by kernel_rfl) (by kernel_rfl) (fun _ _ _ h => h) (Or.inr ⟨by rfl, rfl⟩) hHeld ?_
          try simp only [Act.put, List.setIfInBounds_toArray, List.set_cons_zero, List.set_cons_succ]
          refine wpAnyH_take (i := 10) (oi := { dst := (some 59), op := (Op.fieldAddr 42 (Operand.tmp 58) 2), type := 0, pos := "mem.go:131", after := #[{ on := 9, ground := Ground.data }, { on := 1, ground := Ground.guard }], guard := (some (1, true)) }) rfl (by kernel_rfl) (by kernel_rfl) (by kernel_rfl) (fun _ _ _ h => h) (Or.inr ⟨by rfl, rfl⟩) hHeld ?_
          try simp only [Act.put, List.setIfInBounds_toArray, List.set_cons_zero, List.set_cons_succ]
          refine wpAnyH_take (i := 11) (oi := { dst := (some 60), op := (Op.fieldAddr 23 (Operand.tmp 59) 1), type := 0, pos := "mem.go:131", after := #[{ on := 10, ground := Ground.data }, { on := 1, ground := Ground.guard }], guard := (some (1, true)) }) rfl (by kernel_rfl) (by kernel_rfl) (by kernel_rfl) (fun _ _ _ h => h) (Or.inr ⟨by rfl, rfl⟩) hHeld ?_
          try simp only [Act.put, List.setIfInBounds_toArray, List.set_cons_zero, List.set_cons_succ]
          refine wpAnyH_take (i := 12) (oi := { dst := (some 61), op := (Op.load 3 (Operand.tmp 60)), type := 3, pos := "mem.go:131", after := #[{ on := 11, ground := Ground.data }, { on := 1, ground := Ground.guard }], guard := (some (1, true)) }) rfl (by kernel_rfl) (by kernel_rfl) (by kernel_rfl) (fun _ _ _ h => h) (Or.inr ⟨by rfl, rfl⟩) hHeld ?_
          try simp only [Act.put, List.setIfInBounds_toArray, List.set_cons_zero, List.set_cons_succ]
          refine wpAnyH_take (i := 13) (oi := { dst := (some 62), op := (Op.move (Operand.tmp 13)), type := 3, pos := "mem.go:131", after := #[{ on := 1, ground := Ground.guard }], guard := (some (1, true)) }) rfl (by kernel_rfl) (by kernel_rfl) (by kernel_rfl) (fun _ _ _ h => h) (Or.inr ⟨by rfl, rfl⟩) hHeld ?_
          try simp only [Act.put, List.setIfInBounds_toArray, List.set_cons_zero, List.set_cons_succ]
          refine wpAnyH_take (i := 14) (oi := { dst := (some 63), op := (Op.binOp BinOp.add 3 (Operand.tmp 62) (Operand.const (Value.int IntKind.i64 1)) 3), type := 3, pos := "mem.go:131", after := #[{ on := 13, ground := Ground.data }, { on := 1, ground := Ground.guard }], guard := (some (1, true)) }) rfl (by kernel_rfl) (by kernel_rfl) (by kernel_rfl) (fun _ _ _ h => h) (Or.inr ⟨by rfl, rfl⟩) hHeld ?_
          try simp only [Act.put, List.setIfInBounds_toArray, List.set_cons_zero, List.set_cons_succ]
          refine wpAnyH_take (i := 15) (oi := { dst := (some 64), op := (Op.build 23 #[(0, (Operand.tmp 56)), (1, (Operand.tmp 61)), (2, (Operand.tmp 63))]), type := 23, pos := "mem.go:131", after := #[{ on := 7, ground := Ground.data }, { on := 12, ground := Ground.data }, { on := 14, ground := Ground.data }, { on := 1, ground := Ground.guard }], guard := (some (1, true)) }) rfl (by kernel_rfl) (by kernel_rfl) (by kernel_rfl) (fun _ _ _ h => h) (Or.inr ⟨by rfl, rfl⟩) hHeld ?_
          try simp only [Act.put, List.setIfInBounds_toArray, List.set_cons_zero, List.set_cons_succ]
          refine wpAnyH_take (i := 16) (oi := { dst := (some 65), op := (Op.build 42 #[(0, (Operand.const (Value.int IntKind.i64 2))), (2, (Operand.tmp 64))]), type := 42, pos := "mem.go:131", after := #[{ on := 15, ground := Ground.data }, { on := 1, ground := Ground.guard }], guard := (some (1, true)) }) rfl (by kernel_rfl) (by kernel_rfl) (by kernel_rfl) (fun _ _ _ h => h) (Or.inr ⟨by rfl, rfl⟩) hHeld ?_
          try simp only [Act.put, List.setIfInBounds_toArray, List.set_cons_zero, List.set_cons_succ]
          refine wpAnyH_take (i := 17) (oi := { dst := (some 66), op := (Op.binOp BinOp.eql 42 (Operand.tmp 51) (Operand.tmp 65) 42), type := 4, pos := "mem.go:131", after := #[{ on := 2, ground := Ground.data }, { on := 16, ground := Ground.data }, { on := 1, ground := Ground.guard }], guard := (some (1, true)) }) rfl (by kernel_rfl) (by kernel_rfl) (by kernel_rfl) (fun _ _ _ h => h) (Or.inr ⟨by rfl, rfl⟩) hHeld ?_
          try simp only [Act.put, List.setIfInBounds_toArray, List.set_cons_zero, List.set_cons_succ]
          refine wpAnyH_take (i := 18) (oi := { dst := (some 67), op := (Op.pick (Operand.tmp 50) (Operand.tmp 66) (Operand.const (Value.bool false))), type := 4, pos := "mem.go:131", after := #[{ on := 1, ground := Ground.data }, { on := 17, ground := Ground.data }], guard := none }) (v := ?_) rfl (by kernel_rfl) (by kernel_rfl) (by kernel_rfl) (fun _ _ _ h => h) (Or.inl ⟨by rfl, ?_⟩) hHeld ?_
          rotate_left
          · intro w hSw; (try dsimp only at hSw); go_simp; try with_reducible rfl
          try simp only [Act.put, List.setIfInBounds_toArray, List.set_cons_zero, List.set_cons_succ]
          refine wpAnyH_take (i := 19) (oi := { dst := (some 12), op := (Op.assign (Operand.tmp 67)), type := 4, pos := "mem.go:131", after := #[{ on := 18, ground := Ground.data }, { on := 1, ground := Ground.chain }, { on := 0, ground := Ground.phase }, { on := 1, ground := Ground.phase }, { on := 2, ground := Ground.phase }, { on := 3, ground := Ground.phase }, { on := 4, ground := Ground.phase }, { on := 5, ground := Ground.phase }, { on := 6, ground := Ground.phase }, { on := 7, ground := Ground.phase }, { on := 8, ground := Ground.phase }, { on := 9, ground := Ground.phase }, { on := 10, ground := Ground.phase }, { on := 11, ground := Ground.phase }, { on := 12, ground := Ground.phase }, { on := 13, ground := Ground.phase }, { on := 14, ground := Ground.phase }, { on := 15, ground := Ground.phase }, { on := 16, ground := Ground.phase }, { on := 17, ground := Ground.phase }, { on := 18, ground := Ground.phase }], guard := none }) (v := ?_) rfl (by kernel_rfl) (by kernel_rfl) (by kernel_rfl) (fun _ _ _ h => h) (Or.inl ⟨by rfl, ?_⟩) hHeld ?_
          rotate_left
          · intro w hSw; (try dsimp only at hSw); go_simp; try with_reducible rfl
          try simp only [Act.put, List.setIfInBounds_toArray, List.set_cons_zero, List.set_cons_succ]
          refine wpAnyH_done (by kernel_rfl) ?_ _
          go_wp2_with fail
          go_roundw
          case rel => exact ⟨j + 1, by omega, by go_num, rfl, by rw [numB, HN.out, HGX.out]; rfl, by rw [partB, HP.out, HGX.out, HGY.out]; rfl, HQ.out _ hHeld⟩
          case measure => simp [intOf]; omega
    · obtain rfl : j = k := by omega
      clear hj hlt
      have HJ := Aside0.mk hb
      have hz := cell3 (blk_below HZ1.out hb.out)
      have hf0 := blk_frozen (blk_below HZ1.out hb.out) 0
      have hf1 := blk_frozen (blk_below HZ1.out hb.out) 1
      have hf2 := blk_frozen (blk_below HZ1.out hb.out) 2
      have hjs : j ≤ 8 := by have := HKK.out; omega
      have hj0 : 0 < j := by have := HKK.out; omega
      obtain ⟨y, hy⟩ : ∃ y : Bt, seg[0]? = some y := ⟨_, List.getElem?_eq_getElem (by rw [HLEN.out]; exact hj0)⟩
      have hgy : seg.getD 0 zb = y := by rw [List.getD_eq_getElem?_getD, hy]; rfl
      have hd := Bytes.at_ (w := wr) (gb := b.gb) (l := l) (i := p.n.toNat) (x := y) (blk_below (blk_below HY.out HB1.out) hb.out) (by rw [HSEG.out, List.getElem?_take_of_lt hj0, List.getElem?_drop] at hy; exact hy)
      have HGY := Aside0.mk hgy
      clear hgy hy
      cases hn : numB seg j with
      | true =>
        by_cases h4 : j = 4
        · have h4b : ((j : Int) == 4) = true := beq_iff_eq.mpr (by omega)
          have HR := Aside0.mk (show loadR j seg = (⟨⟨wrap64 (wrap32 (nOf seg j)), 0, 0⟩, 0⟩ : Vl × Int) by rw [loadR, if_pos hn, if_pos h4])
          clear h4 hd
          go_wp2_with fail
          exact bodyPost_ret (results_row_tmp rfl _ _ (w.heap.size + 1) 23 _ (0, 0) _ rfl (blk_put3 (blk_below HZ1.out HJ.out) _ _ _) Try.underlying23 rfl (by kernel_rfl)) rfl ⟨by rw [HR.out]; rfl, load_kept HB1.out HJ.out _ _ _⟩
        · have h4b : ((j : Int) == 4) = false := beq_eq_false_iff_ne.mpr (by omega)
          have HR := Aside0.mk (show loadR j seg = (⟨⟨wrap64 (nOf seg j), 0, 0⟩, 0⟩ : Vl × Int) by rw [loadR, if_pos hn, if_neg h4])
          clear h4 hd
          go_wp2_with fail
          exact bodyPost_ret (results_row_tmp rfl _ _ (w.heap.size + 1) 23 _ (0, 0) _ rfl (blk_put3 (blk_below HZ1.out HJ.out) _ _ _) Try.underlying23 rfl (by kernel_rfl)) rfl ⟨by rw [HR.out]; rfl, load_kept HB1.out HJ.out _ _ _⟩
      | false =>
        cases hp : partB j seg j with
        | true =>
          have HR := Aside0.mk (show loadR j seg = (⟨⟨y.p.n, y.p.b, 0⟩, 0⟩ : Vl × Int) by rw [loadR, hn, if_neg (by decide), if_pos hp, HGY.out])
          go_upto_region 18 with (fail)
          go_still_tail 11, (by kernel_rfl)
          change wpList _ _ _ _ _ wr.drew
          replace HJ := Aside0.mk (below_drew HJ.out)
          have hzd : wr.drew.cell? ⟨w.heap.size + 1, 0, none⟩ = some (.int .i64 0) ∧ wr.drew.cell? ⟨w.heap.size + 1, 1, none⟩ = some (.int .i64 0) ∧ wr.drew.cell? ⟨w.heap.size + 1, 2, none⟩ = some (.int .i64 0) := hz
          have hdd : wr.drew.cell? ⟨b.gb, p.n.toNat * 5 + 2, none⟩ = some (.int .i64 y.p.n) ∧ wr.drew.cell? ⟨b.gb, p.n.toNat * 5 + 3, none⟩ = some (.int .i64 y.p.b) := ⟨hd.2.2.1, hd.2.2.2.1⟩
          have hg0 := blk_frozen (blk_below HZ1.out HJ.out) 0
          have hg1 := blk_frozen (blk_below HZ1.out HJ.out) 1
          have hg2 := blk_frozen (blk_below HZ1.out HJ.out) 2
          clear hz hd hf0 hf1 hf2
          generalize wr.drew = wd at HJ hzd hdd hg0 hg1 hg2 ⊢
          go_wp2_with fail
          exact bodyPost_ret (results_row_tmp rfl _ _ (w.heap.size + 1) 23 _ (0, 0) _ rfl (blk_put3 (blk_below HZ1.out HJ.out) _ _ _) Try.underlying23 rfl (by kernel_rfl)) rfl ⟨by rw [HR.out]; rfl, load_kept HB1.out HJ.out _ _ _⟩
        | false =>
          by_cases h1 : j = 1
          · have h1b : ((j : Int) == 1) = true := beq_iff_eq.mpr (by omega)
            by_cases h2 : y.k = 2
            · have h2b : (y.k == 2) = true := beq_iff_eq.mpr h2
              have HR := Aside0.mk (show loadR j seg = (⟨y.p, 0⟩ : Vl × Int) by rw [loadR, hn, if_neg (by decide), hp, if_neg (by decide), if_pos ⟨h1, by rw [HGY.out]; exact h2⟩, HGY.out])
              clear h2 h1
              go_wp2_with fail
              exact bodyPost_ret (results_row_tmp rfl _ _ (w.heap.size + 1) 23 _ (0, 0) _ rfl (blk_put3 (blk_below HZ1.out HJ.out) _ _ _) Try.underlying23 rfl (by kernel_rfl)) rfl ⟨by rw [HR.out]; rfl, load_kept HB1.out HJ.out _ _ _⟩
            · have h2b : (y.k == 2) = false := beq_eq_false_iff_ne.mpr h2
              have HR := Aside0.mk (show loadR j seg = (⟨⟨0, 0, 0⟩, 9⟩ : Vl × Int) by rw [loadR, hn, if_neg (by decide), hp, if_neg (by decide), if_neg (fun h => h2 (by rw [HGY.out] at h; exact h.2))])
              clear h2 h1
              go_wp2_with fail
              exact bodyPost_ret (results_row_tmp rfl _ _ (w.heap.size + 1) 23 _ (0, 0) _ rfl (blk_put3 (blk_below HZ1.out HJ.out) _ _ _) Try.underlying23 rfl (by kernel_rfl)) rfl ⟨by rw [HR.out]; rfl, load_kept HB1.out HJ.out _ _ _⟩
          · have h1b : ((j : Int) == 1) = false := beq_eq_false_iff_ne.mpr (by omega)
            have HR := Aside0.mk (show loadR j seg = (⟨⟨0, 0, 0⟩, 9⟩ : Vl × Int) by rw [loadR, hn, if_neg (by decide), hp, if_neg (by decide), if_neg (fun h => h1 h.1)])
            clear h1
            go_wp2_with fail
            exact bodyPost_ret (results_row_tmp rfl _ _ (w.heap.size + 1) 23 _ (0, 0) _ rfl (blk_put3 (blk_below HZ1.out HJ.out) _ _ _) Try.underlying23 rfl (by kernel_rfl)) rfl ⟨by rw [HR.out]; rfl, load_kept HB1.out HJ.out _ _ _⟩
end Go.Proofs.Yteogfjhmjlelnaa.G
