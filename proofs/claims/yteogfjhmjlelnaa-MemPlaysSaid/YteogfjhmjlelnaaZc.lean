/- Merged texts (by slim.py): what the law's proof names. -/
import Derived.Lib.LazyBuf
import Derived.Deep.RegionLaw
import Derived.BigRegion
import Derived.Laws.CopyOwn
import Derived.ProofKit
import Derived.OpenShut
import Derived.ShutString
import Derived.ChangeOld
import Derived.SizedLaws
import Derived.Test.YteogfjhmjlelnaaProg
import Derived.Below
import Derived.Deep.Draws
import Derived.Deep.AppendLies
import Derived.Maps.AppendAt
import Derived.OwnWalk
import Derived.Laws.BytesArg
import Derived.Laws.MakeOwn
import Derived.Laws.OwnMore
import Derived.Deep.OwnRows
import Derived.Tactics
import Derived.Lib.ConvBytes
import Derived.Laws.Slices
import Derived.WalkKit
import Derived.KernelRfl
import Derived.RowKit3
import Derived.Deep.LoopGhost
import Derived.Deep.QuietTactic
import Derived.BigQuiet
import Derived.WideLaws
import Derived.Deep.DeepCutAuto
import Derived.Deep.CutBlock
import Derived.Deep.RegionHeld3
import Derived.Laws.Rows
import Derived.Lib.AppendStr
import Derived.ArgAppend
import Derived.Laws.IdiomCopy
import Derived.OrdersHeld
import Derived.Laws.BitsLemmas
import Derived.RowKit
import Derived.Test.YteogfjhmjlelnaaZb
set_option linter.unusedVariables false
set_option linter.unusedSimpArgs false
namespace Go.Proofs.Yteogfjhmjlelnaa.G
open Go.RowKit Go.Proofs.Yteogfjhmjlelnaa.B Go.Proofs.YteogfjhmjlelnaaW.PrintWords Go.Proofs.YteogfjhmjlelnaaW.PrintLast Go.Proofs.YteogfjhmjlelnaaW.PrintMore
def zb : Bt := ⟨0, 0, ⟨0, 0, 0⟩⟩
def nOf (seg : List Bt) : Nat → Int
 | 0 => 0
 | i + 1 => nOf seg i + (seg.getD i zb).v * 2 ^ (8 * i)
def numB (seg : List Bt) : Nat → Bool
 | 0 => true
 | i + 1 => numB seg i && (seg.getD i zb).k == 1
def isPart (x y : Bt) (j : Nat) : Bool := x.k == 2 && x.v == 0 && x.p.n == y.p.n && x.p.b == y.p.b && x.p.f == (j : Int) + 1
def partB (k : Nat) (seg : List Bt) : Nat → Bool
 | 0 => (k : Int) == 8
 | i + 1 => partB k seg i && isPart (seg.getD i zb) (seg.getD 0 zb) i
theorem part_if (x y : Bt) (j : Nat) (w : World) :
  (if x.k = 2 then if x.v = 0 then if x.p.n = y.p.n then if x.p.b = y.p.b then if x.p.f = (j : Int) + 1 then Result.ok (Next.value (Value.bool true)) w else Result.ok (Next.value (Value.bool false)) w else Result.ok (Next.value (Value.bool false)) w else Result.ok (Next.value (Value.bool false)) w else Result.ok (Next.value (Value.bool false)) w else Result.ok (Next.value (Value.bool false)) w) = Result.ok (Next.value (Value.bool (isPart x y j))) w := by
 unfold isPart
 repeat' split
 all_goals simp_all
theorem cells5 {W : World} {g t : Nat} {a b c d e : Value} (h : W.heap[g]? = some (.cells #[a, b, c, d, e] t (0, 0))) :
  W.cell? ⟨g, 0, none⟩ = some a ∧ W.cell? ⟨g, 1, none⟩ = some b ∧ W.cell? ⟨g, 2, none⟩ = some c ∧ W.cell? ⟨g, 3, none⟩ = some d ∧ W.cell? ⟨g, 4, none⟩ = some e :=
 ⟨(q16 h 0).trans rfl, (q16 h 1).trans rfl, (q16 h 2).trans rfl, (q16 h 3).trans rfl, (q16 h 4).trans rfl⟩
theorem nOf_bound {seg : List Bt} (hv : ∀ x ∈ seg, 0 ≤ x.v ∧ x.v ≤ 255) : ∀ i, i ≤ seg.length → 0 ≤ nOf seg i ∧ nOf seg i < 2 ^ (8 * i)
 | 0, _ => by simp [nOf]
 | i + 1, hi => by
  obtain ⟨h1, h2⟩ := nOf_bound hv i (by omega)
  have hx := hv _ (List.getElem_mem (show i < seg.length by omega))
  have hg : (seg.getD i zb) = seg[i] := by simp [List.getD_eq_getElem?_getD, List.getElem?_eq_getElem (show i < seg.length by omega)]
  simp only [nOf, hg]
  have hp : (0 : Int) < 2 ^ (8 * i) := Int.pow_pos (by decide)
  rw [show (2 : Int) ^ (8 * (i + 1)) = 256 * 2 ^ (8 * i) by rw [show 8 * (i + 1) = 8 * i + 8 by omega, Int.pow_add]; omega]
  have h3 : 0 ≤ seg[i].v * 2 ^ (8 * i) := Int.mul_nonneg hx.1 (Int.le_of_lt hp)
  have h4 : seg[i].v * 2 ^ (8 * i) ≤ 255 * 2 ^ (8 * i) := Int.mul_le_mul_of_nonneg_right hx.2 (Int.le_of_lt hp)
  omega
def loadR (k : Nat) (seg : List Bt) : Vl × Int :=
 if numB seg k = true then (if k = 4 then (⟨wrap64 (wrap32 (nOf seg k)), 0, 0⟩, 0) else (⟨wrap64 (nOf seg k), 0, 0⟩, 0))
 else if partB k seg k = true then (⟨(seg.getD 0 zb).p.n, (seg.getD 0 zb).p.b, 0⟩, 0)
 else if k = 1 ∧ (seg.getD 0 zb).k = 2 then ((seg.getD 0 zb).p, 0) else (⟨0, 0, 0⟩, 9)
theorem load_kept {w w1 w2 : World} (h1 : Below w.heap.size w w1) (h2 : Below w1.heap.size w1 w2) (a b c : Value) :
  Below w.heap.size w (((w2.setCell ⟨w.heap.size + 1, 0, none⟩ a).setCell ⟨w.heap.size + 1, 1, none⟩ b).setCell ⟨w.heap.size + 1, 2, none⟩ c) :=
 (((Kp.of_below (q20 h1 h2) (fun _ => False)).setCell (.inr (by simp)) a).setCell (.inr (by simp)) b |>.setCell (.inr (by simp)) c).to_below (fun _ h => h.elim)
theorem okAt_spec {bs : List Blk} {p : Vl} {n : Int} {b : Blk} (h : okAt bs p n = some b) : 0 ≤ n ∧ n ≤ 4096 ∧ 0 ≤ p.n ∧ p.n ≤ (b.n : Int) - n ∧ b.there = true ∧ bs[p.b.toNat - 1]? = some b := by
 unfold okAt at h
 split at h
 ·split at h
  ·rename_i b' hb
   split at h
   ·rename_i hc
    cases h
    exact ⟨hc.2.1, hc.2.2.1, hc.2.2.2.1, hc.2.2.2.2, hc.1, hb⟩
   ·cases h
  ·cases h
 ·cases h
theorem u8_u64 {a : Int} (h : 0 ≤ a ∧ a ≤ 255) : IntKind.u64.wrap a = a := by rw [IntKind.wrap_u64]; omega
theorem pow8 (j : Nat) (hj : j < 8) : (2 : Int) ^ (8 * (j + 1)) ≤ 18446744073709551616 ∧ (2 : Int) ^ (8 * (j + 1)) = 256 * 2 ^ (8 * j) ∧ (0 : Int) < 2 ^ (8 * j) := by
 have : j = 0 ∨ j = 1 ∨ j = 2 ∨ j = 3 ∨ j = 4 ∨ j = 5 ∨ j = 6 ∨ j = 7 := by omega
 rcases this with rfl | rfl | rfl | rfl | rfl | rfl | rfl | rfl <;> decide
theorem or_step {seg : List Bt} (hv : ∀ x ∈ seg, 0 ≤ x.v ∧ x.v ≤ 255) {j : Nat} {x : Bt} (hx : seg[j]? = some x) (hj : j < 8) : bits .or .u64 (nOf seg j) (IntKind.u64.wrap (x.v * 2 ^ (8 * j))) = nOf seg (j + 1) := by
 have hl := (List.getElem?_eq_some_iff.1 hx).1
 obtain ⟨h1, h2⟩ := nOf_bound hv j (by omega)
 obtain ⟨p1, p2, p3⟩ := pow8 j hj
 have hxv := hv x (List.mem_of_getElem? hx)
 have hg : seg.getD j zb = x := by rw [List.getD_eq_getElem?_getD, hx]; rfl
 have h3 : 0 ≤ x.v * 2 ^ (8 * j) := Int.mul_nonneg hxv.1 (Int.le_of_lt p3)
 have h4 : x.v * 2 ^ (8 * j) ≤ 255 * 2 ^ (8 * j) := Int.mul_le_mul_of_nonneg_right hxv.2 (Int.le_of_lt p3)
 rw [show IntKind.u64.wrap (x.v * 2 ^ (8 * j)) = x.v * 2 ^ (8 * j) by rw [IntKind.wrap_u64]; omega]
 rw [show bits .or .u64 (nOf seg j) (x.v * 2 ^ (8 * j)) = bits .or .u64 (x.v * 2 ^ (8 * j)) (nOf seg j) by simp only [bits, BitVec.or_comm]]
 have hb := bits_join .u64 64 (by decide) (fun n h0 h1 => by rw [IntKind.wrap_u64]; omega) (8 * j) (x.v * 2 ^ (8 * j)) (nOf seg j) h3 (Int.mul_emod_left _ _) (by omega) h1 h2 (by omega)
 rw [hb, nOf, hg]
 omega
set_option maxRecDepth 100000 in
set_option maxHeartbeats 8000000 in
theorem load_loop (p : Vl) (k : Nat) (hk : k = 1 ∨ k = 4 ∨ k = 8) (gm : Nat) (v : Value) (bs : List Blk) (b : Blk) (l seg : List Bt) (w : World) (hM : IsMem w gm v bs) (hs : ∀ b ∈ bs, b.n ≤ 4096) (h : okAt bs p k = some b) (hl : Bytes w b.gb l) (hln : l.length = b.n) (hseg : seg = (l.drop p.n.toNat).take k) (hv : ∀ x ∈ l, 0 ≤ x.v ∧ x.v ≤ 255) :
  Calls Try.prog 14 #[.pointer (some ⟨gm, 0, none⟩), .agg #[.int .i64 p.n, .int .i64 p.b, .int .i64 p.f], .int .i64 k] w fun e w' => e = .returned (.tuple #[.agg #[.int .i64 (loadR k seg).1.n, .int .i64 (loadR k seg).1.b, .int .i64 (loadR k seg).1.f], .int .i64 (loadR k seg).2]) ∧ Below w.heap.size w w' := by
 have HM := Aside0.mk hM
 have HS := Aside0.mk hs
 have HO := Aside0.mk h
 have HY := Aside0.mk hl
 have HKK := Aside0.mk hk
 have HSEG := Aside0.mk hseg
 have HLN := Aside0.mk hln
 have HV := Aside0.mk hv
 have hsp := okAt_spec h
 have HLEN := Aside0.mk (show seg.length = k by rw [hseg, List.length_take, List.length_drop]; omega)
 have HSP := Aside0.mk hsp
 have HBW := Aside0.mk (q10 (q10 (Below.refl w.heap.size w) (.cells #[.int .i64 p.n, .int .i64 p.b, .int .i64 p.f] 23)) (.cells #[.int .i64 0, .int .i64 0, .int .i64 0] 23))
 have hX := Aside0.mk (q12 (q33 w (.cells #[.int .i64 p.n, .int .i64 p.b, .int .i64 p.f] 23)) (.cells #[.int .i64 0, .int .i64 0, .int .i64 0] 23))
 have hZ := Aside0.mk (q46 (W := w.alloc (.cells #[.int .i64 p.n, .int .i64 p.b, .int .i64 p.f] 23)) (n := w.heap.size + 1) (.cells #[.int .i64 0, .int .i64 0, .int .i64 0] 23) (by simp))
 clear hM hs h hl hk hseg hln hv hsp
 go_enter Try.func14, Try.ntmps14
 go_upto_region 1 with (fail)
 generalize (w.alloc (.cells #[.int .i64 p.n, .int .i64 p.b, .int .i64 p.f] 23)).alloc (.cells #[.int .i64 0, .int .i64 0, .int .i64 0] 23) = W at HBW hX hZ ⊢
 have hx := cell3 hX.out
 go_upto_region 2 with (first | (go_at_call 32; refine (wide_good p k HKK.out gm v bs b _ (HM.out.below HBW.out) HS.out HO.out).mono ?_; rintro e w1 ⟨rfl, hb1⟩))
 have HZ1 := Aside0.mk (q19 hZ.out hb1)
 have HB1 := Aside0.mk (q20 HBW.out hb1)
 clear hx hX hZ hb1 HBW
 go_upto_block 0 with (fail)
 go_wp2_with fail
 go_loopw [30, 10, 11, 12] (fun i n nu pa wx => ∃ j : Nat, j ≤ k ∧ i = .int .i64 j ∧ n = .int .u64 (nOf seg j) ∧ nu = .bool (numB seg j) ∧ pa = .bool (partB k seg j) ∧ Hid (Below w1.heap.size w1 wx)) (fun i _ _ _ _ => k - (intOf i).toNat)
 case atStart => exact ⟨0, Nat.zero_le _, rfl, rfl, rfl, rfl, Below.refl _ _⟩
 case round =>
  obtain ⟨j, hj, rfl, rfl, rfl, rfl, hb⟩ := hrel
  by_cases hlt : j < k
  ·have hk0 : 0 < k := by omega
   have hk8 : k ≤ 8 := by have := HKK.out; omega
   obtain ⟨x, hx⟩ : ∃ x : Bt, seg[j]? = some x := ⟨_, List.getElem?_eq_getElem (by rw [HLEN.out]; exact hlt)⟩
   obtain ⟨y, hy⟩ : ∃ y : Bt, seg[0]? = some y := ⟨_, List.getElem?_eq_getElem (by rw [HLEN.out]; exact hk0)⟩
   have HSX := Aside0.mk hx
   have HSY := Aside0.mk hy
   have hc := Bytes.at_ (w := wr) (gb := b.gb) (l := l) (i := p.n.toNat + j) (x := x) (q19 (q19 HY.out HB1.out) hb.out) (by rw [HSEG.out, List.getElem?_take_of_lt hlt, List.getElem?_drop] at hx; exact hx)
   have hd := Bytes.at_ (w := wr) (gb := b.gb) (l := l) (i := p.n.toNat) (x := y) (q19 (q19 HY.out HB1.out) hb.out) (by rw [HSEG.out, List.getElem?_take_of_lt hk0, List.getElem?_drop] at hy; exact hy)
   rw [Nat.add_mul] at hc
   clear hx hy
   have hvs : ∀ z ∈ seg, 0 ≤ z.v ∧ z.v ≤ 255 := fun z hz => HV.out z (by rw [HSEG.out] at hz; exact List.mem_of_mem_drop (List.mem_of_mem_take hz))
   have hv0 : IntKind.u64.wrap x.v = x.v := u8_u64 (hvs x (List.mem_of_getElem? HSX.out))
   have hw8 : wrap64 (8 * (j : Int)) = 8 * (j : Int) := by unfold wrap64; omega
   have hor := or_step hvs HSX.out (by omega)
   have HGX := Aside0.mk (show seg.getD j zb = x by rw [List.getD_eq_getElem?_getD, HSX.out]; rfl)
   have HGY := Aside0.mk (show seg.getD 0 zb = y by rw [List.getD_eq_getElem?_getD, HSY.out]; rfl)
   clear hvs
   have hwj : IntKind.i64.wrap ((j : Int) + 1) = (j : Int) + 1 := by rw [IntKind.wrap_i64]; omega
   have hjk : ((j : Int) < (k : Int)) := by omega
   have HJ := Aside0.mk hb
   have hS0 := cells5 (q33 wr (.cells #[.int .i64 x.k, .int .u8 x.v, .int .i64 x.p.n, .int .i64 x.p.b, .int .i64 x.p.f] 42))
   cases hn : numB seg j with
   | true =>
    have HN := Aside0.mk hn
    cases hp : partB k seg j with
    | true =>
     have HP := Aside0.mk hp
     go_upto_region 11 with (fail)
     have hS : ((wr.alloc (.cells #[.int .i64 x.k, .int .u8 x.v, .int .i64 x.p.n, .int .i64 x.p.b, .int .i64 x.p.f] 42)).cell? ⟨wr.heap.size, 0, none⟩ = some (.int .i64 x.k) ∧ (wr.alloc (.cells #[.int .i64 x.k, .int .u8 x.v, .int .i64 x.p.n, .int .i64 x.p.b, .int .i64 x.p.f] 42)).cell? ⟨wr.heap.size, 1, none⟩ = some (.int .u8 x.v) ∧ (wr.alloc (.cells #[.int .i64 x.k, .int .u8 x.v, .int .i64 x.p.n, .int .i64 x.p.b, .int .i64 x.p.f] 42)).cell? ⟨wr.heap.size, 2, none⟩ = some (.int .i64 x.p.n) ∧ (wr.alloc (.cells #[.int .i64 x.k, .int .u8 x.v, .int .i64 x.p.n, .int .i64 x.p.b, .int .i64 x.p.f] 42)).cell? ⟨wr.heap.size, 3, none⟩ = some (.int .i64 x.p.b) ∧ (wr.alloc (.cells #[.int .i64 x.k, .int .u8 x.v, .int .i64 x.p.n, .int .i64 x.p.b, .int .i64 x.p.f] 42)).cell? ⟨wr.heap.size, 4, none⟩ = some (.int .i64 x.p.f) ∧ (wr.alloc (.cells #[.int .i64 x.k, .int .u8 x.v, .int .i64 x.p.n, .int .i64 x.p.b, .int .i64 x.p.f] 42)).cell? ⟨b.gb, p.n.toNat * 5 + 2, none⟩ = some (.int .i64 y.p.n) ∧ (wr.alloc (.cells #[.int .i64 x.k, .int .u8 x.v, .int .i64 x.p.n, .int .i64 x.p.b, .int .i64 x.p.f] 42)).cell? ⟨b.gb, p.n.toNat * 5 + 3, none⟩ = some (.int .i64 y.p.b) ∧ Below w1.heap.size w1 (wr.alloc (.cells #[.int .i64 x.k, .int .u8 x.v, .int .i64 x.p.n, .int .i64 x.p.b, .int .i64 x.p.f] 42))) := ⟨hS0.1, hS0.2.1, hS0.2.2.1, hS0.2.2.2.1, hS0.2.2.2.2, q22 (q10 (Below.refl wr.heap.size wr) _) hd.2.2.1, q22 (q10 (Below.refl wr.heap.size wr) _) hd.2.2.2.1, q10 HJ.out _⟩
     generalize hg : wr.alloc (.cells #[.int .i64 x.k, .int .u8 x.v, .int .i64 x.p.n, .int .i64 x.p.b, .int .i64 x.p.f] 42) = W2 at hS ⊢
     clear hg hc hd hS0
     have HK := Aside0.mk (show ∀ Wa Wb : World, Below Wa.heap.size Wa Wb → (Wa.cell? ⟨wr.heap.size, 0, none⟩ = some (.int .i64 x.k) ∧ Wa.cell? ⟨wr.heap.size, 1, none⟩ = some (.int .u8 x.v) ∧ Wa.cell? ⟨wr.heap.size, 2, none⟩ = some (.int .i64 x.p.n) ∧ Wa.cell? ⟨wr.heap.size, 3, none⟩ = some (.int .i64 x.p.b) ∧ Wa.cell? ⟨wr.heap.size, 4, none⟩ = some (.int .i64 x.p.f) ∧ Wa.cell? ⟨b.gb, p.n.toNat * 5 + 2, none⟩ = some (.int .i64 y.p.n) ∧ Wa.cell? ⟨b.gb, p.n.toNat * 5 + 3, none⟩ = some (.int .i64 y.p.b) ∧ Below w1.heap.size w1 Wa) → (Wb.cell? ⟨wr.heap.size, 0, none⟩ = some (.int .i64 x.k) ∧ Wb.cell? ⟨wr.heap.size, 1, none⟩ = some (.int .u8 x.v) ∧ Wb.cell? ⟨wr.heap.size, 2, none⟩ = some (.int .i64 x.p.n) ∧ Wb.cell? ⟨wr.heap.size, 3, none⟩ = some (.int .i64 x.p.b) ∧ Wb.cell? ⟨wr.heap.size, 4, none⟩ = some (.int .i64 x.p.f) ∧ Wb.cell? ⟨b.gb, p.n.toNat * 5 + 2, none⟩ = some (.int .i64 y.p.n) ∧ Wb.cell? ⟨b.gb, p.n.toNat * 5 + 3, none⟩ = some (.int .i64 y.p.b) ∧ Below w1.heap.size w1 Wb) from fun _ _ hb h => ⟨q22 hb h.1, q22 hb h.2.1, q22 hb h.2.2.1, q22 hb h.2.2.2.1, q22 hb h.2.2.2.2.1, q22 hb h.2.2.2.2.2.1, q22 hb h.2.2.2.2.2.2.1, q20 h.2.2.2.2.2.2.2 hb⟩)
     have HQ := Aside0.mk (show ∀ Wa : World, (Wa.cell? ⟨wr.heap.size, 0, none⟩ = some (.int .i64 x.k) ∧ Wa.cell? ⟨wr.heap.size, 1, none⟩ = some (.int .u8 x.v) ∧ Wa.cell? ⟨wr.heap.size, 2, none⟩ = some (.int .i64 x.p.n) ∧ Wa.cell? ⟨wr.heap.size, 3, none⟩ = some (.int .i64 x.p.b) ∧ Wa.cell? ⟨wr.heap.size, 4, none⟩ = some (.int .i64 x.p.f) ∧ Wa.cell? ⟨b.gb, p.n.toNat * 5 + 2, none⟩ = some (.int .i64 y.p.n) ∧ Wa.cell? ⟨b.gb, p.n.toNat * 5 + 3, none⟩ = some (.int .i64 y.p.b) ∧ Below w1.heap.size w1 Wa) → Below w1.heap.size w1 Wa from fun _ h => h.2.2.2.2.2.2.2)
     refine wp_region_held_drew (S := fun w' => w'.cell? ⟨wr.heap.size, 0, none⟩ = some (.int .i64 x.k) ∧ w'.cell? ⟨wr.heap.size, 1, none⟩ = some (.int .u8 x.v) ∧ w'.cell? ⟨wr.heap.size, 2, none⟩ = some (.int .i64 x.p.n) ∧ w'.cell? ⟨wr.heap.size, 3, none⟩ = some (.int .i64 x.p.b) ∧ w'.cell? ⟨wr.heap.size, 4, none⟩ = some (.int .i64 x.p.f) ∧ w'.cell? ⟨b.gb, p.n.toNat * 5 + 2, none⟩ = some (.int .i64 y.p.n) ∧ w'.cell? ⟨b.gb, p.n.toNat * 5 + 3, none⟩ = some (.int .i64 y.p.b) ∧ Below w1.heap.size w1 w') (by kernel_rfl) ⟨hS.1, hS.2.1, hS.2.2.1, hS.2.2.2.1, hS.2.2.2.2.1, hS.2.2.2.2.2.1, hS.2.2.2.2.2.2.1, q39 hS.2.2.2.2.2.2.2⟩ (fun hHeld => ?_)
     refine wpAnyH_take (i := 0) (oi := { dst := (some 49), op := (Op.move (Operand.tmp 12)), type := 4, pos := "mem.go:131", after := #[], guard := none }) (v := ?_) rfl (by kernel_rfl) (by kernel_rfl) (by kernel_rfl) (fun _ _ _ h => h) (Or.inl ⟨by rfl, ?_⟩) hHeld ?_
     rotate_left
     ·intro w hSw; (try dsimp only at hSw); go_simp; try with_reducible rfl
     try simp only [Act.put, List.setIfInBounds_toArray, List.set_cons_zero, List.set_cons_succ]
     refine wpAnyH_take (i := 1) (oi := { dst := (some 50), op := (Op.move (Operand.tmp 49)), type := 4, pos := "mem.go:131", after := #[{ on := 0, ground := Ground.data }], guard := none }) (v := ?_) rfl (by kernel_rfl) (by kernel_rfl) (by kernel_rfl) (fun _ _ _ h => h) (Or.inl ⟨by rfl, ?_⟩) hHeld ?_
     rotate_left
     ·intro w hSw; (try dsimp only at hSw); go_simp; try with_reducible rfl
     try simp only [Act.put, List.setIfInBounds_toArray, List.set_cons_zero, List.set_cons_succ]
     refine wpAnyH_take (i := 2) (oi := { dst := (some 51), op := (Op.load 42 (Operand.tmp 14)), type := 42, pos := "mem.go:131", after := #[{ on := 1, ground := Ground.guard }], guard := (some (1, true)) }) (v := ?_) rfl (by kernel_rfl) (by kernel_rfl) (by kernel_rfl) (fun _ _ _ h => h) (Or.inl ⟨by rfl, ?_⟩) hHeld ?_
     rotate_left
     ·intro w hSw; (try dsimp only at hSw); go_simp; try with_reducible rfl
     try simp only [Act.put, List.setIfInBounds_toArray, List.set_cons_zero, List.set_cons_succ]
     refine wpAnyH_take (i := 3) (oi := { dst := (some 52), op := (Op.move (Operand.tmp 8)), type := 38, pos := "mem.go:131", after := #[{ on := 1, ground := Ground.guard }], guard := (some (1, true)) }) (v := ?_) rfl (by kernel_rfl) (by kernel_rfl) (by kernel_rfl) (fun _ _ _ h => h) (Or.inl ⟨by rfl, ?_⟩) hHeld ?_
     rotate_left
     ·intro w hSw; (try dsimp only at hSw); go_simp; try with_reducible rfl
     try simp only [Act.put, List.setIfInBounds_toArray, List.set_cons_zero, List.set_cons_succ]
     refine wpAnyH_take (i := 4) (oi := { dst := (some 53), op := (Op.indexAddr 38 (Operand.tmp 52) (Operand.const (Value.int IntKind.i64 0))), type := 0, pos := "mem.go:131", after := #[{ on := 3, ground := Ground.data }, { on := 1, ground := Ground.guard }], guard := (some (1, true)) }) (v := ?_) rfl (by kernel_rfl) (by kernel_rfl) (by kernel_rfl) (fun _ _ _ h => h) (Or.inl ⟨by rfl, ?_⟩) hHeld ?_
     rotate_left
     ·intro w hSw; (try dsimp only at hSw); go_simp; try with_reducible rfl
     try simp only [Act.put, List.setIfInBounds_toArray, List.set_cons_zero, List.set_cons_succ]
     refine wpAnyH_take (i := 5) (oi := { dst := (some 54), op := (Op.fieldAddr 42 (Operand.tmp 53) 2), type := 0, pos := "mem.go:131", after := #[{ on := 4, ground := Ground.data }, { on := 1, ground := Ground.guard }], guard := (some (1, true)) }) (v := ?_) rfl (by kernel_rfl) (by kernel_rfl) (by kernel_rfl) (fun _ _ _ h => h) (Or.inl ⟨by rfl, ?_⟩) hHeld ?_
     rotate_left
     ·intro w hSw; (try dsimp only at hSw); go_simp; try with_reducible rfl
     try simp only [Act.put, List.setIfInBounds_toArray, List.set_cons_zero, List.set_cons_succ]
     refine wpAnyH_take (i := 6) (oi := { dst := (some 55), op := (Op.fieldAddr 23 (Operand.tmp 54) 0), type := 0, pos := "mem.go:131", after := #[{ on := 5, ground := Ground.data }, { on := 1, ground := Ground.guard }], guard := (some (1, true)) }) (v := ?_) rfl (by kernel_rfl) (by kernel_rfl) (by kernel_rfl) (fun _ _ _ h => h) (Or.inl ⟨by rfl, ?_⟩) hHeld ?_
     rotate_left
     ·intro w hSw; (try dsimp only at hSw); go_simp; try with_reducible rfl
     try simp only [Act.put, List.setIfInBounds_toArray, List.set_cons_zero, List.set_cons_succ]
     refine wpAnyH_take (i := 7) (oi := { dst := (some 56), op := (Op.load 2 (Operand.tmp 55)), type := 2, pos := "mem.go:131", after := #[{ on := 6, ground := Ground.data }, { on := 1, ground := Ground.guard }], guard := (some (1, true)) }) (v := ?_) rfl (by kernel_rfl) (by kernel_rfl) (by kernel_rfl) (fun _ _ _ h => h) (Or.inl ⟨by rfl, ?_⟩) hHeld ?_
     rotate_left
     ·intro w hSw; (try dsimp only at hSw); go_simp; try with_reducible rfl
     try simp only [Act.put, List.setIfInBounds_toArray, List.set_cons_zero, List.set_cons_succ]
     refine wpAnyH_take (i := 8) (oi := { dst := (some 57), op := (Op.move (Operand.tmp 8)), type := 38, pos := "mem.go:131", after := #[{ on := 1, ground := Ground.guard }], guard := (some (1, true)) }) (v := ?_) rfl (by kernel_rfl) (by kernel_rfl) (by kernel_rfl) (fun _ _ _ h => h) (Or.inl ⟨by rfl, ?_⟩) hHeld ?_
     rotate_left
     ·intro w hSw; (try dsimp only at hSw); go_simp; try with_reducible rfl
     try simp only [Act.put, List.setIfInBounds_toArray, List.set_cons_zero, List.set_cons_succ]
     refine wpAnyH_take (i := 9) (oi := { dst := (some 58), op := (Op.indexAddr 38 (Operand.tmp 57) (Operand.const (Value.int IntKind.i64 0))), type := 0, pos := "mem.go:131", after := #[{ on := 8, ground := Ground.data }, { on := 1, ground := Ground.guard }], guard := (some (1, true)) }) (v := ?_) rfl (by kernel_rfl) (by kernel_rfl) (by kernel_rfl) (fun _ _ _ h => h) (Or.inl ⟨by rfl, ?_⟩) hHeld ?_
     rotate_left
     ·intro w hSw; (try dsimp only at hSw); go_simp; try with_reducible rfl
     try simp only [Act.put, List.setIfInBounds_toArray, List.set_cons_zero, List.set_cons_succ]
     refine wpAnyH_take (i := 10) (oi := { dst := (some 59), op := (Op.fieldAddr 42 (Operand.tmp 58) 2), type := 0, pos := "mem.go:131", after := #[{ on := 9, ground := Ground.data }, { on := 1, ground := Ground.guard }], guard := (some (1, true)) }) (v := ?_) rfl (by kernel_rfl) (by kernel_rfl) (by kernel_rfl) (fun _ _ _ h => h) (Or.inl ⟨by rfl, ?_⟩) hHeld ?_
     rotate_left
     ·intro w hSw; (try dsimp only at hSw); go_simp; try with_reducible rfl
     try simp only [Act.put, List.setIfInBounds_toArray, List.set_cons_zero, List.set_cons_succ]
     refine wpAnyH_take (i := 11) (oi := { dst := (some 60), op := (Op.fieldAddr 23 (Operand.tmp 59) 1), type := 0, pos := "mem.go:131", after := #[{ on := 10, ground := Ground.data }, { on := 1, ground := Ground.guard }], guard := (some (1, true)) }) (v := ?_) rfl (by kernel_rfl) (by kernel_rfl) (by kernel_rfl) (fun _ _ _ h => h) (Or.inl ⟨by rfl, ?_⟩) hHeld ?_
     rotate_left
     ·intro w hSw; (try dsimp only at hSw); go_simp; try with_reducible rfl
     try simp only [Act.put, List.setIfInBounds_toArray, List.set_cons_zero, List.set_cons_succ]
     refine wpAnyH_take (i := 12) (oi := { dst := (some 61), op := (Op.load 3 (Operand.tmp 60)), type := 3, pos := "mem.go:131", after := #[{ on := 11, ground := Ground.data }, { on := 1, ground := Ground.guard }], guard := (some (1, true)) }) (v := ?_) rfl (by kernel_rfl) (by kernel_rfl) (by kernel_rfl) (fun _ _ _ h => h) (Or.inl ⟨by rfl, ?_⟩) hHeld ?_
     rotate_left
     ·intro w hSw; (try dsimp only at hSw); go_simp; try with_reducible rfl
     try simp only [Act.put, List.setIfInBounds_toArray, List.set_cons_zero, List.set_cons_succ]
     refine wpAnyH_take (i := 13) (oi := { dst := (some 62), op := (Op.move (Operand.tmp 13)), type := 3, pos := "mem.go:131", after := #[{ on := 1, ground := Ground.guard }], guard := (some (1, true)) }) (v := ?_) rfl (by kernel_rfl) (by kernel_rfl) (by kernel_rfl) (fun _ _ _ h => h) (Or.inl ⟨by rfl, ?_⟩) hHeld ?_
     rotate_left
     ·intro w hSw; (try dsimp only at hSw); go_simp; try with_reducible rfl
     try simp only [Act.put, List.setIfInBounds_toArray, List.set_cons_zero, List.set_cons_succ]
     refine wpAnyH_take (i := 14) (oi := { dst := (some 63), op := (Op.binOp BinOp.add 3 (Operand.tmp 62) (Operand.const (Value.int IntKind.i64 1)) 3), type := 3, pos := "mem.go:131", after := #[{ on := 13, ground := Ground.data }, { on := 1, ground := Ground.guard }], guard := (some (1, true)) }) (v := ?_) rfl (by kernel_rfl) (by kernel_rfl) (by kernel_rfl) (fun _ _ _ h => h) (Or.inl ⟨by rfl, ?_⟩) hHeld ?_
     rotate_left
     ·intro w hSw; (try dsimp only at hSw); go_simp; try with_reducible rfl
     try simp only [Act.put, List.setIfInBounds_toArray, List.set_cons_zero, List.set_cons_succ]
     refine wpAnyH_take (i := 15) (oi := { dst := (some 64), op := (Op.build 23 #[(0, (Operand.tmp 56)), (1, (Operand.tmp 61)), (2, (Operand.tmp 63))]), type := 23, pos := "mem.go:131", after := #[{ on := 7, ground := Ground.data }, { on := 12, ground := Ground.data }, { on := 14, ground := Ground.data }, { on := 1, ground := Ground.guard }], guard := (some (1, true)) }) (v := ?_) rfl (by kernel_rfl) (by kernel_rfl) (by kernel_rfl) (fun _ _ _ h => h) (Or.inl ⟨by rfl, ?_⟩) hHeld ?_
     rotate_left
     ·intro w hSw; (try dsimp only at hSw); go_simp; try with_reducible rfl
     try simp only [Act.put, List.setIfInBounds_toArray, List.set_cons_zero, List.set_cons_succ]
     refine wpAnyH_take (i := 16) (oi := { dst := (some 65), op := (Op.build 42 #[(0, (Operand.const (Value.int IntKind.i64 2))), (2, (Operand.tmp 64))]), type := 42, pos := "mem.go:131", after := #[{ on := 15, ground := Ground.data }, { on := 1, ground := Ground.guard }], guard := (some (1, true)) }) (v := ?_) rfl (by kernel_rfl) (by kernel_rfl) (by kernel_rfl) (fun _ _ _ h => h) (Or.inl ⟨by rfl, ?_⟩) hHeld ?_
     rotate_left
     ·intro w hSw; (try dsimp only at hSw); go_simp; try with_reducible rfl
     try simp only [Act.put, List.setIfInBounds_toArray, List.set_cons_zero, List.set_cons_succ]
     refine wpAnyH_take (i := 17) (oi := { dst := (some 66), op := (Op.binOp BinOp.eql 42 (Operand.tmp 51) (Operand.tmp 65) 42), type := 4, pos := "mem.go:131", after := #[{ on := 2, ground := Ground.data }, { on := 16, ground := Ground.data }, { on := 1, ground := Ground.guard }], guard := (some (1, true)) }) (v := .bool (isPart x y j)) rfl (by kernel_rfl) (by kernel_rfl) (by kernel_rfl) (fun _ _ _ h => h) (Or.inl ⟨by rfl, ?_⟩) hHeld ?_
     ·intro w hSw; (try dsimp only at hSw); go_simp; exact part_if x y j _
     try simp only [Act.put, List.setIfInBounds_toArray, List.set_cons_zero, List.set_cons_succ]
     refine wpAnyH_take (i := 18) (oi := { dst := (some 67), op := (Op.pick (Operand.tmp 50) (Operand.tmp 66) (Operand.const (Value.bool false))), type := 4, pos := "mem.go:131", after := #[{ on := 1, ground := Ground.data }, { on := 17, ground := Ground.data }], guard := none }) (v := ?_) rfl (by kernel_rfl) (by kernel_rfl) (by kernel_rfl) (fun _ _ _ h => h) (Or.inl ⟨by rfl, ?_⟩) hHeld ?_
     rotate_left
     ·intro w hSw; (try dsimp only at hSw); go_simp; try with_reducible rfl
     try simp only [Act.put, List.setIfInBounds_toArray, List.set_cons_zero, List.set_cons_succ]
     refine wpAnyH_take (i := 19) (oi := { dst := (some 12), op := (Op.assign (Operand.tmp 67)), type := 4, pos := "mem.go:131", after := #[{ on := 18, ground := Ground.data }, { on := 1, ground := Ground.chain }, { on := 0, ground := Ground.phase }, { on := 1, ground := Ground.phase }, { on := 2, ground := Ground.phase }, { on := 3, ground := Ground.phase }, { on := 4, ground := Ground.phase }, { on := 5, ground := Ground.phase }, { on := 6, ground := Ground.phase }, { on := 7, ground := Ground.phase }, { on := 8, ground := Ground.phase }, { on := 9, ground := Ground.phase }, { on := 10, ground := Ground.phase }, { on := 11, ground := Ground.phase }, { on := 12, ground := Ground.phase }, { on := 13, ground := Ground.phase }, { on := 14, ground := Ground.phase }, { on := 15, ground := Ground.phase }, { on := 16, ground := Ground.phase }, { on := 17, ground := Ground.phase }, { on := 18, ground := Ground.phase }], guard := none }) (v := ?_) rfl (by kernel_rfl) (by kernel_rfl) (by kernel_rfl) (fun _ _ _ h => h) (Or.inl ⟨by rfl, ?_⟩) hHeld ?_
     rotate_left
     ·intro w hSw; (try dsimp only at hSw); go_simp; try with_reducible rfl
     try simp only [Act.put, List.setIfInBounds_toArray, List.set_cons_zero, List.set_cons_succ]
     refine wpAnyH_done (by kernel_rfl) ?_ _
     go_wp2_with fail
     go_roundw
     case rel => exact ⟨j + 1, by omega, by go_num, rfl, by rw [numB, HN.out, HGX.out]; simp, by rw [partB, HP.out, HGX.out, HGY.out]; simp, HQ.out _ hHeld⟩
     case measure => simp [intOf]; omega
    | false =>
     have HP := Aside0.mk hp
     go_upto_region 11 with (fail)
     have hS : ((wr.alloc (.cells #[.int .i64 x.k, .int .u8 x.v, .int .i64 x.p.n, .int .i64 x.p.b, .int .i64 x.p.f] 42)).cell? ⟨wr.heap.size, 0, none⟩ = some (.int .i64 x.k) ∧ (wr.alloc (.cells #[.int .i64 x.k, .int .u8 x.v, .int .i64 x.p.n, .int .i64 x.p.b, .int .i64 x.p.f] 42)).cell? ⟨wr.heap.size, 1, none⟩ = some (.int .u8 x.v) ∧ (wr.alloc (.cells #[.int .i64 x.k, .int .u8 x.v, .int .i64 x.p.n, .int .i64 x.p.b, .int .i64 x.p.f] 42)).cell? ⟨wr.heap.size, 2, none⟩ = some (.int .i64 x.p.n) ∧ (wr.alloc (.cells #[.int .i64 x.k, .int .u8 x.v, .int .i64 x.p.n, .int .i64 x.p.b, .int .i64 x.p.f] 42)).cell? ⟨wr.heap.size, 3, none⟩ = some (.int .i64 x.p.b) ∧ (wr.alloc (.cells #[.int .i64 x.k, .int .u8 x.v, .int .i64 x.p.n, .int .i64 x.p.b, .int .i64 x.p.f] 42)).cell? ⟨wr.heap.size, 4, none⟩ = some (.int .i64 x.p.f) ∧ (wr.alloc (.cells #[.int .i64 x.k, .int .u8 x.v, .int .i64 x.p.n, .int .i64 x.p.b, .int .i64 x.p.f] 42)).cell? ⟨b.gb, p.n.toNat * 5 + 2, none⟩ = some (.int .i64 y.p.n) ∧ (wr.alloc (.cells #[.int .i64 x.k, .int .u8 x.v, .int .i64 x.p.n, .int .i64 x.p.b, .int .i64 x.p.f] 42)).cell? ⟨b.gb, p.n.toNat * 5 + 3, none⟩ = some (.int .i64 y.p.b) ∧ Below w1.heap.size w1 (wr.alloc (.cells #[.int .i64 x.k, .int .u8 x.v, .int .i64 x.p.n, .int .i64 x.p.b, .int .i64 x.p.f] 42))) := ⟨hS0.1, hS0.2.1, hS0.2.2.1, hS0.2.2.2.1, hS0.2.2.2.2, q22 (q10 (Below.refl wr.heap.size wr) _) hd.2.2.1, q22 (q10 (Below.refl wr.heap.size wr) _) hd.2.2.2.1, q10 HJ.out _⟩
     generalize hg : wr.alloc (.cells #[.int .i64 x.k, .int .u8 x.v, .int .i64 x.p.n, .int .i64 x.p.b, .int .i64 x.p.f] 42) = W2 at hS ⊢
     clear hg hc hd hS0
     have HK := Aside0.mk (show ∀ Wa Wb : World, Below Wa.heap.size Wa Wb → (Wa.cell? ⟨wr.heap.size, 0, none⟩ = some (.int .i64 x.k) ∧ Wa.cell? ⟨wr.heap.size, 1, none⟩ = some (.int .u8 x.v) ∧ Wa.cell? ⟨wr.heap.size, 2, none⟩ = some (.int .i64 x.p.n) ∧ Wa.cell? ⟨wr.heap.size, 3, none⟩ = some (.int .i64 x.p.b) ∧ Wa.cell? ⟨wr.heap.size, 4, none⟩ = some (.int .i64 x.p.f) ∧ Wa.cell? ⟨b.gb, p.n.toNat * 5 + 2, none⟩ = some (.int .i64 y.p.n) ∧ Wa.cell? ⟨b.gb, p.n.toNat * 5 + 3, none⟩ = some (.int .i64 y.p.b) ∧ Below w1.heap.size w1 Wa) → (Wb.cell? ⟨wr.heap.size, 0, none⟩ = some (.int .i64 x.k) ∧ Wb.cell? ⟨wr.heap.size, 1, none⟩ = some (.int .u8 x.v) ∧ Wb.cell? ⟨wr.heap.size, 2, none⟩ = some (.int .i64 x.p.n) ∧ Wb.cell? ⟨wr.heap.size, 3, none⟩ = some (.int .i64 x.p.b) ∧ Wb.cell? ⟨wr.heap.size, 4, none⟩ = some (.int .i64 x.p.f) ∧ Wb.cell? ⟨b.gb, p.n.toNat * 5 + 2, none⟩ = some (.int .i64 y.p.n) ∧ Wb.cell? ⟨b.gb, p.n.toNat * 5 + 3, none⟩ = some (.int .i64 y.p.b) ∧ Below w1.heap.size w1 Wb) from fun _ _ hb h => ⟨q22 hb h.1, q22 hb h.2.1, q22 hb h.2.2.1, q22 hb h.2.2.2.1, q22 hb h.2.2.2.2.1, q22 hb h.2.2.2.2.2.1, q22 hb h.2.2.2.2.2.2.1, q20 h.2.2.2.2.2.2.2 hb⟩)
     have HQ := Aside0.mk (show ∀ Wa : World, (Wa.cell? ⟨wr.heap.size, 0, none⟩ = some (.int .i64 x.k) ∧ Wa.cell? ⟨wr.heap.size, 1, none⟩ = some (.int .u8 x.v) ∧ Wa.cell? ⟨wr.heap.size, 2, none⟩ = some (.int .i64 x.p.n) ∧ Wa.cell? ⟨wr.heap.size, 3, none⟩ = some (.int .i64 x.p.b) ∧ Wa.cell? ⟨wr.heap.size, 4, none⟩ = some (.int .i64 x.p.f) ∧ Wa.cell? ⟨b.gb, p.n.toNat * 5 + 2, none⟩ = some (.int .i64 y.p.n) ∧ Wa.cell? ⟨b.gb, p.n.toNat * 5 + 3, none⟩ = some (.int .i64 y.p.b) ∧ Below w1.heap.size w1 Wa) → Below w1.heap.size w1 Wa from fun _ h => h.2.2.2.2.2.2.2)
     refine wp_region_held_drew (S := fun w' => w'.cell? ⟨wr.heap.size, 0, none⟩ = some (.int .i64 x.k) ∧ w'.cell? ⟨wr.heap.size, 1, none⟩ = some (.int .u8 x.v) ∧ w'.cell? ⟨wr.heap.size, 2, none⟩ = some (.int .i64 x.p.n) ∧ w'.cell? ⟨wr.heap.size, 3, none⟩ = some (.int .i64 x.p.b) ∧ w'.cell? ⟨wr.heap.size, 4, none⟩ = some (.int .i64 x.p.f) ∧ w'.cell? ⟨b.gb, p.n.toNat * 5 + 2, none⟩ = some (.int .i64 y.p.n) ∧ w'.cell? ⟨b.gb, p.n.toNat * 5 + 3, none⟩ = some (.int .i64 y.p.b) ∧ Below w1.heap.size w1 w') (by kernel_rfl) ⟨hS.1, hS.2.1, hS.2.2.1, hS.2.2.2.1, hS.2.2.2.2.1, hS.2.2.2.2.2.1, hS.2.2.2.2.2.2.1, q39 hS.2.2.2.2.2.2.2⟩ (fun hHeld => ?_)
     refine wpAnyH_take (i := 0) (oi := { dst := (some 49), op := (Op.move (Operand.tmp 12)), type := 4, pos := "mem.go:131", after := #[], guard := none }) (v := ?_) rfl (by kernel_rfl) (by kernel_rfl) (by kernel_rfl) (fun _ _ _ h => h) (Or.inl ⟨by rfl, ?_⟩) hHeld ?_
     rotate_left
     ·intro w hSw; (try dsimp only at hSw); go_simp; try with_reducible rfl
     try simp only [Act.put, List.setIfInBounds_toArray, List.set_cons_zero, List.set_cons_succ]
     refine wpAnyH_take (i := 1) (oi := { dst := (some 50), op := (Op.move (Operand.tmp 49)), type := 4, pos := "mem.go:131", after := #[{ on := 0, ground := Ground.data }], guard := none }) (v := ?_) rfl (by kernel_rfl) (by kernel_rfl) (by kernel_rfl) (fun _ _ _ h => h) (Or.inl ⟨by rfl, ?_⟩) hHeld ?_
     rotate_left
     ·intro w hSw; (try dsimp only at hSw); go_simp; try with_reducible rfl
     try simp only [Act.put, List.setIfInBounds_toArray, List.set_cons_zero, List.set_cons_succ]
     refine wpAnyH_take (i := 2) (oi := { dst := (some 51), op := (Op.load 42 (Operand.tmp 14)), type := 42, pos := "mem.go:131", after := #[{ on := 1, ground := Ground.guard }], guard := (some (1, true)) }) rfl (by kernel_rfl) (by kernel_rfl) (by kernel_rfl) (fun _ _ _ h => h) (Or.inr ⟨by rfl, rfl⟩) hHeld ?_
     try simp only [Act.put, List.setIfInBounds_toArray, List.set_cons_zero, List.set_cons_succ]
     refine wpAnyH_take (i := 3) (oi := { dst := (some 52), op := (Op.move (Operand.tmp 8)), type := 38, pos := "mem.go:131", after := #[{ on := 1, ground := Ground.guard }], guard := (some (1, true)) }) rfl (by kernel_rfl) (by kernel_rfl) (by kernel_rfl) (fun _ _ _ h => h) (Or.inr ⟨by rfl, rfl⟩) hHeld ?_
     try simp only [Act.put, List.setIfInBounds_toArray, List.set_cons_zero, List.set_cons_succ]
     refine wpAnyH_take (i := 4) (oi := { dst := (some 53), op := (Op.indexAddr 38 (Operand.tmp 52) (Operand.const (Value.int IntKind.i64 0))), type := 0, pos := "mem.go:131", after := #[{ on := 3, ground := Ground.data }, { on := 1, ground := Ground.guard }], guard := (some (1, true)) }) rfl (by kernel_rfl) (by kernel_rfl) (by kernel_rfl) (fun _ _ _ h => h) (Or.inr ⟨by rfl, rfl⟩) hHeld ?_
     try simp only [Act.put, List.setIfInBounds_toArray, List.set_cons_zero, List.set_cons_succ]
     refine wpAnyH_take (i := 5) (oi := { dst := (some 54), op := (Op.fieldAddr 42 (Operand.tmp 53) 2), type := 0, pos := "mem.go:131", after := #[{ on := 4, ground := Ground.data }, { on := 1, ground := Ground.guard }], guard := (some (1, true)) }) rfl (by kernel_rfl) (by kernel_rfl) (by kernel_rfl) (fun _ _ _ h => h) (Or.inr ⟨by rfl, rfl⟩) hHeld ?_
     try simp only [Act.put, List.setIfInBounds_toArray, List.set_cons_zero, List.set_cons_succ]
     refine wpAnyH_take (i := 6) (oi := { dst := (some 55), op := (Op.fieldAddr 23 (Operand.tmp 54) 0), type := 0, pos := "mem.go:131", after := #[{ on := 5, ground := Ground.data }, { on := 1, ground := Ground.guard }], guard := (some (1, true)) }) rfl (by kernel_rfl) (by kernel_rfl) (by kernel_rfl) (fun _ _ _ h => h) (Or.inr ⟨by rfl, rfl⟩) hHeld ?_
     try simp only [Act.put, List.setIfInBounds_toArray, List.set_cons_zero, List.set_cons_succ]
     refine wpAnyH_take (i := 7) (oi := { dst := (some 56), op := (Op.load 2 (Operand.tmp 55)), type := 2, pos := "mem.go:131", after := #[{ on := 6, ground := Ground.data }, { on := 1, ground := Ground.guard }], guard := (some (1, true)) }) rfl (by kernel_rfl) (by kernel_rfl) (by kernel_rfl) (fun _ _ _ h => h) (Or.inr ⟨by rfl, rfl⟩) hHeld ?_
     try simp only [Act.put, List.setIfInBounds_toArray, List.set_cons_zero, List.set_cons_succ]
     refine wpAnyH_take (i := 8) (oi := { dst := (some 57), op := (Op.move (Operand.tmp 8)), type := 38, pos := "mem.go:131", after := #[{ on := 1, ground := Ground.guard }], guard := (some (1, true)) }) rfl (by kernel_rfl) (by kernel_rfl) (by kernel_rfl) (fun _ _ _ h => h) (Or.inr ⟨by rfl, rfl⟩) hHeld ?_
     try simp only [Act.put, List.setIfInBounds_toArray, List.set_cons_zero, List.set_cons_succ]
     refine wpAnyH_take (i := 9) (oi := { dst := (some 58), op := (Op.indexAddr 38 (Operand.tmp 57) (Operand.const (Value.int IntKind.i64 0))), type := 0, pos := "mem.go:131", after := #[{ on := 8, ground := Ground.data }, { on := 1, ground := Ground.guard }], guard := (some (1, true)) }) rfl (by kernel_rfl) (by kernel_rfl) (by kernel_rfl) (fun _ _ _ h => h) (Or.inr ⟨by rfl, rfl⟩) hHeld ?_
     try simp only [Act.put, List.setIfInBounds_toArray, List.set_cons_zero, List.set_cons_succ]
     refine wpAnyH_take (i := 10) (oi := { dst := (some 59), op := (Op.fieldAddr 42 (Operand.tmp 58) 2), type := 0, pos := "mem.go:131", after := #[{ on := 9, ground := Ground.data }, { on := 1, ground := Ground.guard }], guard := (some (1, true)) }) rfl (by kernel_rfl) (by kernel_rfl) (by kernel_rfl) (fun _ _ _ h => h) (Or.inr ⟨by rfl, rfl⟩) hHeld ?_
     try simp only [Act.put, List.setIfInBounds_toArray, List.set_cons_zero, List.set_cons_succ]
     refine wpAnyH_take (i := 11) (oi := { dst := (some 60), op := (Op.fieldAddr 23 (Operand.tmp 59) 1), type := 0, pos := "mem.go:131", after := #[{ on := 10, ground := Ground.data }, { on := 1, ground := Ground.guard }], guard := (some (1, true)) }) rfl (by kernel_rfl) (by kernel_rfl) (by kernel_rfl) (fun _ _ _ h => h) (Or.inr ⟨by rfl, rfl⟩) hHeld ?_
     try simp only [Act.put, List.setIfInBounds_toArray, List.set_cons_zero, List.set_cons_succ]
     refine wpAnyH_take (i := 12) (oi := { dst := (some 61), op := (Op.load 3 (Operand.tmp 60)), type := 3, pos := "mem.go:131", after := #[{ on := 11, ground := Ground.data }, { on := 1, ground := Ground.guard }], guard := (some (1, true)) }) rfl (by kernel_rfl) (by kernel_rfl) (by kernel_rfl) (fun _ _ _ h => h) (Or.inr ⟨by rfl, rfl⟩) hHeld ?_
     try simp only [Act.put, List.setIfInBounds_toArray, List.set_cons_zero, List.set_cons_succ]
     refine wpAnyH_take (i := 13) (oi := { dst := (some 62), op := (Op.move (Operand.tmp 13)), type := 3, pos := "mem.go:131", after := #[{ on := 1, ground := Ground.guard }], guard := (some (1, true)) }) rfl (by kernel_rfl) (by kernel_rfl) (by kernel_rfl) (fun _ _ _ h => h) (Or.inr ⟨by rfl, rfl⟩) hHeld ?_
     try simp only [Act.put, List.setIfInBounds_toArray, List.set_cons_zero, List.set_cons_succ]
     refine wpAnyH_take (i := 14) (oi := { dst := (some 63), op := (Op.binOp BinOp.add 3 (Operand.tmp 62) (Operand.const (Value.int IntKind.i64 1)) 3), type := 3, pos := "mem.go:131", after := #[{ on := 13, ground := Ground.data }, { on := 1, ground := Ground.guard }], guard := (some (1, true)) }) rfl (by kernel_rfl) (by kernel_rfl) (by kernel_rfl) (fun _ _ _ h => h) (Or.inr ⟨by rfl, rfl⟩) hHeld ?_
     try simp only [Act.put, List.setIfInBounds_toArray, List.set_cons_zero, List.set_cons_succ]
     refine wpAnyH_take (i := 15) (oi := { dst := (some 64), op := (Op.build 23 #[(0, (Operand.tmp 56)), (1, (Operand.tmp 61)), (2, (Operand.tmp 63))]), type := 23, pos := "mem.go:131", after := #[{ on := 7, ground := Ground.data }, { on := 12, ground := Ground.data }, { on := 14, ground := Ground.data }, { on := 1, ground := Ground.guard }], guard := (some (1, true)) }) rfl (by kernel_rfl) (by kernel_rfl) (by kernel_rfl) (fun _ _ _ h => h) (Or.inr ⟨by rfl, rfl⟩) hHeld ?_
     try simp only [Act.put, List.setIfInBounds_toArray, List.set_cons_zero, List.set_cons_succ]
     refine wpAnyH_take (i := 16) (oi := { dst := (some 65), op := (Op.build 42 #[(0, (Operand.const (Value.int IntKind.i64 2))), (2, (Operand.tmp 64))]), type := 42, pos := "mem.go:131", after := #[{ on := 15, ground := Ground.data }, { on := 1, ground := Ground.guard }], guard := (some (1, true)) }) rfl (by kernel_rfl) (by kernel_rfl) (by kernel_rfl) (fun _ _ _ h => h) (Or.inr ⟨by rfl, rfl⟩) hHeld ?_
     try simp only [Act.put, List.setIfInBounds_toArray, List.set_cons_zero, List.set_cons_succ]
     refine wpAnyH_take (i := 17) (oi := { dst := (some 66), op := (Op.binOp BinOp.eql 42 (Operand.tmp 51) (Operand.tmp 65) 42), type := 4, pos := "mem.go:131", after := #[{ on := 2, ground := Ground.data }, { on := 16, ground := Ground.data }, { on := 1, ground := Ground.guard }], guard := (some (1, true)) }) rfl (by kernel_rfl) (by kernel_rfl) (by kernel_rfl) (fun _ _ _ h => h) (Or.inr ⟨by rfl, rfl⟩) hHeld ?_
     try simp only [Act.put, List.setIfInBounds_toArray, List.set_cons_zero, List.set_cons_succ]
     refine wpAnyH_take (i := 18) (oi := { dst := (some 67), op := (Op.pick (Operand.tmp 50) (Operand.tmp 66) (Operand.const (Value.bool false))), type := 4, pos := "mem.go:131", after := #[{ on := 1, ground := Ground.data }, { on := 17, ground := Ground.data }], guard := none }) (v := ?_) rfl (by kernel_rfl) (by kernel_rfl) (by kernel_rfl) (fun _ _ _ h => h) (Or.inl ⟨by rfl, ?_⟩) hHeld ?_
     rotate_left
     ·intro w hSw; (try dsimp only at hSw); go_simp; try with_reducible rfl
     try simp only [Act.put, List.setIfInBounds_toArray, List.set_cons_zero, List.set_cons_succ]
     refine wpAnyH_take (i := 19) (oi := { dst := (some 12), op := (Op.assign (Operand.tmp 67)), type := 4, pos := "mem.go:131", after := #[{ on := 18, ground := Ground.data }, { on := 1, ground := Ground.chain }, { on := 0, ground := Ground.phase }, { on := 1, ground := Ground.phase }, { on := 2, ground := Ground.phase }, { on := 3, ground := Ground.phase }, { on := 4, ground := Ground.phase }, { on := 5, ground := Ground.phase }, { on := 6, ground := Ground.phase }, { on := 7, ground := Ground.phase }, { on := 8, ground := Ground.phase }, { on := 9, ground := Ground.phase }, { on := 10, ground := Ground.phase }, { on := 11, ground := Ground.phase }, { on := 12, ground := Ground.phase }, { on := 13, ground := Ground.phase }, { on := 14, ground := Ground.phase }, { on := 15, ground := Ground.phase }, { on := 16, ground := Ground.phase }, { on := 17, ground := Ground.phase }, { on := 18, ground := Ground.phase }], guard := none }) (v := ?_) rfl (by kernel_rfl) (by kernel_rfl) (by kernel_rfl) (fun _ _ _ h => h) (Or.inl ⟨by rfl, ?_⟩) hHeld ?_
     rotate_left
     ·intro w hSw; (try dsimp only at hSw); go_simp; try with_reducible rfl
     try simp only [Act.put, List.setIfInBounds_toArray, List.set_cons_zero, List.set_cons_succ]
     refine wpAnyH_done (by kernel_rfl) ?_ _
     go_wp2_with fail
     go_roundw
     case rel => exact ⟨j + 1, by omega, by go_num, rfl, by rw [numB, HN.out, HGX.out]; simp, by rw [partB, HP.out, HGX.out, HGY.out]; rfl, HQ.out _ hHeld⟩
     case measure => simp [intOf]; omega
   | false =>
    have HN := Aside0.mk hn
    cases hp : partB k seg j with
    | true =>
     have HP := Aside0.mk hp
     go_upto_region 11 with (fail)
     have hS : ((wr.alloc (.cells #[.int .i64 x.k, .int .u8 x.v, .int .i64 x.p.n, .int .i64 x.p.b, .int .i64 x.p.f] 42)).cell? ⟨wr.heap.size, 0, none⟩ = some (.int .i64 x.k) ∧ (wr.alloc (.cells #[.int .i64 x.k, .int .u8 x.v, .int .i64 x.p.n, .int .i64 x.p.b, .int .i64 x.p.f] 42)).cell? ⟨wr.heap.size, 1, none⟩ = some (.int .u8 x.v) ∧ (wr.alloc (.cells #[.int .i64 x.k, .int .u8 x.v, .int .i64 x.p.n, .int .i64 x.p.b, .int .i64 x.p.f] 42)).cell? ⟨wr.heap.size, 2, none⟩ = some (.int .i64 x.p.n) ∧ (wr.alloc (.cells #[.int .i64 x.k, .int .u8 x.v, .int .i64 x.p.n, .int .i64 x.p.b, .int .i64 x.p.f] 42)).cell? ⟨wr.heap.size, 3, none⟩ = some (.int .i64 x.p.b) ∧ (wr.alloc (.cells #[.int .i64 x.k, .int .u8 x.v, .int .i64 x.p.n, .int .i64 x.p.b, .int .i64 x.p.f] 42)).cell? ⟨wr.heap.size, 4, none⟩ = some (.int .i64 x.p.f) ∧ (wr.alloc (.cells #[.int .i64 x.k, .int .u8 x.v, .int .i64 x.p.n, .int .i64 x.p.b, .int .i64 x.p.f] 42)).cell? ⟨b.gb, p.n.toNat * 5 + 2, none⟩ = some (.int .i64 y.p.n) ∧ (wr.alloc (.cells #[.int .i64 x.k, .int .u8 x.v, .int .i64 x.p.n, .int .i64 x.p.b, .int .i64 x.p.f] 42)).cell? ⟨b.gb, p.n.toNat * 5 + 3, none⟩ = some (.int .i64 y.p.b) ∧ Below w1.heap.size w1 (wr.alloc (.cells #[.int .i64 x.k, .int .u8 x.v, .int .i64 x.p.n, .int .i64 x.p.b, .int .i64 x.p.f] 42))) := ⟨hS0.1, hS0.2.1, hS0.2.2.1, hS0.2.2.2.1, hS0.2.2.2.2, q22 (q10 (Below.refl wr.heap.size wr) _) hd.2.2.1, q22 (q10 (Below.refl wr.heap.size wr) _) hd.2.2.2.1, q10 HJ.out _⟩
     generalize hg : wr.alloc (.cells #[.int .i64 x.k, .int .u8 x.v, .int .i64 x.p.n, .int .i64 x.p.b, .int .i64 x.p.f] 42) = W2 at hS ⊢
     clear hg hc hd hS0
     have HK := Aside0.mk (show ∀ Wa Wb : World, Below Wa.heap.size Wa Wb → (Wa.cell? ⟨wr.heap.size, 0, none⟩ = some (.int .i64 x.k) ∧ Wa.cell? ⟨wr.heap.size, 1, none⟩ = some (.int .u8 x.v) ∧ Wa.cell? ⟨wr.heap.size, 2, none⟩ = some (.int .i64 x.p.n) ∧ Wa.cell? ⟨wr.heap.size, 3, none⟩ = some (.int .i64 x.p.b) ∧ Wa.cell? ⟨wr.heap.size, 4, none⟩ = some (.int .i64 x.p.f) ∧ Wa.cell? ⟨b.gb, p.n.toNat * 5 + 2, none⟩ = some (.int .i64 y.p.n) ∧ Wa.cell? ⟨b.gb, p.n.toNat * 5 + 3, none⟩ = some (.int .i64 y.p.b) ∧ Below w1.heap.size w1 Wa) → (Wb.cell? ⟨wr.heap.size, 0, none⟩ = some (.int .i64 x.k) ∧ Wb.cell? ⟨wr.heap.size, 1, none⟩ = some (.int .u8 x.v) ∧ Wb.cell? ⟨wr.heap.size, 2, none⟩ = some (.int .i64 x.p.n) ∧ Wb.cell? ⟨wr.heap.size, 3, none⟩ = some (.int .i64 x.p.b) ∧ Wb.cell? ⟨wr.heap.size, 4, none⟩ = some (.int .i64 x.p.f) ∧ Wb.cell? ⟨b.gb, p.n.toNat * 5 + 2, none⟩ = some (.int .i64 y.p.n) ∧ Wb.cell? ⟨b.gb, p.n.toNat * 5 + 3, none⟩ = some (.int .i64 y.p.b) ∧ Below w1.heap.size w1 Wb) from fun _ _ hb h => ⟨q22 hb h.1, q22 hb h.2.1, q22 hb h.2.2.1, q22 hb h.2.2.2.1, q22 hb h.2.2.2.2.1, q22 hb h.2.2.2.2.2.1, q22 hb h.2.2.2.2.2.2.1, q20 h.2.2.2.2.2.2.2 hb⟩)
     have HQ := Aside0.mk (show ∀ Wa : World, (Wa.cell? ⟨wr.heap.size, 0, none⟩ = some (.int .i64 x.k) ∧ Wa.cell? ⟨wr.heap.size, 1, none⟩ = some (.int .u8 x.v) ∧ Wa.cell? ⟨wr.heap.size, 2, none⟩ = some (.int .i64 x.p.n) ∧ Wa.cell? ⟨wr.heap.size, 3, none⟩ = some (.int .i64 x.p.b) ∧ Wa.cell? ⟨wr.heap.size, 4, none⟩ = some (.int .i64 x.p.f) ∧ Wa.cell? ⟨b.gb, p.n.toNat * 5 + 2, none⟩ = some (.int .i64 y.p.n) ∧ Wa.cell? ⟨b.gb, p.n.toNat * 5 + 3, none⟩ = some (.int .i64 y.p.b) ∧ Below w1.heap.size w1 Wa) → Below w1.heap.size w1 Wa from fun _ h => h.2.2.2.2.2.2.2)
     refine wp_region_held_drew (S := fun w' => w'.cell? ⟨wr.heap.size, 0, none⟩ = some (.int .i64 x.k) ∧ w'.cell? ⟨wr.heap.size, 1, none⟩ = some (.int .u8 x.v) ∧ w'.cell? ⟨wr.heap.size, 2, none⟩ = some (.int .i64 x.p.n) ∧ w'.cell? ⟨wr.heap.size, 3, none⟩ = some (.int .i64 x.p.b) ∧ w'.cell? ⟨wr.heap.size, 4, none⟩ = some (.int .i64 x.p.f) ∧ w'.cell? ⟨b.gb, p.n.toNat * 5 + 2, none⟩ = some (.int .i64 y.p.n) ∧ w'.cell? ⟨b.gb, p.n.toNat * 5 + 3, none⟩ = some (.int .i64 y.p.b) ∧ Below w1.heap.size w1 w') (by kernel_rfl) ⟨hS.1, hS.2.1, hS.2.2.1, hS.2.2.2.1, hS.2.2.2.2.1, hS.2.2.2.2.2.1, hS.2.2.2.2.2.2.1, q39 hS.2.2.2.2.2.2.2⟩ (fun hHeld => ?_)
     refine wpAnyH_take (i := 0) (oi := { dst := (some 49), op := (Op.move (Operand.tmp 12)), type := 4, pos := "mem.go:131", after := #[], guard := none }) (v := ?_) rfl (by kernel_rfl) (by kernel_rfl) (by kernel_rfl) (fun _ _ _ h => h) (Or.inl ⟨by rfl, ?_⟩) hHeld ?_
     rotate_left
     ·intro w hSw; (try dsimp only at hSw); go_simp; try with_reducible rfl
     try simp only [Act.put, List.setIfInBounds_toArray, List.set_cons_zero, List.set_cons_succ]
     refine wpAnyH_take (i := 1) (oi := { dst := (some 50), op := (Op.move (Operand.tmp 49)), type := 4, pos := "mem.go:131", after := #[{ on := 0, ground := Ground.data }], guard := none }) (v := ?_) rfl (by kernel_rfl) (by kernel_rfl) (by kernel_rfl) (fun _ _ _ h => h) (Or.inl ⟨by rfl, ?_⟩) hHeld ?_
     rotate_left
     ·intro w hSw; (try dsimp only at hSw); go_simp; try with_reducible rfl
     try simp only [Act.put, List.setIfInBounds_toArray, List.set_cons_zero, List.set_cons_succ]
     refine wpAnyH_take (i := 2) (oi := { dst := (some 51), op := (Op.load 42 (Operand.tmp 14)), type := 42, pos := "mem.go:131", after := #[{ on := 1, ground := Ground.guard }], guard := (some (1, true)) }) (v := ?_) rfl (by kernel_rfl) (by kernel_rfl) (by kernel_rfl) (fun _ _ _ h => h) (Or.inl ⟨by rfl, ?_⟩) hHeld ?_
     rotate_left
     ·intro w hSw; (try dsimp only at hSw); go_simp; try with_reducible rfl
     try simp only [Act.put, List.setIfInBounds_toArray, List.set_cons_zero, List.set_cons_succ]
     refine wpAnyH_take (i := 3) (oi := { dst := (some 52), op := (Op.move (Operand.tmp 8)), type := 38, pos := "mem.go:131", after := #[{ on := 1, ground := Ground.guard }], guard := (some (1, true)) }) (v := ?_) rfl (by kernel_rfl) (by kernel_rfl) (by kernel_rfl) (fun _ _ _ h => h) (Or.inl ⟨by rfl, ?_⟩) hHeld ?_
     rotate_left
     ·intro w hSw; (try dsimp only at hSw); go_simp; try with_reducible rfl
     try simp only [Act.put, List.setIfInBounds_toArray, List.set_cons_zero, List.set_cons_succ]
     refine wpAnyH_take (i := 4) (oi := { dst := (some 53), op := (Op.indexAddr 38 (Operand.tmp 52) (Operand.const (Value.int IntKind.i64 0))), type := 0, pos := "mem.go:131", after := #[{ on := 3, ground := Ground.data }, { on := 1, ground := Ground.guard }], guard := (some (1, true)) }) (v := ?_) rfl (by kernel_rfl) (by kernel_rfl) (by kernel_rfl) (fun _ _ _ h => h) (Or.inl ⟨by rfl, ?_⟩) hHeld ?_
     rotate_left
     ·intro w hSw; (try dsimp only at hSw); go_simp; try with_reducible rfl
     try simp only [Act.put, List.setIfInBounds_toArray, List.set_cons_zero, List.set_cons_succ]
     refine wpAnyH_take (i := 5) (oi := { dst := (some 54), op := (Op.fieldAddr 42 (Operand.tmp 53) 2), type := 0, pos := "mem.go:131", after := #[{ on := 4, ground := Ground.data }, { on := 1, ground := Ground.guard }], guard := (some (1, true)) }) (v := ?_) rfl (by kernel_rfl) (by kernel_rfl) (by kernel_rfl) (fun _ _ _ h => h) (Or.inl ⟨by rfl, ?_⟩) hHeld ?_
     rotate_left
     ·intro w hSw; (try dsimp only at hSw); go_simp; try with_reducible rfl
     try simp only [Act.put, List.setIfInBounds_toArray, List.set_cons_zero, List.set_cons_succ]
     refine wpAnyH_take (i := 6) (oi := { dst := (some 55), op := (Op.fieldAddr 23 (Operand.tmp 54) 0), type := 0, pos := "mem.go:131", after := #[{ on := 5, ground := Ground.data }, { on := 1, ground := Ground.guard }], guard := (some (1, true)) }) (v := ?_) rfl (by kernel_rfl) (by kernel_rfl) (by kernel_rfl) (fun _ _ _ h => h) (Or.inl ⟨by rfl, ?_⟩) hHeld ?_
     rotate_left
     ·intro w hSw; (try dsimp only at hSw); go_simp; try with_reducible rfl
     try simp only [Act.put, List.setIfInBounds_toArray, List.set_cons_zero, List.set_cons_succ]
     refine wpAnyH_take (i := 7) (oi := { dst := (some 56), op := (Op.load 2 (Operand.tmp 55)), type := 2, pos := "mem.go:131", after := #[{ on := 6, ground := Ground.data }, { on := 1, ground := Ground.guard }], guard := (some (1, true)) }) (v := ?_) rfl (by kernel_rfl) (by kernel_rfl) (by kernel_rfl) (fun _ _ _ h => h) (Or.inl ⟨by rfl, ?_⟩) hHeld ?_
     rotate_left
     ·intro w hSw; (try dsimp only at hSw); go_simp; try with_reducible rfl
     try simp only [Act.put, List.setIfInBounds_toArray, List.set_cons_zero, List.set_cons_succ]
     refine wpAnyH_take (i := 8) (oi := { dst := (some 57), op := (Op.move (Operand.tmp 8)), type := 38, pos := "mem.go:131", after := #[{ on := 1, ground := Ground.guard }], guard := (some (1, true)) }) (v := ?_) rfl (by kernel_rfl) (by kernel_rfl) (by kernel_rfl) (fun _ _ _ h => h) (Or.inl ⟨by rfl, ?_⟩) hHeld ?_
     rotate_left
     ·intro w hSw; (try dsimp only at hSw); go_simp; try with_reducible rfl
     try simp only [Act.put, List.setIfInBounds_toArray, List.set_cons_zero, List.set_cons_succ]
     refine wpAnyH_take (i := 9) (oi := { dst := (some 58), op := (Op.indexAddr 38 (Operand.tmp 57) (Operand.const (Value.int IntKind.i64 0))), type := 0, pos := "mem.go:131", after := #[{ on := 8, ground := Ground.data }, { on := 1, ground := Ground.guard }], guard := (some (1, true)) }) (v := ?_) rfl (by kernel_rfl) (by kernel_rfl) (by kernel_rfl) (fun _ _ _ h => h) (Or.inl ⟨by rfl, ?_⟩) hHeld ?_
     rotate_left
     ·intro w hSw; (try dsimp only at hSw); go_simp; try with_reducible rfl
     try simp only [Act.put, List.setIfInBounds_toArray, List.set_cons_zero, List.set_cons_succ]
     refine wpAnyH_take (i := 10) (oi := { dst := (some 59), op := (Op.fieldAddr 42 (Operand.tmp 58) 2), type := 0, pos := "mem.go:131", after := #[{ on := 9, ground := Ground.data }, { on := 1, ground := Ground.guard }], guard := (some (1, true)) }) (v := ?_) rfl (by kernel_rfl) (by kernel_rfl) (by kernel_rfl) (fun _ _ _ h => h) (Or.inl ⟨by rfl, ?_⟩) hHeld ?_
     rotate_left
     ·intro w hSw; (try dsimp only at hSw); go_simp; try with_reducible rfl
     try simp only [Act.put, List.setIfInBounds_toArray, List.set_cons_zero, List.set_cons_succ]
     refine wpAnyH_take (i := 11) (oi := { dst := (some 60), op := (Op.fieldAddr 23 (Operand.tmp 59) 1), type := 0, pos := "mem.go:131", after := #[{ on := 10, ground := Ground.data }, { on := 1, ground := Ground.guard }], guard := (some (1, true)) }) (v := ?_) rfl (by kernel_rfl) (by kernel_rfl) (by kernel_rfl) (fun _ _ _ h => h) (Or.inl ⟨by rfl, ?_⟩) hHeld ?_
     rotate_left
     ·intro w hSw; (try dsimp only at hSw); go_simp; try with_reducible rfl
     try simp only [Act.put, List.setIfInBounds_toArray, List.set_cons_zero, List.set_cons_succ]
     refine wpAnyH_take (i := 12) (oi := { dst := (some 61), op := (Op.load 3 (Operand.tmp 60)), type := 3, pos := "mem.go:131", after := #[{ on := 11, ground := Ground.data }, { on := 1, ground := Ground.guard }], guard := (some (1, true)) }) (v := ?_) rfl (by kernel_rfl) (by kernel_rfl) (by kernel_rfl) (fun _ _ _ h => h) (Or.inl ⟨by rfl, ?_⟩) hHeld ?_
     rotate_left
     ·intro w hSw; (try dsimp only at hSw); go_simp; try with_reducible rfl
     try simp only [Act.put, List.setIfInBounds_toArray, List.set_cons_zero, List.set_cons_succ]
     refine wpAnyH_take (i := 13) (oi := { dst := (some 62), op := (Op.move (Operand.tmp 13)), type := 3, pos := "mem.go:131", after := #[{ on := 1, ground := Ground.guard }], guard := (some (1, true)) }) (v := ?_) rfl (by kernel_rfl) (by kernel_rfl) (by kernel_rfl) (fun _ _ _ h => h) (Or.inl ⟨by rfl, ?_⟩) hHeld ?_
     rotate_left
     ·intro w hSw; (try dsimp only at hSw); go_simp; try with_reducible rfl
     try simp only [Act.put, List.setIfInBounds_toArray, List.set_cons_zero, List.set_cons_succ]
     refine wpAnyH_take (i := 14) (oi := { dst := (some 63), op := (Op.binOp BinOp.add 3 (Operand.tmp 62) (Operand.const (Value.int IntKind.i64 1)) 3), type := 3, pos := "mem.go:131", after := #[{ on := 13, ground := Ground.data }, { on := 1, ground := Ground.guard }], guard := (some (1, true)) }) (v := ?_) rfl (by kernel_rfl) (by kernel_rfl) (by kernel_rfl) (fun _ _ _ h => h) (Or.inl ⟨by rfl, ?_⟩) hHeld ?_
     rotate_left
     ·intro w hSw; (try dsimp only at hSw); go_simp; try with_reducible rfl
     try simp only [Act.put, List.setIfInBounds_toArray, List.set_cons_zero, List.set_cons_succ]
     refine wpAnyH_take (i := 15) (oi := { dst := (some 64), op := (Op.build 23 #[(0, (Operand.tmp 56)), (1, (Operand.tmp 61)), (2, (Operand.tmp 63))]), type := 23, pos := "mem.go:131", after := #[{ on := 7, ground := Ground.data }, { on := 12, ground := Ground.data }, { on := 14, ground := Ground.data }, { on := 1, ground := Ground.guard }], guard := (some (1, true)) }) (v := ?_) rfl (by kernel_rfl) (by kernel_rfl) (by kernel_rfl) (fun _ _ _ h => h) (Or.inl ⟨by rfl, ?_⟩) hHeld ?_
     rotate_left
     ·intro w hSw; (try dsimp only at hSw); go_simp; try with_reducible rfl
     try simp only [Act.put, List.setIfInBounds_toArray, List.set_cons_zero, List.set_cons_succ]
     refine wpAnyH_take (i := 16) (oi := { dst := (some 65), op := (Op.build 42 #[(0, (Operand.const (Value.int IntKind.i64 2))), (2, (Operand.tmp 64))]), type := 42, pos := "mem.go:131", after := #[{ on := 15, ground := Ground.data }, { on := 1, ground := Ground.guard }], guard := (some (1, true)) }) (v := ?_) rfl (by kernel_rfl) (by kernel_rfl) (by kernel_rfl) (fun _ _ _ h => h) (Or.inl ⟨by rfl, ?_⟩) hHeld ?_
     rotate_left
     ·intro w hSw; (try dsimp only at hSw); go_simp; try with_reducible rfl
     try simp only [Act.put, List.setIfInBounds_toArray, List.set_cons_zero, List.set_cons_succ]
     refine wpAnyH_take (i := 17) (oi := { dst := (some 66), op := (Op.binOp BinOp.eql 42 (Operand.tmp 51) (Operand.tmp 65) 42), type := 4, pos := "mem.go:131", after := #[{ on := 2, ground := Ground.data }, { on := 16, ground := Ground.data }, { on := 1, ground := Ground.guard }], guard := (some (1, true)) }) (v := .bool (isPart x y j)) rfl (by kernel_rfl) (by kernel_rfl) (by kernel_rfl) (fun _ _ _ h => h) (Or.inl ⟨by rfl, ?_⟩) hHeld ?_
     ·intro w hSw; (try dsimp only at hSw); go_simp; exact part_if x y j _
     try simp only [Act.put, List.setIfInBounds_toArray, List.set_cons_zero, List.set_cons_succ]
     refine wpAnyH_take (i := 18) (oi := { dst := (some 67), op := (Op.pick (Operand.tmp 50) (Operand.tmp 66) (Operand.const (Value.bool false))), type := 4, pos := "mem.go:131", after := #[{ on := 1, ground := Ground.data }, { on := 17, ground := Ground.data }], guard := none }) (v := ?_) rfl (by kernel_rfl) (by kernel_rfl) (by kernel_rfl) (fun _ _ _ h => h) (Or.inl ⟨by rfl, ?_⟩) hHeld ?_
     rotate_left
     ·intro w hSw; (try dsimp only at hSw); go_simp; try with_reducible rfl
     try simp only [Act.put, List.setIfInBounds_toArray, List.set_cons_zero, List.set_cons_succ]
     refine wpAnyH_take (i := 19) (oi := { dst := (some 12), op := (Op.assign (Operand.tmp 67)), type := 4, pos := "mem.go:131", after := #[{ on := 18, ground := Ground.data }, { on := 1, ground := Ground.chain }, { on := 0, ground := Ground.phase }, { on := 1, ground := Ground.phase }, { on := 2, ground := Ground.phase }, { on := 3, ground := Ground.phase }, { on := 4, ground := Ground.phase }, { on := 5, ground := Ground.phase }, { on := 6, ground := Ground.phase }, { on := 7, ground := Ground.phase }, { on := 8, ground := Ground.phase }, { on := 9, ground := Ground.phase }, { on := 10, ground := Ground.phase }, { on := 11, ground := Ground.phase }, { on := 12, ground := Ground.phase }, { on := 13, ground := Ground.phase }, { on := 14, ground := Ground.phase }, { on := 15, ground := Ground.phase }, { on := 16, ground := Ground.phase }, { on := 17, ground := Ground.phase }, { on := 18, ground := Ground.phase }], guard := none }) (v := ?_) rfl (by kernel_rfl) (by kernel_rfl) (by kernel_rfl) (fun _ _ _ h => h) (Or.inl ⟨by rfl, ?_⟩) hHeld ?_
     rotate_left
     ·intro w hSw; (try dsimp only at hSw); go_simp; try with_reducible rfl
     try simp only [Act.put, List.setIfInBounds_toArray, List.set_cons_zero, List.set_cons_succ]
     refine wpAnyH_done (by kernel_rfl) ?_ _
     go_wp2_with fail
     go_roundw
     case rel => exact ⟨j + 1, by omega, by go_num, rfl, by rw [numB, HN.out, HGX.out]; rfl, by rw [partB, HP.out, HGX.out, HGY.out]; simp, HQ.out _ hHeld⟩
     case measure => simp [intOf]; omega
    | false =>
     have HP := Aside0.mk hp
     go_upto_region 11 with (fail)
     have hS : ((wr.alloc (.cells #[.int .i64 x.k, .int .u8 x.v, .int .i64 x.p.n, .int .i64 x.p.b, .int .i64 x.p.f] 42)).cell? ⟨wr.heap.size, 0, none⟩ = some (.int .i64 x.k) ∧ (wr.alloc (.cells #[.int .i64 x.k, .int .u8 x.v, .int .i64 x.p.n, .int .i64 x.p.b, .int .i64 x.p.f] 42)).cell? ⟨wr.heap.size, 1, none⟩ = some (.int .u8 x.v) ∧ (wr.alloc (.cells #[.int .i64 x.k, .int .u8 x.v, .int .i64 x.p.n, .int .i64 x.p.b, .int .i64 x.p.f] 42)).cell? ⟨wr.heap.size, 2, none⟩ = some (.int .i64 x.p.n) ∧ (wr.alloc (.cells #[.int .i64 x.k, .int .u8 x.v, .int .i64 x.p.n, .int .i64 x.p.b, .int .i64 x.p.f] 42)).cell? ⟨wr.heap.size, 3, none⟩ = some (.int .i64 x.p.b) ∧ (wr.alloc (.cells #[.int .i64 x.k, .int .u8 x.v, .int .i64 x.p.n, .int .i64 x.p.b, .int .i64 x.p.f] 42)).cell? ⟨wr.heap.size, 4, none⟩ = some (.int .i64 x.p.f) ∧ (wr.alloc (.cells #[.int .i64 x.k, .int .u8 x.v, .int .i64 x.p.n, .int .i64 x.p.b, .int .i64 x.p.f] 42)).cell? ⟨b.gb, p.n.toNat * 5 + 2, none⟩ = some (.int .i64 y.p.n) ∧ (wr.alloc (.cells #[.int .i64 x.k, .int .u8 x.v, .int .i64 x.p.n, .int .i64 x.p.b, .int .i64 x.p.f] 42)).cell? ⟨b.gb, p.n.toNat * 5 + 3, none⟩ = some (.int .i64 y.p.b) ∧ Below w1.heap.size w1 (wr.alloc (.cells #[.int .i64 x.k, .int .u8 x.v, .int .i64 x.p.n, .int .i64 x.p.b, .int .i64 x.p.f] 42))) := ⟨hS0.1, hS0.2.1, hS0.2.2.1, hS0.2.2.2.1, hS0.2.2.2.2, q22 (q10 (Below.refl wr.heap.size wr) _) hd.2.2.1, q22 (q10 (Below.refl wr.heap.size wr) _) hd.2.2.2.1, q10 HJ.out _⟩
     generalize hg : wr.alloc (.cells #[.int .i64 x.k, .int .u8 x.v, .int .i64 x.p.n, .int .i64 x.p.b, .int .i64 x.p.f] 42) = W2 at hS ⊢
     clear hg hc hd hS0
     have HK := Aside0.mk (show ∀ Wa Wb : World, Below Wa.heap.size Wa Wb → (Wa.cell? ⟨wr.heap.size, 0, none⟩ = some (.int .i64 x.k) ∧ Wa.cell? ⟨wr.heap.size, 1, none⟩ = some (.int .u8 x.v) ∧ Wa.cell? ⟨wr.heap.size, 2, none⟩ = some (.int .i64 x.p.n) ∧ Wa.cell? ⟨wr.heap.size, 3, none⟩ = some (.int .i64 x.p.b) ∧ Wa.cell? ⟨wr.heap.size, 4, none⟩ = some (.int .i64 x.p.f) ∧ Wa.cell? ⟨b.gb, p.n.toNat * 5 + 2, none⟩ = some (.int .i64 y.p.n) ∧ Wa.cell? ⟨b.gb, p.n.toNat * 5 + 3, none⟩ = some (.int .i64 y.p.b) ∧ Below w1.heap.size w1 Wa) → (Wb.cell? ⟨wr.heap.size, 0, none⟩ = some (.int .i64 x.k) ∧ Wb.cell? ⟨wr.heap.size, 1, none⟩ = some (.int .u8 x.v) ∧ Wb.cell? ⟨wr.heap.size, 2, none⟩ = some (.int .i64 x.p.n) ∧ Wb.cell? ⟨wr.heap.size, 3, none⟩ = some (.int .i64 x.p.b) ∧ Wb.cell? ⟨wr.heap.size, 4, none⟩ = some (.int .i64 x.p.f) ∧ Wb.cell? ⟨b.gb, p.n.toNat * 5 + 2, none⟩ = some (.int .i64 y.p.n) ∧ Wb.cell? ⟨b.gb, p.n.toNat * 5 + 3, none⟩ = some (.int .i64 y.p.b) ∧ Below w1.heap.size w1 Wb) from fun _ _ hb h => ⟨q22 hb h.1, q22 hb h.2.1, q22 hb h.2.2.1, q22 hb h.2.2.2.1, q22 hb h.2.2.2.2.1, q22 hb h.2.2.2.2.2.1, q22 hb h.2.2.2.2.2.2.1, q20 h.2.2.2.2.2.2.2 hb⟩)
     have HQ := Aside0.mk (show ∀ Wa : World, (Wa.cell? ⟨wr.heap.size, 0, none⟩ = some (.int .i64 x.k) ∧ Wa.cell? ⟨wr.heap.size, 1, none⟩ = some (.int .u8 x.v) ∧ Wa.cell? ⟨wr.heap.size, 2, none⟩ = some (.int .i64 x.p.n) ∧ Wa.cell? ⟨wr.heap.size, 3, none⟩ = some (.int .i64 x.p.b) ∧ Wa.cell? ⟨wr.heap.size, 4, none⟩ = some (.int .i64 x.p.f) ∧ Wa.cell? ⟨b.gb, p.n.toNat * 5 + 2, none⟩ = some (.int .i64 y.p.n) ∧ Wa.cell? ⟨b.gb, p.n.toNat * 5 + 3, none⟩ = some (.int .i64 y.p.b) ∧ Below w1.heap.size w1 Wa) → Below w1.heap.size w1 Wa from fun _ h => h.2.2.2.2.2.2.2)
     refine wp_region_held_drew (S := fun w' => w'.cell? ⟨wr.heap.size, 0, none⟩ = some (.int .i64 x.k) ∧ w'.cell? ⟨wr.heap.size, 1, none⟩ = some (.int .u8 x.v) ∧ w'.cell? ⟨wr.heap.size, 2, none⟩ = some (.int .i64 x.p.n) ∧ w'.cell? ⟨wr.heap.size, 3, none⟩ = some (.int .i64 x.p.b) ∧ w'.cell? ⟨wr.heap.size, 4, none⟩ = some (.int .i64 x.p.f) ∧ w'.cell? ⟨b.gb, p.n.toNat * 5 + 2, none⟩ = some (.int .i64 y.p.n) ∧ w'.cell? ⟨b.gb, p.n.toNat * 5 + 3, none⟩ = some (.int .i64 y.p.b) ∧ Below w1.heap.size w1 w') (by kernel_rfl) ⟨hS.1, hS.2.1, hS.2.2.1, hS.2.2.2.1, hS.2.2.2.2.1, hS.2.2.2.2.2.1, hS.2.2.2.2.2.2.1, q39 hS.2.2.2.2.2.2.2⟩ (fun hHeld => ?_)
     refine wpAnyH_take (i := 0) (oi := { dst := (some 49), op := (Op.move (Operand.tmp 12)), type := 4, pos := "mem.go:131", after := #[], guard := none }) (v := ?_) rfl (by kernel_rfl) (by kernel_rfl) (by kernel_rfl) (fun _ _ _ h => h) (Or.inl ⟨by rfl, ?_⟩) hHeld ?_
     rotate_left
     ·intro w hSw; (try dsimp only at hSw); go_simp; try with_reducible rfl
     try simp only [Act.put, List.setIfInBounds_toArray, List.set_cons_zero, List.set_cons_succ]
     refine wpAnyH_take (i := 1) (oi := { dst := (some 50), op := (Op.move (Operand.tmp 49)), type := 4, pos := "mem.go:131", after := #[{ on := 0, ground := Ground.data }], guard := none }) (v := ?_) rfl (by kernel_rfl) (by kernel_rfl) (by kernel_rfl) (fun _ _ _ h => h) (Or.inl ⟨by rfl, ?_⟩) hHeld ?_
     rotate_left
     ·intro w hSw; (try dsimp only at hSw); go_simp; try with_reducible rfl
     try simp only [Act.put, List.setIfInBounds_toArray, List.set_cons_zero, List.set_cons_succ]
     refine wpAnyH_take (i := 2) (oi := { dst := (some 51), op := (Op.load 42 (Operand.tmp 14)), type := 42, pos := "mem.go:131", after := #[{ on := 1, ground := Ground.guard }], guard := (some (1, true)) }) rfl (by kernel_rfl) (by kernel_rfl) (by kernel_rfl) (fun _ _ _ h => h) (Or.inr ⟨by rfl, rfl⟩) hHeld ?_
     try simp only [Act.put, List.setIfInBounds_toArray, List.set_cons_zero, List.set_cons_succ]
     refine wpAnyH_take (i := 3) (oi := { dst := (some 52), op := (Op.move (Operand.tmp 8)), type := 38, pos := "mem.go:131", after := #[{ on := 1, ground := Ground.guard }], guard := (some (1, true)) }) rfl (by kernel_rfl) (by kernel_rfl) (by kernel_rfl) (fun _ _ _ h => h) (Or.inr ⟨by rfl, rfl⟩) hHeld ?_
     try simp only [Act.put, List.setIfInBounds_toArray, List.set_cons_zero, List.set_cons_succ]
     refine wpAnyH_take (i := 4) (oi := { dst := (some 53), op := (Op.indexAddr 38 (Operand.tmp 52) (Operand.const (Value.int IntKind.i64 0))), type := 0, pos := "mem.go:131", after := #[{ on := 3, ground := Ground.data }, { on := 1, ground := Ground.guard }], guard := (some (1, true)) }) rfl (by kernel_rfl) (by kernel_rfl) (by kernel_rfl) (fun _ _ _ h => h) (Or.inr ⟨by rfl, rfl⟩) hHeld ?_
     try simp only [Act.put, List.setIfInBounds_toArray, List.set_cons_zero, List.set_cons_succ]
     refine wpAnyH_take (i := 5) (oi := { dst := (some 54), op := (Op.fieldAddr 42 (Operand.tmp 53) 2), type := 0, pos := "mem.go:131", after := #[{ on := 4, ground := Ground.data }, { on := 1, ground := Ground.guard }], guard := (some (1, true)) }) rfl (by kernel_rfl) (by kernel_rfl) (by kernel_rfl) (fun _ _ _ h => h) (Or.inr ⟨by rfl, rfl⟩) hHeld ?_
     try simp only [Act.put, List.setIfInBounds_toArray, List.set_cons_zero, List.set_cons_succ]
     refine wpAnyH_take (i := 6) (oi := { dst := (some 55), op := (Op.fieldAddr 23 (Operand.tmp 54) 0), type := 0, pos := "mem.go:131", after := #[{ on := 5, ground := Ground.data }, { on := 1, ground := Ground.guard }], guard := (some (1, true)) }) rfl (by kernel_rfl) (by kernel_rfl) (by kernel_rfl) (fun _ _ _ h => h) (Or.inr ⟨by rfl, rfl⟩) hHeld ?_
     try simp only [Act.put, List.setIfInBounds_toArray, List.set_cons_zero, List.set_cons_succ]
     refine wpAnyH_take (i := 7) (oi := { dst := (some 56), op := (Op.load 2 (Operand.tmp 55)), type := 2, pos := "mem.go:131", after := #[{ on := 6, ground := Ground.data }, { on := 1, ground := Ground.guard }], guard := (some (1, true)) }) rfl (by kernel_rfl) (by kernel_rfl) (by kernel_rfl) (fun _ _ _ h => h) (Or.inr ⟨by rfl, rfl⟩) hHeld ?_
     try simp only [Act.put, List.setIfInBounds_toArray, List.set_cons_zero, List.set_cons_succ]
     refine wpAnyH_take (i := 8) (oi := { dst := (some 57), op := (Op.move (Operand.tmp 8)), type := 38, pos := "mem.go:131", after := #[{ on := 1, ground := Ground.guard }], guard := (some (1, true)) }) rfl (by kernel_rfl) (by kernel_rfl) (by kernel_rfl) (fun _ _ _ h => h) (Or.inr ⟨by rfl, rfl⟩) hHeld ?_
     try simp only [Act.put, List.setIfInBounds_toArray, List.set_cons_zero, List.set_cons_succ]
     refine wpAnyH_take (i := 9) (oi := { dst := (some 58), op := (Op.indexAddr 38 (Operand.tmp 57) (Operand.const (Value.int IntKind.i64 0))), type := 0, pos := "mem.go:131", after := #[{ on := 8, ground := Ground.data }, { on := 1, ground := Ground.guard }], guard := (some (1, true)) }) rfl (by kernel_rfl) (by kernel_rfl) (by kernel_rfl) (fun _ _ _ h => h) (Or.inr ⟨by rfl, rfl⟩) hHeld ?_
     try simp only [Act.put, List.setIfInBounds_toArray, List.set_cons_zero, List.set_cons_succ]
     refine wpAnyH_take (i := 10) (oi := { dst := (some 59), op := (Op.fieldAddr 42 (Operand.tmp 58) 2), type := 0, pos := "mem.go:131", after := #[{ on := 9, ground := Ground.data }, { on := 1, ground := Ground.guard }], guard := (some (1, true)) }) rfl (by kernel_rfl) (by kernel_rfl) (by kernel_rfl) (fun _ _ _ h => h) (Or.inr ⟨by rfl, rfl⟩) hHeld ?_
     try simp only [Act.put, List.setIfInBounds_toArray, List.set_cons_zero, List.set_cons_succ]
     refine wpAnyH_take (i := 11) (oi := { dst := (some 60), op := (Op.fieldAddr 23 (Operand.tmp 59) 1), type := 0, pos := "mem.go:131", after := #[{ on := 10, ground := Ground.data }, { on := 1, ground := Ground.guard }], guard := (some (1, true)) }) rfl (by kernel_rfl) (by kernel_rfl) (by kernel_rfl) (fun _ _ _ h => h) (Or.inr ⟨by rfl, rfl⟩) hHeld ?_
     try simp only [Act.put, List.setIfInBounds_toArray, List.set_cons_zero, List.set_cons_succ]
     refine wpAnyH_take (i := 12) (oi := { dst := (some 61), op := (Op.load 3 (Operand.tmp 60)), type := 3, pos := "mem.go:131", after := #[{ on := 11, ground := Ground.data }, { on := 1, ground := Ground.guard }], guard := (some (1, true)) }) rfl (by kernel_rfl) (by kernel_rfl) (by kernel_rfl) (fun _ _ _ h => h) (Or.inr ⟨by rfl, rfl⟩) hHeld ?_
     try simp only [Act.put, List.setIfInBounds_toArray, List.set_cons_zero, List.set_cons_succ]
     refine wpAnyH_take (i := 13) (oi := { dst := (some 62), op := (Op.move (Operand.tmp 13)), type := 3, pos := "mem.go:131", after := #[{ on := 1, ground := Ground.guard }], guard := (some (1, true)) }) rfl (by kernel_rfl) (by kernel_rfl) (by kernel_rfl) (fun _ _ _ h => h) (Or.inr ⟨by rfl, rfl⟩) hHeld ?_
     try simp only [Act.put, List.setIfInBounds_toArray, List.set_cons_zero, List.set_cons_succ]
     refine wpAnyH_take (i := 14) (oi := { dst := (some 63), op := (Op.binOp BinOp.add 3 (Operand.tmp 62) (Operand.const (Value.int IntKind.i64 1)) 3), type := 3, pos := "mem.go:131", after := #[{ on := 13, ground := Ground.data }, { on := 1, ground := Ground.guard }], guard := (some (1, true)) }) rfl (by kernel_rfl) (by kernel_rfl) (by kernel_rfl) (fun _ _ _ h => h) (Or.inr ⟨by rfl, rfl⟩) hHeld ?_
     try simp only [Act.put, List.setIfInBounds_toArray, List.set_cons_zero, List.set_cons_succ]
     refine wpAnyH_take (i := 15) (oi := { dst := (some 64), op := (Op.build 23 #[(0, (Operand.tmp 56)), (1, (Operand.tmp 61)), (2, (Operand.tmp 63))]), type := 23, pos := "mem.go:131", after := #[{ on := 7, ground := Ground.data }, { on := 12, ground := Ground.data }, { on := 14, ground := Ground.data }, { on := 1, ground := Ground.guard }], guard := (some (1, true)) }) rfl (by kernel_rfl) (by kernel_rfl) (by kernel_rfl) (fun _ _ _ h => h) (Or.inr ⟨by rfl, rfl⟩) hHeld ?_
     try simp only [Act.put, List.setIfInBounds_toArray, List.set_cons_zero, List.set_cons_succ]
     refine wpAnyH_take (i := 16) (oi := { dst := (some 65), op := (Op.build 42 #[(0, (Operand.const (Value.int IntKind.i64 2))), (2, (Operand.tmp 64))]), type := 42, pos := "mem.go:131", after := #[{ on := 15, ground := Ground.data }, { on := 1, ground := Ground.guard }], guard := (some (1, true)) }) rfl (by kernel_rfl) (by kernel_rfl) (by kernel_rfl) (fun _ _ _ h => h) (Or.inr ⟨by rfl, rfl⟩) hHeld ?_
     try simp only [Act.put, List.setIfInBounds_toArray, List.set_cons_zero, List.set_cons_succ]
     refine wpAnyH_take (i := 17) (oi := { dst := (some 66), op := (Op.binOp BinOp.eql 42 (Operand.tmp 51) (Operand.tmp 65) 42), type := 4, pos := "mem.go:131", after := #[{ on := 2, ground := Ground.data }, { on := 16, ground := Ground.data }, { on := 1, ground := Ground.guard }], guard := (some (1, true)) }) rfl (by kernel_rfl) (by kernel_rfl) (by kernel_rfl) (fun _ _ _ h => h) (Or.inr ⟨by rfl, rfl⟩) hHeld ?_
     try simp only [Act.put, List.setIfInBounds_toArray, List.set_cons_zero, List.set_cons_succ]
     refine wpAnyH_take (i := 18) (oi := { dst := (some 67), op := (Op.pick (Operand.tmp 50) (Operand.tmp 66) (Operand.const (Value.bool false))), type := 4, pos := "mem.go:131", after := #[{ on := 1, ground := Ground.data }, { on := 17, ground := Ground.data }], guard := none }) (v := ?_) rfl (by kernel_rfl) (by kernel_rfl) (by kernel_rfl) (fun _ _ _ h => h) (Or.inl ⟨by rfl, ?_⟩) hHeld ?_
     rotate_left
     ·intro w hSw; (try dsimp only at hSw); go_simp; try with_reducible rfl
     try simp only [Act.put, List.setIfInBounds_toArray, List.set_cons_zero, List.set_cons_succ]
     refine wpAnyH_take (i := 19) (oi := { dst := (some 12), op := (Op.assign (Operand.tmp 67)), type := 4, pos := "mem.go:131", after := #[{ on := 18, ground := Ground.data }, { on := 1, ground := Ground.chain }, { on := 0, ground := Ground.phase }, { on := 1, ground := Ground.phase }, { on := 2, ground := Ground.phase }, { on := 3, ground := Ground.phase }, { on := 4, ground := Ground.phase }, { on := 5, ground := Ground.phase }, { on := 6, ground := Ground.phase }, { on := 7, ground := Ground.phase }, { on := 8, ground := Ground.phase }, { on := 9, ground := Ground.phase }, { on := 10, ground := Ground.phase }, { on := 11, ground := Ground.phase }, { on := 12, ground := Ground.phase }, { on := 13, ground := Ground.phase }, { on := 14, ground := Ground.phase }, { on := 15, ground := Ground.phase }, { on := 16, ground := Ground.phase }, { on := 17, ground := Ground.phase }, { on := 18, ground := Ground.phase }], guard := none }) (v := ?_) rfl (by kernel_rfl) (by kernel_rfl) (by kernel_rfl) (fun _ _ _ h => h) (Or.inl ⟨by rfl, ?_⟩) hHeld ?_
     rotate_left
     ·intro w hSw; (try dsimp only at hSw); go_simp; try with_reducible rfl
     try simp only [Act.put, List.setIfInBounds_toArray, List.set_cons_zero, List.set_cons_succ]
     refine wpAnyH_done (by kernel_rfl) ?_ _
     go_wp2_with fail
     go_roundw
     case rel => exact ⟨j + 1, by omega, by go_num, rfl, by rw [numB, HN.out, HGX.out]; rfl, by rw [partB, HP.out, HGX.out, HGY.out]; rfl, HQ.out _ hHeld⟩
     case measure => simp [intOf]; omega
  ·obtain rfl : j = k := by omega
   clear hj hlt
   have HJ := Aside0.mk hb
   have hz := cell3 (q19 HZ1.out hb.out)
   have hf0 := q0 (q19 HZ1.out hb.out) 0
   have hf1 := q0 (q19 HZ1.out hb.out) 1
   have hf2 := q0 (q19 HZ1.out hb.out) 2
   have hjs : j ≤ 8 := by have := HKK.out; omega
   have hj0 : 0 < j := by have := HKK.out; omega
   obtain ⟨y, hy⟩ : ∃ y : Bt, seg[0]? = some y := ⟨_, List.getElem?_eq_getElem (by rw [HLEN.out]; exact hj0)⟩
   have hgy : seg.getD 0 zb = y := by rw [List.getD_eq_getElem?_getD, hy]; rfl
   have hd := Bytes.at_ (w := wr) (gb := b.gb) (l := l) (i := p.n.toNat) (x := y) (q19 (q19 HY.out HB1.out) hb.out) (by rw [HSEG.out, List.getElem?_take_of_lt hj0, List.getElem?_drop] at hy; exact hy)
   have HGY := Aside0.mk hgy
   clear hgy hy
   cases hn : numB seg j with
   | true =>
    by_cases h4 : j = 4
    ·have h4b : ((j : Int) == 4) = true := beq_iff_eq.mpr (by omega)
     have HR := Aside0.mk (show loadR j seg = (⟨⟨wrap64 (wrap32 (nOf seg j)), 0, 0⟩, 0⟩ : Vl × Int) by rw [loadR, if_pos hn, if_pos h4])
     clear h4 hd
     go_wp2_with fail
     exact bodyPost_ret (q36 rfl _ _ (w.heap.size + 1) 23 _ (0, 0) _ rfl (q50 (q19 HZ1.out HJ.out) _ _ _) Try.underlying23 rfl (by kernel_rfl)) rfl ⟨by rw [HR.out]; rfl, load_kept HB1.out HJ.out _ _ _⟩
    ·have h4b : ((j : Int) == 4) = false := beq_eq_false_iff_ne.mpr (by omega)
     have HR := Aside0.mk (show loadR j seg = (⟨⟨wrap64 (nOf seg j), 0, 0⟩, 0⟩ : Vl × Int) by rw [loadR, if_pos hn, if_neg h4])
     clear h4 hd
     go_wp2_with fail
     exact bodyPost_ret (q36 rfl _ _ (w.heap.size + 1) 23 _ (0, 0) _ rfl (q50 (q19 HZ1.out HJ.out) _ _ _) Try.underlying23 rfl (by kernel_rfl)) rfl ⟨by rw [HR.out]; rfl, load_kept HB1.out HJ.out _ _ _⟩
   | false =>
    cases hp : partB j seg j with
    | true =>
     have HR := Aside0.mk (show loadR j seg = (⟨⟨y.p.n, y.p.b, 0⟩, 0⟩ : Vl × Int) by rw [loadR, hn, if_neg (by decide), if_pos hp, HGY.out])
     go_upto_region 18 with (fail)
     go_still_tail 11, (by kernel_rfl)
     change wpList _ _ _ _ _ wr.drew
     replace HJ := Aside0.mk (q39 HJ.out)
     have hzd : wr.drew.cell? ⟨w.heap.size + 1, 0, none⟩ = some (.int .i64 0) ∧ wr.drew.cell? ⟨w.heap.size + 1, 1, none⟩ = some (.int .i64 0) ∧ wr.drew.cell? ⟨w.heap.size + 1, 2, none⟩ = some (.int .i64 0) := hz
     have hdd : wr.drew.cell? ⟨b.gb, p.n.toNat * 5 + 2, none⟩ = some (.int .i64 y.p.n) ∧ wr.drew.cell? ⟨b.gb, p.n.toNat * 5 + 3, none⟩ = some (.int .i64 y.p.b) := ⟨hd.2.2.1, hd.2.2.2.1⟩
     have hg0 := q0 (q19 HZ1.out HJ.out) 0
     have hg1 := q0 (q19 HZ1.out HJ.out) 1
     have hg2 := q0 (q19 HZ1.out HJ.out) 2
     clear hz hd hf0 hf1 hf2
     generalize wr.drew = wd at HJ hzd hdd hg0 hg1 hg2 ⊢
     go_wp2_with fail
     exact bodyPost_ret (q36 rfl _ _ (w.heap.size + 1) 23 _ (0, 0) _ rfl (q50 (q19 HZ1.out HJ.out) _ _ _) Try.underlying23 rfl (by kernel_rfl)) rfl ⟨by rw [HR.out]; rfl, load_kept HB1.out HJ.out _ _ _⟩
    | false =>
     by_cases h1 : j = 1
     ·have h1b : ((j : Int) == 1) = true := beq_iff_eq.mpr (by omega)
      by_cases h2 : y.k = 2
      ·have h2b : (y.k == 2) = true := beq_iff_eq.mpr h2
       have HR := Aside0.mk (show loadR j seg = (⟨y.p, 0⟩ : Vl × Int) by rw [loadR, hn, if_neg (by decide), hp, if_neg (by decide), if_pos ⟨h1, by rw [HGY.out]; exact h2⟩, HGY.out])
       clear h2 h1
       go_wp2_with fail
       exact bodyPost_ret (q36 rfl _ _ (w.heap.size + 1) 23 _ (0, 0) _ rfl (q50 (q19 HZ1.out HJ.out) _ _ _) Try.underlying23 rfl (by kernel_rfl)) rfl ⟨by rw [HR.out]; rfl, load_kept HB1.out HJ.out _ _ _⟩
      ·have h2b : (y.k == 2) = false := beq_eq_false_iff_ne.mpr h2
       have HR := Aside0.mk (show loadR j seg = (⟨⟨0, 0, 0⟩, 9⟩ : Vl × Int) by rw [loadR, hn, if_neg (by decide), hp, if_neg (by decide), if_neg (fun h => h2 (by rw [HGY.out] at h; exact h.2))])
       clear h2 h1
       go_wp2_with fail
       exact bodyPost_ret (q36 rfl _ _ (w.heap.size + 1) 23 _ (0, 0) _ rfl (q50 (q19 HZ1.out HJ.out) _ _ _) Try.underlying23 rfl (by kernel_rfl)) rfl ⟨by rw [HR.out]; rfl, load_kept HB1.out HJ.out _ _ _⟩
     ·have h1b : ((j : Int) == 1) = false := beq_eq_false_iff_ne.mpr (by omega)
      have HR := Aside0.mk (show loadR j seg = (⟨⟨0, 0, 0⟩, 9⟩ : Vl × Int) by rw [loadR, hn, if_neg (by decide), hp, if_neg (by decide), if_neg (fun h => h1 h.1)])
      clear h1
      go_wp2_with fail
      exact bodyPost_ret (q36 rfl _ _ (w.heap.size + 1) 23 _ (0, 0) _ rfl (q50 (q19 HZ1.out HJ.out) _ _ _) Try.underlying23 rfl (by kernel_rfl)) rfl ⟨by rw [HR.out]; rfl, load_kept HB1.out HJ.out _ _ _⟩
end Go.Proofs.Yteogfjhmjlelnaa.G
set_option linter.unusedVariables false
set_option linter.unusedSimpArgs false
namespace Go.Proofs.Yteogfjhmjlelnaa.G
open Go.RowKit Go.Proofs.Yteogfjhmjlelnaa.B Go.Proofs.YteogfjhmjlelnaaW.PrintWords Go.Proofs.YteogfjhmjlelnaaW.PrintLast Go.Proofs.YteogfjhmjlelnaaW.PrintMore
end Go.Proofs.Yteogfjhmjlelnaa.G
set_option linter.unusedVariables false
set_option linter.unusedSimpArgs false
namespace Go.Proofs.Yteogfjhmjlelnaa.G
open Go.RowKit Go.Proofs.Yteogfjhmjlelnaa.B Go.Proofs.YteogfjhmjlelnaaW.PrintWords Go.Proofs.YteogfjhmjlelnaaW.PrintLast Go.Proofs.YteogfjhmjlelnaaW.PrintMore
end Go.Proofs.Yteogfjhmjlelnaa.G
set_option linter.unusedVariables false
set_option linter.unusedSimpArgs false
namespace Go.Proofs.Yteogfjhmjlelnaa.G
open Go.RowKit Go.Proofs.Yteogfjhmjlelnaa.B Go.Proofs.YteogfjhmjlelnaaW.PrintWords Go.Proofs.YteogfjhmjlelnaaW.PrintLast Go.Proofs.YteogfjhmjlelnaaW.PrintMore
theorem store_err (p x : Vl) (k : Int) (q : Value) (er : Int) (w : World) (he : (er != 0) = true)
    (hW : ∀ W, Below w.heap.size w W → Calls Try.prog 32 #[q, .agg #[.int .i64 p.n, .int .i64 p.b, .int .i64 p.f], .int .i64 k] W fun e w' => e = .returned (.tuple #[.slice none 0 0, .int .i64 er]) ∧ Below W.heap.size W w') :
    Calls Try.prog 16 #[q, .agg #[.int .i64 p.n, .int .i64 p.b, .int .i64 p.f], .int .i64 k, .agg #[.int .i64 x.n, .int .i64 x.b, .int .i64 x.f]] w fun e w' => e = .returned (.int .i64 er) ∧ Below w.heap.size w w' := by
  have HW := Aside0.mk hW
  clear hW
  have hB := Aside0.mk (q10 (q10 (Below.refl w.heap.size w) (.cells #[.int .i64 p.n, .int .i64 p.b, .int .i64 p.f] 23)) (.cells #[.int .i64 x.n, .int .i64 x.b, .int .i64 x.f] 23))
  have hX := Aside0.mk (q12 (q33 w (.cells #[.int .i64 p.n, .int .i64 p.b, .int .i64 p.f] 23)) (.cells #[.int .i64 x.n, .int .i64 x.b, .int .i64 x.f] 23))
  go_enter Try.func16, Try.ntmps16
  go_upto_region 1 with (fail)
  generalize (w.alloc (.cells #[.int .i64 p.n, .int .i64 p.b, .int .i64 p.f] 23)).alloc (.cells #[.int .i64 x.n, .int .i64 x.b, .int .i64 x.f] 23) = W at hB hX ⊢
  have hx := cell3 hX.out
  go_upto_region 2 with (first | (go_at_call 32; refine (HW.out _ hB.out).mono ?_; rintro e w1 ⟨rfl, hb1⟩))
  have HB1 := Aside0.mk (q20 hB.out hb1)
  clear hx hX hB hb1 HW
  go_wp2_with fail
  go_ret
  exact ⟨rfl, HB1.out⟩
end Go.Proofs.Yteogfjhmjlelnaa.G
set_option linter.unusedVariables false
set_option linter.unusedSimpArgs false
namespace Go.Proofs.Yteogfjhmjlelnaa.G
open Go.RowKit Go.Proofs.Yteogfjhmjlelnaa.B Go.Proofs.YteogfjhmjlelnaaW.PrintWords Go.Proofs.YteogfjhmjlelnaaW.PrintLast Go.Proofs.YteogfjhmjlelnaaW.PrintMore
theorem encB_set (x : Bt) : ∀ (l : List Bt) (i : Nat), i < l.length → (((((encB l).set (i * 5) (.int .i64 x.k)).set (i * 5 + 1) (.int .u8 x.v)).set (i * 5 + 2) (.int .i64 x.p.n)).set (i * 5 + 3) (.int .i64 x.p.b)).set (i * 5 + 4) (.int .i64 x.p.f) = encB (l.set i x)
  | [], i, h => by simp at h
  | y :: l, 0, _ => by simp [encB, Bt.cells]
  | y :: l, i + 1, h => by
    have ih := encB_set x l i (by simpa using h)
    have e : encB (y :: l) = y.cells ++ encB l := rfl
    rw [List.set_cons_succ, show encB (y :: l.set i x) = y.cells ++ encB (l.set i x) from rfl, ← ih, e]
    have hl : y.cells.length = 5 := rfl
    rw [show (i + 1) * 5 = y.cells.length + i * 5 by rw [hl]; omega]
    simp only [Nat.add_assoc, List.set_append_right _ _ (Nat.le_add_right _ _), Nat.add_sub_cancel_left]
theorem Bytes.put {w : World} {gb : Nat} {l : List Bt} (h : Bytes w gb l) {i : Nat} (hi : i < l.length) (x : Bt) :
    Bytes (((((w.setCell ⟨gb, i * 5, none⟩ (.int .i64 x.k)).setCell ⟨gb, i * 5 + 1, none⟩ (.int .u8 x.v)).setCell ⟨gb, i * 5 + 2, none⟩ (.int .i64 x.p.n)).setCell ⟨gb, i * 5 + 3, none⟩ (.int .i64 x.p.b)).setCell ⟨gb, i * 5 + 4, none⟩ (.int .i64 x.p.f)) gb (l.set i x) := by
  unfold Bytes at h ⊢
  refine q28 (q28 (q28 (q28 (q28 h _ _ rfl) _ _ rfl) _ _ rfl) _ _ rfl) _ _ ?_
  rw [← encB_set x l i hi]
  simp
end Go.Proofs.Yteogfjhmjlelnaa.G
set_option linter.unusedVariables false
set_option linter.unusedSimpArgs false
namespace Go.Proofs.Yteogfjhmjlelnaa.G
open Go.RowKit Go.Proofs.Yteogfjhmjlelnaa.B Go.Proofs.YteogfjhmjlelnaaW.PrintWords Go.Proofs.YteogfjhmjlelnaaW.PrintLast Go.Proofs.YteogfjhmjlelnaaW.PrintMore
structure Mb where
  site : Int
  l : List Bt
  there : Bool
def blk (g : Nat) (m : Mb) : Blk := ⟨m.site, g, m.l.length, m.there⟩
def blks (gs : List Nat) (s : List Mb) : List Blk := List.zipWith blk gs s
structure Holds (w : World) (gm : Nat) (gs : List Nat) (s : List Mb) : Prop where
  mem : ∃ v, IsMem w gm v (blks gs s)
  len : gs.length = s.length
  nodup : gs.Nodup
  above : ∀ g ∈ gs, gm < g
  bytes : ∀ (i g : Nat) (m : Mb), gs[i]? = some g → s[i]? = some m → Bytes w g m.l ∧ m.l.length ≤ 4096 ∧ ∀ x : Bt, x ∈ m.l → 0 ≤ x.v ∧ x.v ≤ 255
def RowOf (w : World) (gm k : Nat) : Prop := ∃ v, w.heap[gm]? = some (.cells #[v] 73 (0, 0)) ∧ v.ownBlock = some k
def Sof (w : World) (gm : Nat) (gs : List Nat) (k : Nat) : Prop := k = gm ∨ k ∈ gs ∨ (gm < k ∧ RowOf w gm k)
structure Fr (w w' : World) (gm : Nat) (gs : List Nat) : Prop where
  kp : Kp w w' (Sof w gm gs)
  row : gm < w.heap.size → ∀ k, RowOf w' gm k → RowOf w gm k ∨ w.heap.size ≤ k
theorem Fr.os {w w' : World} {gm : Nat} {gs : List Nat} (h : Fr w w' gm gs) : w'.os = w.os := h.kp.os
theorem Fr.tape {w w' : World} {gm : Nat} {gs : List Nat} (h : Fr w w' gm gs) : w'.tape = w.tape := h.kp.tape
theorem Fr.output {w w' : World} {gm : Nat} {gs : List Nat} (h : Fr w w' gm gs) : w'.output = w.output := h.kp.output
theorem Fr.size {w w' : World} {gm : Nat} {gs : List Nat} (h : Fr w w' gm gs) : w.heap.size ≤ w'.heap.size := h.kp.size
theorem Fr.block {w w' : World} {gm : Nat} {gs : List Nat} (h : Fr w w' gm gs) : ∀ i, i < w.heap.size → ¬ Sof w gm gs i → w'.heap[i]? = w.heap[i]? := h.kp.block
theorem RowOf.same {w w' : World} {gm k : Nat} (h : RowOf w' gm k) (he : w'.heap[gm]? = w.heap[gm]?) : RowOf w gm k := by
  obtain ⟨v, h1, h2⟩ := h
  exact ⟨v, he ▸ h1, h2⟩
theorem Fr.refl (w : World) (gm : Nat) (gs : List Nat) : Fr w w gm gs := ⟨Kp.refl _ _, fun _ _ h => .inl h⟩
theorem Fr.below {w w' : World} (h : Below w.heap.size w w') (gm : Nat) (gs : List Nat) : Fr w w' gm gs := ⟨Kp.of_below h _, fun hg k hk => .inl (hk.same (h.block gm hg))⟩
theorem Fr.then_ {w w1 w2 : World} {gm : Nat} {gs gs1 : List Nat} (h : Fr w w1 gm gs) (k : Fr w1 w2 gm gs1) (hg : ∀ g ∈ gs1, g ∈ gs ∨ w.heap.size ≤ g) : Fr w w2 gm gs := by
  refine ⟨Kp.then_ h.kp k.kp (fun b hb => ?_), fun hgm b hb => ?_⟩
  rotate_left
  · rcases k.row (Nat.lt_of_lt_of_le hgm h.size) b hb with hb | hb
    · exact h.row hgm b hb
    · exact .inr (Nat.le_trans h.size hb)
  rcases hb with hb | hb | ⟨hlt', hb⟩
  · exact .inl (.inl hb)
  · exact (hg b hb).elim (fun h => .inl (.inr (.inl h))) .inr
  · by_cases hlt : gm < w.heap.size
    · rcases h.row hlt b hb with hb | hb
      · exact .inl (.inr (.inr ⟨hlt', hb⟩))
      · exact .inr hb
    · exact .inr (by omega)
theorem Fr.next {w w1 w2 : World} {gm : Nat} {gs : List Nat} (h : Fr w w1 gm gs) (k : Fr w1 w2 gm gs) : Fr w w2 gm gs := h.then_ k (fun _ h => .inl h)
theorem Fr.drew {w W : World} {gm : Nat} {gs : List Nat} (h : Fr w W gm gs) : Fr w W.drew gm gs := ⟨Kp.drew h.kp, h.row⟩
theorem blks_get {gs : List Nat} {s : List Mb} (hl : gs.length = s.length) (i : Nat) :
    (blks gs s)[i]? = match s[i]? with | some m => some (blk (gs.getD i 0) m) | none => none := by
  unfold blks
  rw [List.getElem?_zipWith, List.getD_eq_getElem?_getD]
  cases hs : s[i]? with
  | none =>
    have : s.length ≤ i := List.getElem?_eq_none_iff.1 hs
    rw [List.getElem?_eq_none (by omega)]
  | some m =>
    have : i < s.length := (List.getElem?_eq_some_iff.1 hs).1
    rw [List.getElem?_eq_getElem (by omega)]
    rfl
theorem blks_len {gs : List Nat} {s : List Mb} (hl : gs.length = s.length) : (blks gs s).length = s.length := by
  unfold blks; rw [List.length_zipWith]; omega
theorem get_of {gs : List Nat} {s : List Mb} (hl : gs.length = s.length) {i : Nat} {m : Mb} (h : s[i]? = some m) : gs[i]? = some (gs.getD i 0) := by
  have : i < s.length := (List.getElem?_eq_some_iff.1 h).1
  rw [List.getD_eq_getElem?_getD, List.getElem?_eq_getElem (by omega)]; rfl
theorem Holds.small {w : World} {gm : Nat} {gs : List Nat} {s : List Mb} (h : Holds w gm gs s) : ∀ b ∈ blks gs s, b.n ≤ 4096 := by
  intro b hb
  obtain ⟨i, hi⟩ := List.mem_iff_getElem?.1 hb
  rw [blks_get h.len] at hi
  split at hi
  · rename_i m hm
    cases hi
    exact (h.bytes i _ m (get_of h.len hm) hm).2.1
  · cases hi
theorem Holds.below {w W : World} {gm : Nat} {gs : List Nat} {s : List Mb} (h : Holds w gm gs s) (hb : Below w.heap.size w W) : Holds W gm gs s :=
  ⟨h.mem.imp fun v hv => hv.below hb, h.len, h.nodup, h.above, fun i g m hg hm => ⟨q19 (h.bytes i g m hg hm).1 hb, (h.bytes i g m hg hm).2⟩⟩
theorem Holds.sof {w : World} {gm : Nat} {gs : List Nat} {s : List Mb} (h : Holds w gm gs s) : ∀ w' k, Sof w' gm gs k → gm ≤ k := by
  rintro w' k (rfl | hk | ⟨hk, _⟩)
  · exact Nat.le_refl _
  · exact Nat.le_of_lt (h.above k hk)
  · exact Nat.le_of_lt hk
def okS (s : List Mb) (p : Vl) (n : Int) : Option Mb :=
  if (decide (0 < p.b) && p.f == 0) = true then
    match s[p.b.toNat - 1]? with
    | some m => if m.there = true ∧ 0 ≤ n ∧ n ≤ 4096 ∧ 0 ≤ p.n ∧ p.n ≤ (m.l.length : Int) - n then some m else none
    | none => none
  else none
theorem okS_at {gs : List Nat} {s : List Mb} (hl : gs.length = s.length) (p : Vl) (n : Int) :
    okAt (blks gs s) p n = match okS s p n with | some m => some (blk (gs.getD (p.b.toNat - 1) 0) m) | none => none := by
  unfold okAt okS
  rw [blks_get hl]
  split
  · cases hs : s[p.b.toNat - 1]? with
    | none => rfl
    | some m =>
      show (if m.there = true ∧ 0 ≤ n ∧ n ≤ 4096 ∧ 0 ≤ p.n ∧ p.n ≤ (m.l.length : Int) - n then some (blk (gs.getD (p.b.toNat - 1) 0) m) else none) = match (if m.there = true ∧ 0 ≤ n ∧ n ≤ 4096 ∧ 0 ≤ p.n ∧ p.n ≤ (m.l.length : Int) - n then some m else none) with | some m => some (blk (gs.getD (p.b.toNat - 1) 0) m) | none => none
      split <;> rfl
  · rfl
theorem q49 {s : List Mb} {p : Vl} {n : Int} {m : Mb} (h : okS s p n = some m) : 0 ≤ n ∧ n ≤ 4096 ∧ 0 ≤ p.n ∧ p.n ≤ (m.l.length : Int) - n ∧ m.there = true ∧ s[p.b.toNat - 1]? = some m ∧ 0 < p.b ∧ p.f = 0 := by
  unfold okS at h
  split at h
  · rename_i hp
    split at h
    · rename_i m' hm
      split at h
      · rename_i hc
        cases h
        simp only [Bool.and_eq_true, decide_eq_true_eq, beq_iff_eq] at hp
        exact ⟨hc.2.1, hc.2.2.1, hc.2.2.2.1, hc.2.2.2.2, hc.1, hm, hp.1, hp.2⟩
      · cases h
    · cases h
  · cases h
def over (l : List Bt) (i : Nat) (seg : List Bt) : List Bt := l.take i ++ seg ++ l.drop (i + seg.length)
def putS (s : List Mb) (p : Vl) (seg : List Bt) : List Mb := s.modify (p.b.toNat - 1) fun m => { m with l := over m.l p.n.toNat seg }
def segS (m : Mb) (p : Vl) (n : Nat) : List Bt := (m.l.drop p.n.toNat).take n
def isW (k : Int) : Bool := k == 1 || k == 4 || k == 8
def loadS (s : List Mb) (p : Vl) (k : Int) : Vl × Int :=
  if isW k = true then (match okS s p k with | some m => loadR k.toNat (segS m p k.toNat) | none => (⟨0, 0, 0⟩, 9)) else (⟨0, 0, 0⟩, 1)
def byteOf (n : Int) (i : Nat) : Int := (n / 2 ^ (8 * i)) % 256
def numSeg (n : Int) (k : Nat) : List Bt := (List.range k).map fun i => ⟨1, byteOf n i, ⟨0, 0, 0⟩⟩
def ptrSeg (x : Vl) : List Bt := (List.range 8).map fun (i : Nat) => ⟨2, 0, ⟨x.n, x.b, (i : Int) + 1⟩⟩
def encS (k : Int) (x : Vl) : Option (List Bt) :=
  if (x.b == 0 && x.f == 0) = true then some (numSeg x.n k.toNat)
  else if (decide (0 < x.b) && x.f == 0) = true ∧ k = 8 then some (ptrSeg x)
  else if 0 < x.f ∧ k = 1 then some [⟨2, 0, x⟩] else none
def storeS (s : List Mb) (p : Vl) (k : Int) (x : Vl) : List Mb × Int :=
  if isW k = true then (match okS s p k with | some _ => (match encS k x with | some seg => (putS s p seg, 0) | none => (s, 9)) | none => (s, 9)) else (s, 1)
def copyS (s : List Mb) (p q : Vl) (n : Int) : List Mb × Int :=
  match okS s p n, okS s q n with
  | some _, some m => (putS s p (segS m q n.toNat), 0)
  | _, _ => (s, 9)
def fillS (s : List Mb) (p v n : Vl) : List Mb × Int :=
  match okS s p n.n with
  | some _ => if (v.b == 0 && v.f == 0) = true ∧ (n.b == 0 && n.f == 0) = true then (putS s p (List.replicate n.n.toNat ⟨1, v.n % 256, ⟨0, 0, 0⟩⟩), 0) else (s, 9)
  | none => (s, 9)
def allocS (s : List Mb) (site size : Int) (zero : Bool) : List Mb × Int × Int :=
  if size < 0 ∨ 4096 < size ∨ s.length = 2000 then (s, 0, 5)
  else (s ++ [⟨site, List.replicate size.toNat ⟨if zero then 1 else 0, 0, ⟨0, 0, 0⟩⟩, true⟩], (s.length : Int) + 1, 0)
def findS (s : List Mb) (n : Int) : Option Mb := if 1 ≤ n then s[n.toNat - 1]? else none
def endS (s : List Mb) (n : Int) : List Mb × Int :=
  match findS s n with
  | some m => if m.there = true then (s.modify (n.toNat - 1) fun m => { m with there := false }, 0) else (s, 9)
  | none => (s, 9)
def bytesS (s : List Mb) (n : Int) : List Bt := match findS s n with | some m => m.l | none => []
def blockS (s : List Mb) (n : Int) : Int × Int × Bool := match findS s n with | some m => (m.site, (m.l.length : Int), m.there) | none => (0, 0, false)
theorem over_length {l : List Bt} {i : Nat} {seg : List Bt} (h : i + seg.length ≤ l.length) : (over l i seg).length = l.length := by
  unfold over; rw [List.length_append, List.length_append, List.length_take, List.length_drop]; omega
theorem over_snoc {l : List Bt} {i : Nat} {seg : List Bt} {x : Bt} (h : i + seg.length < l.length) : (over l i seg).set (i + seg.length) x = over l i (seg ++ [x]) := by
  unfold over
  have h1 : (l.take i ++ seg).length = i + seg.length := by rw [List.length_append, List.length_take]; omega
  rw [List.set_append_right _ _ (by omega), h1, Nat.sub_self, List.drop_eq_getElem_cons h, List.set_cons_zero]
  simp [Nat.add_assoc]
theorem over_nil (l : List Bt) (i : Nat) : over l i [] = l := by simp [over]
end Go.Proofs.Yteogfjhmjlelnaa.G
set_option linter.unusedVariables false
set_option linter.unusedSimpArgs false
namespace Go.Proofs.Yteogfjhmjlelnaa.G
open Go.RowKit Go.Proofs.Yteogfjhmjlelnaa.B Go.Proofs.YteogfjhmjlelnaaW.PrintWords Go.Proofs.YteogfjhmjlelnaaW.PrintLast Go.Proofs.YteogfjhmjlelnaaW.PrintMore
theorem numSeg_succ (n : Int) (j : Nat) : numSeg n (j + 1) = numSeg n j ++ [⟨1, byteOf n j, ⟨0, 0, 0⟩⟩] := by
  unfold numSeg; rw [List.range_succ, List.map_append]; rfl
theorem numSeg_length (n : Int) (j : Nat) : (numSeg n j).length = j := by simp [numSeg]
def ptrN (x : Vl) (k : Nat) : List Bt := (List.range k).map fun (i : Nat) => ⟨2, 0, ⟨x.n, x.b, (i : Int) + 1⟩⟩
theorem ptrN_succ (x : Vl) (j : Nat) : ptrN x (j + 1) = ptrN x j ++ [⟨2, 0, ⟨x.n, x.b, (j : Int) + 1⟩⟩] := by
  unfold ptrN; rw [List.range_succ, List.map_append]; rfl
theorem ptrN_length (x : Vl) (j : Nat) : (ptrN x j).length = j := by simp [ptrN]
theorem Bytes.put_over {w : World} {gb i j : Nat} {l seg : List Bt} (h : Bytes w gb (over l i seg)) (hj : seg.length = j) (hlt : i + j < l.length) (x : Bt) :
    Bytes (((((w.setCell ⟨gb, i * 5 + j * 5, none⟩ (.int .i64 x.k)).setCell ⟨gb, i * 5 + j * 5 + 1, none⟩ (.int .u8 x.v)).setCell ⟨gb, i * 5 + j * 5 + 2, none⟩ (.int .i64 x.p.n)).setCell ⟨gb, i * 5 + j * 5 + 3, none⟩ (.int .i64 x.p.b)).setCell ⟨gb, i * 5 + j * 5 + 4, none⟩ (.int .i64 x.p.f)) gb (over l i (seg ++ [x])) := by
  have := h.put (i := i + j) (by rw [over_length (by omega)]; exact hlt) x
  rw [Nat.add_mul] at this
  rw [← over_snoc (by omega), hj]
  exact this
theorem kp_put5 {w W : World} {S : Nat → Prop} (h : Kp w W S) {g : Nat} (hS : S g) (o0 o1 o2 o3 o4 : Nat) (u0 u1 u2 u3 u4 : Value) :
    Kp w (((((W.setCell ⟨g, o0, none⟩ u0).setCell ⟨g, o1, none⟩ u1).setCell ⟨g, o2, none⟩ u2).setCell ⟨g, o3, none⟩ u3).setCell ⟨g, o4, none⟩ u4) S :=
  ((((h.setCell (.inl hS) _).setCell (.inl hS) _).setCell (.inl hS) _).setCell (.inl hS) _).setCell (.inl hS) _
set_option maxRecDepth 100000 in
set_option maxHeartbeats 8000000 in
theorem store_num (p x : Vl) (k : Nat) (hk : k = 1 ∨ k = 4 ∨ k = 8) (hx0 : (x.b == 0 && x.f == 0) = true) (gm : Nat) (v : Value) (bs : List Blk) (b : Blk) (l : List Bt) (w : World) (hM : IsMem w gm v bs) (hs : ∀ b ∈ bs, b.n ≤ 4096) (h : okAt bs p k = some b) (hl : Bytes w b.gb l) (hln : l.length = b.n) :
    Calls Try.prog 16 #[.pointer (some ⟨gm, 0, none⟩), .agg #[.int .i64 p.n, .int .i64 p.b, .int .i64 p.f], .int .i64 k, .agg #[.int .i64 x.n, .int .i64 x.b, .int .i64 x.f]] w fun e w' => e = .returned (.int .i64 0) ∧ Bytes w' b.gb (over l p.n.toNat (numSeg x.n k)) ∧ Kp w w' (· = b.gb) := by
  have HM := Aside0.mk hM
  have HS := Aside0.mk hs
  have HO := Aside0.mk h
  have HY := Aside0.mk hl
  have HKK := Aside0.mk hk
  have HLN := Aside0.mk hln
  have HSP := Aside0.mk (okAt_spec h)
  have HGB := Aside0.mk (q30 hl)
  have HBW := Aside0.mk (q10 (q10 (Below.refl w.heap.size w) (.cells #[.int .i64 p.n, .int .i64 p.b, .int .i64 p.f] 23)) (.cells #[.int .i64 x.n, .int .i64 x.b, .int .i64 x.f] 23))
  have hX := Aside0.mk (q12 (q33 w (.cells #[.int .i64 p.n, .int .i64 p.b, .int .i64 p.f] 23)) (.cells #[.int .i64 x.n, .int .i64 x.b, .int .i64 x.f] 23))
  have hZ := Aside0.mk (q46 (W := w.alloc (.cells #[.int .i64 p.n, .int .i64 p.b, .int .i64 p.f] 23)) (n := w.heap.size + 1) (.cells #[.int .i64 x.n, .int .i64 x.b, .int .i64 x.f] 23) (by simp))
  clear hM hs h hl hk hln
  go_enter Try.func16, Try.ntmps16
  go_upto_region 1 with (fail)
  generalize (w.alloc (.cells #[.int .i64 p.n, .int .i64 p.b, .int .i64 p.f] 23)).alloc (.cells #[.int .i64 x.n, .int .i64 x.b, .int .i64 x.f] 23) = W at HBW hX hZ ⊢
  have hx := cell3 hX.out
  go_upto_region 2 with (first | (go_at_call 32; refine (wide_good p k HKK.out gm v bs b _ (HM.out.below HBW.out) HS.out HO.out).mono ?_; rintro e w1 ⟨rfl, hb1⟩))
  have HZ1 := Aside0.mk (q19 hZ.out hb1)
  have HB1 := Aside0.mk (q20 HBW.out hb1)
  clear hx hX hZ hb1 HBW
  go_upto_block 0 with (fail)
  have hz := cell3 HZ1.out
  go_upto_block 1 with (first | (go_at_call 33; refine (q38 x _).mono ?_; rintro e w2 ⟨rfl, hb2⟩))
  have HZ2 := Aside0.mk (q19 HZ1.out hb2)
  have HB2 := Aside0.mk (q20 HB1.out hb2)
  clear hz hb2 HZ1 HB1
  go_wp2_with fail
  go_loopw [28] (fun i wx => ∃ j : Nat, j ≤ k ∧ i = .int .i64 j ∧ Hid (Bytes wx b.gb (over l p.n.toNat (numSeg x.n j))) ∧ Hid (Kp w2 wx (· = b.gb))) (fun i _ => k - (intOf i).toNat)
  case atStart => exact ⟨0, Nat.zero_le _, rfl, by show Bytes _ _ (over l p.n.toNat []); rw [over_nil]; exact q19 HY.out HB2.out, Kp.refl _ _⟩
  case round =>
    obtain ⟨j, hj, rfl, hb, hkp⟩ := hrel
    have hgb := HGB.out
    have hz := cell3 (blk_kp HZ2.out hkp.out (by have := hgb; show ¬ (_ = _); omega))
    have hsp := HSP.out
    have hlen := HLN.out
    by_cases hlt : j < k
    · obtain ⟨y, hy⟩ : ∃ y : Bt, (over l p.n.toNat (numSeg x.n j))[p.n.toNat + j]? = some y := ⟨_, List.getElem?_eq_getElem (by rw [over_length (by rw [numSeg_length]; omega)]; omega)⟩
      have hqj : p.n.toNat + j < l.length := by omega
      have hk8 : k ≤ 8 := by have := HKK.out; omega
      have hc := Bytes.at_ hb.out hy
      have hf0 := q0 hb.out ((p.n.toNat + j) * 5)
      have hf1 := q0 hb.out ((p.n.toNat + j) * 5 + 1)
      have hf2 := q0 hb.out ((p.n.toNat + j) * 5 + 2)
      have hf3 := q0 hb.out ((p.n.toNat + j) * 5 + 3)
      have hf4 := q0 hb.out ((p.n.toNat + j) * 5 + 4)
      have HB := Aside0.mk hb
      have HKP := Aside0.mk hkp
      have HQJ := Aside0.mk hqj
      have hjk : ((j : Int) < (k : Int)) := by omega
      have hw8 : wrap64 (8 * (j : Int)) = 8 * (j : Int) := by unfold wrap64; omega
      have hwj : IntKind.i64.wrap ((j : Int) + 1) = (j : Int) + 1 := by rw [IntKind.wrap_i64]; omega
      rw [Nat.add_mul] at hc hf0 hf1 hf2 hf3 hf4
      clear hb hkp hsp hlen hgb hy hqj
      go_wp2_with fail
      go_roundw
      case rel => exact ⟨j + 1, by omega, by go_num, by show Bytes _ _ _; rw [numSeg_succ]; exact HB.out.put_over (numSeg_length _ _) HQJ.out ⟨1, byteOf x.n j, ⟨0, 0, 0⟩⟩, kp_put5 HKP.out rfl _ _ _ _ _ _ _ _ _ _⟩
      case measure => simp [intOf]; omega
    · obtain rfl : j = k := by omega
      have HB := Aside0.mk hb
      have HKP := Aside0.mk hkp
      clear hz hsp hlen hb hkp
      go_wp2_with fail
      go_ret
      exact ⟨rfl, HB.out, (Kp.of_below HB2.out (· = b.gb)).then_ HKP.out (fun _ h => .inl h)⟩
end Go.Proofs.Yteogfjhmjlelnaa.G
set_option linter.unusedVariables false
set_option linter.unusedSimpArgs false
namespace Go.Proofs.Yteogfjhmjlelnaa.G
open Go.RowKit Go.Proofs.Yteogfjhmjlelnaa.B Go.Proofs.YteogfjhmjlelnaaW.PrintWords Go.Proofs.YteogfjhmjlelnaaW.PrintLast Go.Proofs.YteogfjhmjlelnaaW.PrintMore
set_option maxRecDepth 100000 in
set_option maxHeartbeats 8000000 in
theorem store_ptr (p x : Vl) (hx0 : (x.b == 0 && x.f == 0) = false) (hx1 : (decide (0 < x.b) && x.f == 0) = true) (gm : Nat) (v : Value) (bs : List Blk) (b : Blk) (l : List Bt) (w : World) (hM : IsMem w gm v bs) (hs : ∀ b ∈ bs, b.n ≤ 4096) (h : okAt bs p (8 : Nat) = some b) (hl : Bytes w b.gb l) (hln : l.length = b.n) :
  Calls Try.prog 16 #[.pointer (some ⟨gm, 0, none⟩), .agg #[.int .i64 p.n, .int .i64 p.b, .int .i64 p.f], .int .i64 8, .agg #[.int .i64 x.n, .int .i64 x.b, .int .i64 x.f]] w fun e w' => e = .returned (.int .i64 0) ∧ Bytes w' b.gb (over l p.n.toNat (ptrN x 8)) ∧ Kp w w' (· = b.gb) := by
 have HM := Aside0.mk hM
 have HS := Aside0.mk hs
 have HO := Aside0.mk h
 have HY := Aside0.mk hl
 skip
 have HLN := Aside0.mk hln
 have HSP := Aside0.mk (okAt_spec h)
 have HGB := Aside0.mk (q30 hl)
 have HBW := Aside0.mk (q10 (q10 (Below.refl w.heap.size w) (.cells #[.int .i64 p.n, .int .i64 p.b, .int .i64 p.f] 23)) (.cells #[.int .i64 x.n, .int .i64 x.b, .int .i64 x.f] 23))
 have hX := Aside0.mk (q12 (q33 w (.cells #[.int .i64 p.n, .int .i64 p.b, .int .i64 p.f] 23)) (.cells #[.int .i64 x.n, .int .i64 x.b, .int .i64 x.f] 23))
 have hZ := Aside0.mk (q46 (W := w.alloc (.cells #[.int .i64 p.n, .int .i64 p.b, .int .i64 p.f] 23)) (n := w.heap.size + 1) (.cells #[.int .i64 x.n, .int .i64 x.b, .int .i64 x.f] 23) (by simp))
 clear hM hs h hl  hln
 go_enter Try.func16, Try.ntmps16
 go_upto_region 1 with (fail)
 generalize (w.alloc (.cells #[.int .i64 p.n, .int .i64 p.b, .int .i64 p.f] 23)).alloc (.cells #[.int .i64 x.n, .int .i64 x.b, .int .i64 x.f] 23) = W at HBW hX hZ ⊢
 have hx := cell3 hX.out
 go_upto_region 2 with (first | (go_at_call 32; refine (wide_good p 8 (by decide) gm v bs b _ (HM.out.below HBW.out) HS.out HO.out).mono ?_; rintro e w1 ⟨rfl, hb1⟩))
 have HZ1 := Aside0.mk (q19 hZ.out hb1)
 have HB1 := Aside0.mk (q20 HBW.out hb1)
 clear hx hX hZ hb1 HBW
 go_upto_block 0 with (fail)
 have hz := cell3 HZ1.out
 go_upto_region 11 with (first | (go_at_call 33; refine (q38 x _).mono ?_; rintro e w2 ⟨rfl, hb2⟩))
 have HZ2 := Aside0.mk (q19 HZ1.out hb2)
 have HB2 := Aside0.mk (q20 HB1.out hb2)
 clear hz hb2 HZ1 HB1
 have hz := cell3 HZ2.out
 go_upto_block 3 with (first | (go_at_call 34; refine (q34 x _).mono ?_; rintro e w3 ⟨rfl, hb3⟩))
 have HZ3 := Aside0.mk (q19 HZ2.out hb3)
 have HB3 := Aside0.mk (q20 HB2.out hb3)
 clear hz hb3 HZ2 HB2
 go_wp2_with fail
 go_loopw [51] (fun i wx => ∃ j : Nat, j ≤ 8 ∧ i = .int .i64 j ∧ Hid (Bytes wx b.gb (over l p.n.toNat (ptrN x j))) ∧ Hid (Kp w3 wx (· = b.gb))) (fun i _ => 8 - (intOf i).toNat)
 case atStart => exact ⟨0, Nat.zero_le _, rfl, by show Bytes _ _ (over l p.n.toNat []); rw [over_nil]; exact q19 HY.out HB3.out, Kp.refl _ _⟩
 case round =>
  obtain ⟨j, hj, rfl, hb, hkp⟩ := hrel
  have hgb := HGB.out
  have hz := cell3 (blk_kp HZ3.out hkp.out (by have := hgb; show ¬ (_ = _); omega))
  have hsp := HSP.out
  have hlen := HLN.out
  by_cases hlt : j < 8
  ·obtain ⟨y, hy⟩ : ∃ y : Bt, (over l p.n.toNat (ptrN x j))[p.n.toNat + j]? = some y := ⟨_, List.getElem?_eq_getElem (by rw [over_length (by rw [ptrN_length]; omega)]; omega)⟩
   have hqj : p.n.toNat + j < l.length := by omega
   skip
   have hc := Bytes.at_ hb.out hy
   have hf0 := q0 hb.out ((p.n.toNat + j) * 5)
   have hf1 := q0 hb.out ((p.n.toNat + j) * 5 + 1)
   have hf2 := q0 hb.out ((p.n.toNat + j) * 5 + 2)
   have hf3 := q0 hb.out ((p.n.toNat + j) * 5 + 3)
   have hf4 := q0 hb.out ((p.n.toNat + j) * 5 + 4)
   have HB := Aside0.mk hb
   have HKP := Aside0.mk hkp
   have HQJ := Aside0.mk hqj
   have hjk : ((j : Int) < (8 : Int)) := by omega
   have hw8 : wrap64 (8 * (j : Int)) = 8 * (j : Int) := by unfold wrap64; omega
   have hwj : IntKind.i64.wrap ((j : Int) + 1) = (j : Int) + 1 := by rw [IntKind.wrap_i64]; omega
   rw [Nat.add_mul] at hc hf0 hf1 hf2 hf3 hf4
   clear hb hkp hsp hlen hgb hy hqj
   go_wp2_with fail
   go_roundw
   case rel => exact ⟨j + 1, by omega, by go_num, by show Bytes _ _ _; rw [ptrN_succ]; exact HB.out.put_over (ptrN_length _ _) HQJ.out ⟨2, 0, ⟨x.n, x.b, (j : Int) + 1⟩⟩, kp_put5 HKP.out rfl _ _ _ _ _ _ _ _ _ _⟩
   case measure => simp [intOf]; omega
  ·obtain rfl : j = 8 := by omega
   have HB := Aside0.mk hb
   have HKP := Aside0.mk hkp
   clear hz hsp hlen hb hkp
   go_wp2_with fail
   go_ret
   exact ⟨rfl, HB.out, (Kp.of_below HB3.out (· = b.gb)).then_ HKP.out (fun _ h => .inl h)⟩
set_option maxRecDepth 100000 in
set_option maxHeartbeats 8000000 in
theorem store_part (p x : Vl) (hx1 : (decide (0 < x.b) && x.f == 0) = false) (hx0 : (x.b == 0 && x.f == 0) = false) (hf : decide (0 < x.f) = true) (gm : Nat) (v : Value) (bs : List Blk) (b : Blk) (l : List Bt) (w : World) (hM : IsMem w gm v bs) (hs : ∀ b ∈ bs, b.n ≤ 4096) (h : okAt bs p (1 : Nat) = some b) (hl : Bytes w b.gb l) (hln : l.length = b.n) :
  Calls Try.prog 16 #[.pointer (some ⟨gm, 0, none⟩), .agg #[.int .i64 p.n, .int .i64 p.b, .int .i64 p.f], .int .i64 1, .agg #[.int .i64 x.n, .int .i64 x.b, .int .i64 x.f]] w fun e w' => e = .returned (.int .i64 0) ∧ Bytes w' b.gb (over l p.n.toNat ([⟨2, 0, x⟩])) ∧ Kp w w' (· = b.gb) := by
 have HM := Aside0.mk hM
 have HS := Aside0.mk hs
 have HO := Aside0.mk h
 have HY := Aside0.mk hl
 skip
 have HLN := Aside0.mk hln
 have HSP := Aside0.mk (okAt_spec h)
 have HGB := Aside0.mk (q30 hl)
 have HBW := Aside0.mk (q10 (q10 (Below.refl w.heap.size w) (.cells #[.int .i64 p.n, .int .i64 p.b, .int .i64 p.f] 23)) (.cells #[.int .i64 x.n, .int .i64 x.b, .int .i64 x.f] 23))
 have hX := Aside0.mk (q12 (q33 w (.cells #[.int .i64 p.n, .int .i64 p.b, .int .i64 p.f] 23)) (.cells #[.int .i64 x.n, .int .i64 x.b, .int .i64 x.f] 23))
 have hZ := Aside0.mk (q46 (W := w.alloc (.cells #[.int .i64 p.n, .int .i64 p.b, .int .i64 p.f] 23)) (n := w.heap.size + 1) (.cells #[.int .i64 x.n, .int .i64 x.b, .int .i64 x.f] 23) (by simp))
 clear hM hs h hl  hln
 go_enter Try.func16, Try.ntmps16
 go_upto_region 1 with (fail)
 generalize (w.alloc (.cells #[.int .i64 p.n, .int .i64 p.b, .int .i64 p.f] 23)).alloc (.cells #[.int .i64 x.n, .int .i64 x.b, .int .i64 x.f] 23) = W at HBW hX hZ ⊢
 have hx := cell3 hX.out
 go_upto_region 2 with (first | (go_at_call 32; refine (wide_good p 1 (by decide) gm v bs b _ (HM.out.below HBW.out) HS.out HO.out).mono ?_; rintro e w1 ⟨rfl, hb1⟩))
 have HZ1 := Aside0.mk (q19 hZ.out hb1)
 have HB1 := Aside0.mk (q20 HBW.out hb1)
 clear hx hX hZ hb1 HBW
 go_upto_block 0 with (fail)
 have hz := cell3 HZ1.out
 go_upto_region 11 with (first | (go_at_call 33; refine (q38 x _).mono ?_; rintro e w2 ⟨rfl, hb2⟩))
 have HZ2 := Aside0.mk (q19 HZ1.out hb2)
 have HB2 := Aside0.mk (q20 HB1.out hb2)
 clear hz hb2 HZ1 HB1
 have hz := cell3 HZ2.out
 go_upto_region 17 with (first | (go_at_call 34; refine (q34 x _).mono ?_; rintro e w3 ⟨rfl, hb3⟩))
 have HZ3 := Aside0.mk (q19 HZ2.out hb3)
 have HB3 := Aside0.mk (q20 HB2.out hb3)
 clear hz hb3 HZ2 HB2
 have hz := cell3 HZ3.out
 have hb := q19 HY.out HB3.out
 have hsp := HSP.out
 have hln := HLN.out
 obtain ⟨y, hy⟩ : ∃ y : Bt, l[p.n.toNat]? = some y := ⟨_, List.getElem?_eq_getElem (by omega)⟩
 have hc := Bytes.at_ hb hy
 have hf0 := q0 hb (p.n.toNat * 5)
 have hf1 := q0 hb (p.n.toNat * 5 + 1)
 have hf2 := q0 hb (p.n.toNat * 5 + 2)
 have hf3 := q0 hb (p.n.toNat * 5 + 3)
 have hf4 := q0 hb (p.n.toNat * 5 + 4)
 have HB := Aside0.mk (Bytes.put_over (l := l) (i := p.n.toNat) (seg := []) (j := 0) (by rw [over_nil]; exact hb) rfl (by omega) ⟨2, 0, x⟩)
 clear hb hsp hln hy
 go_wp2_with fail
 go_ret
 exact ⟨rfl, by simpa using HB.out, kp_put5 (Kp.of_below HB3.out (· = b.gb)) rfl _ _ _ _ _ _ _ _ _ _⟩
set_option maxRecDepth 100000 in
set_option maxHeartbeats 8000000 in
theorem store_no1 (p x : Vl) (k : Nat) (hk : k = 1 ∨ k = 4 ∨ k = 8) (hx1 : (decide (0 < x.b) && x.f == 0) = false) (hx0 : (x.b == 0 && x.f == 0) = false) (hf : decide (0 < x.f) = false) (gm : Nat) (v : Value) (bs : List Blk) (b : Blk) (l : List Bt) (w : World) (hM : IsMem w gm v bs) (hs : ∀ b ∈ bs, b.n ≤ 4096) (h : okAt bs p k = some b) (hl : Bytes w b.gb l) (hln : l.length = b.n) :
  Calls Try.prog 16 #[.pointer (some ⟨gm, 0, none⟩), .agg #[.int .i64 p.n, .int .i64 p.b, .int .i64 p.f], .int .i64 k, .agg #[.int .i64 x.n, .int .i64 x.b, .int .i64 x.f]] w fun e w' => e = .returned (.int .i64 9) ∧ Below w.heap.size w w' := by
 have HM := Aside0.mk hM
 have HS := Aside0.mk hs
 have HO := Aside0.mk h
 have HY := Aside0.mk hl
 have HKK := Aside0.mk hk
 have HLN := Aside0.mk hln
 have HSP := Aside0.mk (okAt_spec h)
 have HGB := Aside0.mk (q30 hl)
 have HBW := Aside0.mk (q10 (q10 (Below.refl w.heap.size w) (.cells #[.int .i64 p.n, .int .i64 p.b, .int .i64 p.f] 23)) (.cells #[.int .i64 x.n, .int .i64 x.b, .int .i64 x.f] 23))
 have hX := Aside0.mk (q12 (q33 w (.cells #[.int .i64 p.n, .int .i64 p.b, .int .i64 p.f] 23)) (.cells #[.int .i64 x.n, .int .i64 x.b, .int .i64 x.f] 23))
 have hZ := Aside0.mk (q46 (W := w.alloc (.cells #[.int .i64 p.n, .int .i64 p.b, .int .i64 p.f] 23)) (n := w.heap.size + 1) (.cells #[.int .i64 x.n, .int .i64 x.b, .int .i64 x.f] 23) (by simp))
 clear hM hs h hl hk hln
 go_enter Try.func16, Try.ntmps16
 go_upto_region 1 with (fail)
 generalize (w.alloc (.cells #[.int .i64 p.n, .int .i64 p.b, .int .i64 p.f] 23)).alloc (.cells #[.int .i64 x.n, .int .i64 x.b, .int .i64 x.f] 23) = W at HBW hX hZ ⊢
 have hx := cell3 hX.out
 go_upto_region 2 with (first | (go_at_call 32; refine (wide_good p k HKK.out gm v bs b _ (HM.out.below HBW.out) HS.out HO.out).mono ?_; rintro e w1 ⟨rfl, hb1⟩))
 have HZ1 := Aside0.mk (q19 hZ.out hb1)
 have HB1 := Aside0.mk (q20 HBW.out hb1)
 clear hx hX hZ hb1 HBW
 go_upto_block 0 with (fail)
 have hz := cell3 HZ1.out
 go_upto_region 11 with (first | (go_at_call 33; refine (q38 x _).mono ?_; rintro e w2 ⟨rfl, hb2⟩))
 have HZ2 := Aside0.mk (q19 HZ1.out hb2)
 have HB2 := Aside0.mk (q20 HB1.out hb2)
 clear hz hb2 HZ1 HB1
 have hz := cell3 HZ2.out
 go_upto_region 17 with (first | (go_at_call 34; refine (q34 x _).mono ?_; rintro e w3 ⟨rfl, hb3⟩))
 have HZ3 := Aside0.mk (q19 HZ2.out hb3)
 have HB3 := Aside0.mk (q20 HB2.out hb3)
 clear hz hb3 HZ2 HB2
 have hz := cell3 HZ3.out
 go_wp2_with fail
 go_ret
 exact ⟨rfl, HB3.out⟩
set_option maxRecDepth 100000 in
set_option maxHeartbeats 8000000 in
theorem store_no2 (p x : Vl) (k : Nat) (hk : k = 1 ∨ k = 4 ∨ k = 8) (hx1 : (decide (0 < x.b) && x.f == 0) = false) (hx0 : (x.b == 0 && x.f == 0) = false) (hf : decide (0 < x.f) = true) (hk1 : ((k : Int) == 1) = false) (gm : Nat) (v : Value) (bs : List Blk) (b : Blk) (l : List Bt) (w : World) (hM : IsMem w gm v bs) (hs : ∀ b ∈ bs, b.n ≤ 4096) (h : okAt bs p k = some b) (hl : Bytes w b.gb l) (hln : l.length = b.n) :
  Calls Try.prog 16 #[.pointer (some ⟨gm, 0, none⟩), .agg #[.int .i64 p.n, .int .i64 p.b, .int .i64 p.f], .int .i64 k, .agg #[.int .i64 x.n, .int .i64 x.b, .int .i64 x.f]] w fun e w' => e = .returned (.int .i64 9) ∧ Below w.heap.size w w' := by
 have HM := Aside0.mk hM
 have HS := Aside0.mk hs
 have HO := Aside0.mk h
 have HY := Aside0.mk hl
 have HKK := Aside0.mk hk
 have HLN := Aside0.mk hln
 have HSP := Aside0.mk (okAt_spec h)
 have HGB := Aside0.mk (q30 hl)
 have HBW := Aside0.mk (q10 (q10 (Below.refl w.heap.size w) (.cells #[.int .i64 p.n, .int .i64 p.b, .int .i64 p.f] 23)) (.cells #[.int .i64 x.n, .int .i64 x.b, .int .i64 x.f] 23))
 have hX := Aside0.mk (q12 (q33 w (.cells #[.int .i64 p.n, .int .i64 p.b, .int .i64 p.f] 23)) (.cells #[.int .i64 x.n, .int .i64 x.b, .int .i64 x.f] 23))
 have hZ := Aside0.mk (q46 (W := w.alloc (.cells #[.int .i64 p.n, .int .i64 p.b, .int .i64 p.f] 23)) (n := w.heap.size + 1) (.cells #[.int .i64 x.n, .int .i64 x.b, .int .i64 x.f] 23) (by simp))
 clear hM hs h hl hk hln
 go_enter Try.func16, Try.ntmps16
 go_upto_region 1 with (fail)
 generalize (w.alloc (.cells #[.int .i64 p.n, .int .i64 p.b, .int .i64 p.f] 23)).alloc (.cells #[.int .i64 x.n, .int .i64 x.b, .int .i64 x.f] 23) = W at HBW hX hZ ⊢
 have hx := cell3 hX.out
 go_upto_region 2 with (first | (go_at_call 32; refine (wide_good p k HKK.out gm v bs b _ (HM.out.below HBW.out) HS.out HO.out).mono ?_; rintro e w1 ⟨rfl, hb1⟩))
 have HZ1 := Aside0.mk (q19 hZ.out hb1)
 have HB1 := Aside0.mk (q20 HBW.out hb1)
 clear hx hX hZ hb1 HBW
 go_upto_block 0 with (fail)
 have hz := cell3 HZ1.out
 go_upto_region 11 with (first | (go_at_call 33; refine (q38 x _).mono ?_; rintro e w2 ⟨rfl, hb2⟩))
 have HZ2 := Aside0.mk (q19 HZ1.out hb2)
 have HB2 := Aside0.mk (q20 HB1.out hb2)
 clear hz hb2 HZ1 HB1
 have hz := cell3 HZ2.out
 go_upto_region 17 with (first | (go_at_call 34; refine (q34 x _).mono ?_; rintro e w3 ⟨rfl, hb3⟩))
 have HZ3 := Aside0.mk (q19 HZ2.out hb3)
 have HB3 := Aside0.mk (q20 HB2.out hb3)
 clear hz hb3 HZ2 HB2
 have hz := cell3 HZ3.out
 go_wp2_with fail
 go_ret
 exact ⟨rfl, HB3.out⟩
set_option maxRecDepth 100000 in
set_option maxHeartbeats 8000000 in
theorem store_no3 (p x : Vl) (k : Nat) (hk : k = 1 ∨ k = 4 ∨ k = 8) (hx1 : (decide (0 < x.b) && x.f == 0) = true) (hx0 : (x.b == 0 && x.f == 0) = false) (hk8 : ((k : Int) == 8) = false) (hf : decide (0 < x.f) = false) (gm : Nat) (v : Value) (bs : List Blk) (b : Blk) (l : List Bt) (w : World) (hM : IsMem w gm v bs) (hs : ∀ b ∈ bs, b.n ≤ 4096) (h : okAt bs p k = some b) (hl : Bytes w b.gb l) (hln : l.length = b.n) :
  Calls Try.prog 16 #[.pointer (some ⟨gm, 0, none⟩), .agg #[.int .i64 p.n, .int .i64 p.b, .int .i64 p.f], .int .i64 k, .agg #[.int .i64 x.n, .int .i64 x.b, .int .i64 x.f]] w fun e w' => e = .returned (.int .i64 9) ∧ Below w.heap.size w w' := by
 have HM := Aside0.mk hM
 have HS := Aside0.mk hs
 have HO := Aside0.mk h
 have HY := Aside0.mk hl
 have HKK := Aside0.mk hk
 have HLN := Aside0.mk hln
 have HSP := Aside0.mk (okAt_spec h)
 have HGB := Aside0.mk (q30 hl)
 have HBW := Aside0.mk (q10 (q10 (Below.refl w.heap.size w) (.cells #[.int .i64 p.n, .int .i64 p.b, .int .i64 p.f] 23)) (.cells #[.int .i64 x.n, .int .i64 x.b, .int .i64 x.f] 23))
 have hX := Aside0.mk (q12 (q33 w (.cells #[.int .i64 p.n, .int .i64 p.b, .int .i64 p.f] 23)) (.cells #[.int .i64 x.n, .int .i64 x.b, .int .i64 x.f] 23))
 have hZ := Aside0.mk (q46 (W := w.alloc (.cells #[.int .i64 p.n, .int .i64 p.b, .int .i64 p.f] 23)) (n := w.heap.size + 1) (.cells #[.int .i64 x.n, .int .i64 x.b, .int .i64 x.f] 23) (by simp))
 clear hM hs h hl hk hln
 go_enter Try.func16, Try.ntmps16
 go_upto_region 1 with (fail)
 generalize (w.alloc (.cells #[.int .i64 p.n, .int .i64 p.b, .int .i64 p.f] 23)).alloc (.cells #[.int .i64 x.n, .int .i64 x.b, .int .i64 x.f] 23) = W at HBW hX hZ ⊢
 have hx := cell3 hX.out
 go_upto_region 2 with (first | (go_at_call 32; refine (wide_good p k HKK.out gm v bs b _ (HM.out.below HBW.out) HS.out HO.out).mono ?_; rintro e w1 ⟨rfl, hb1⟩))
 have HZ1 := Aside0.mk (q19 hZ.out hb1)
 have HB1 := Aside0.mk (q20 HBW.out hb1)
 clear hx hX hZ hb1 HBW
 go_upto_block 0 with (fail)
 have hz := cell3 HZ1.out
 go_upto_region 11 with (first | (go_at_call 33; refine (q38 x _).mono ?_; rintro e w2 ⟨rfl, hb2⟩))
 have HZ2 := Aside0.mk (q19 HZ1.out hb2)
 have HB2 := Aside0.mk (q20 HB1.out hb2)
 clear hz hb2 HZ1 HB1
 have hz := cell3 HZ2.out
 go_upto_region 17 with (first | (go_at_call 34; refine (q34 x _).mono ?_; rintro e w3 ⟨rfl, hb3⟩))
 have HZ3 := Aside0.mk (q19 HZ2.out hb3)
 have HB3 := Aside0.mk (q20 HB2.out hb3)
 clear hz hb3 HZ2 HB2
 have hz := cell3 HZ3.out
 go_wp2_with fail
 go_ret
 exact ⟨rfl, HB3.out⟩
end Go.Proofs.Yteogfjhmjlelnaa.G
set_option linter.unusedVariables false
set_option linter.unusedSimpArgs false
namespace Go.Proofs.Yteogfjhmjlelnaa.G
open Go.RowKit Go.Proofs.Yteogfjhmjlelnaa.B Go.Proofs.YteogfjhmjlelnaaW.PrintWords Go.Proofs.YteogfjhmjlelnaaW.PrintLast Go.Proofs.YteogfjhmjlelnaaW.PrintMore
def Vl.agg (p : Vl) : Value := .agg #[.int .i64 p.n, .int .i64 p.b, .int .i64 p.f]
theorem blks_modify {gs : List Nat} {s : List Mb} (hl : gs.length = s.length) {i : Nat} {f : Mb → Mb} (hf : ∀ m, s[i]? = some m → (f m).site = m.site ∧ (f m).l.length = m.l.length ∧ (f m).there = m.there) : blks gs (s.modify i f) = blks gs s := by
 apply List.ext_getElem?
 intro j
 rw [blks_get (by rw [List.length_modify]; exact hl), blks_get hl, List.getElem?_modify]
 cases hs : s[j]? with
 | none => rfl
 | some m =>
  by_cases hij : i = j
  ·subst hij
   obtain ⟨h1, h2, h3⟩ := hf m hs
   simp [blk, h1, h2, h3]
  ·simp [hij]
theorem Sof.typed {w : World} {gm g : Nat} {gs : List Nat} {c : Array Value} {t : Nat} {fr : Nat × Nat} (hg : w.heap[g]? = some (.cells c t fr)) (h1 : g ≠ gm) (h2 : g ∉ gs) (h3 : t ≠ 75) (hR : ∀ k, RowOf w gm k → ∃ c fr, w.heap[k]? = some (.cells c 75 fr)) : ¬ Sof w gm gs g := by
 rintro (h | h | ⟨_, h⟩)
 ·exact h1 h
 ·exact h2 h
 ·obtain ⟨c', fr', h⟩ := hR g h
  rw [hg] at h
  injection h with h
  injection h with _ h
  exact h3 h
theorem IsMem.rowty {w : World} {gm : Nat} {v : Value} {bs : List Blk} (h : IsMem w gm v bs) : ∀ k, RowOf w gm k → ∃ c fr, w.heap[k]? = some (.cells c 75 fr) := by
 rintro k ⟨v', h1, h2⟩
 rw [h.box] at h1
 injection h1 with h1
 injection h1 with h1 _
 injection h1 with h1
 injection h1 with h1
 subst h1
 exact (q42 h.row k h2).imp fun c hc => ⟨_, hc⟩
theorem Holds.rowty {w : World} {gm : Nat} {gs : List Nat} {s : List Mb} (h : Holds w gm gs s) : ∀ k, RowOf w gm k → ∃ c fr, w.heap[k]? = some (.cells c 75 fr) := by
 obtain ⟨v, hM⟩ := h.mem
 exact hM.rowty
theorem IsMem.put {w w' : World} {gm g : Nat} {v : Value} {bs : List Blk} {l : List Bt} (h : IsMem w gm v bs) (hb : Bytes w g l) (hk : Kp w w' (· = g)) : IsMem w' gm v bs := by
 have hne : ∀ {k c t fr}, w.heap[k]? = some (.cells c t fr) → t ≠ 42 → ¬ k = g := by
  rintro k c t fr hc ht rfl
  rw [Bytes, hc] at hb
  injection hb with hb
  injection hb with _ hb
  exact ht hb
 refine ⟨blk_kp h.box hk (hne h.box (by decide)), own_move h.row (fun k hv => ?_)⟩
 obtain ⟨c, hc⟩ := q42 h.row k hv
 exact hk.block k (q30 hc) (hne hc (by decide))
theorem Holds.put {w w' : World} {gm : Nat} {gs : List Nat} {s : List Mb} (h : Holds w gm gs s) {p : Vl} {n : Int} {m : Mb} (hm : okS s p n = some m) {seg : List Bt} (hn : seg.length = n.toNat)
  (hv : ∀ x : Bt, x ∈ seg → 0 ≤ x.v ∧ x.v ≤ 255) (hb : Bytes w' (gs.getD (p.b.toNat - 1) 0) (over m.l p.n.toNat seg)) (hk : Kp w w' (· = gs.getD (p.b.toNat - 1) 0)) : Holds w' gm gs (putS s p seg) ∧ Fr w w' gm gs := by
 obtain ⟨h1, h2, h3, h4, h5, h6, h7, h8⟩ := q49 hm
 have hg := get_of h.len h6
 have hbm := h.bytes _ _ _ hg h6
 have hle : p.n.toNat + seg.length ≤ m.l.length := by omega
 refine ⟨⟨?_, ?_, h.nodup, h.above, ?_⟩, hk.mono ?_, fun hgm k hk' => ?_⟩
 ·obtain ⟨v, hM⟩ := h.mem
  refine ⟨v, ?_⟩
  rw [putS, blks_modify h.len (by
   intro m' hm'
   rw [h6] at hm'
   cases hm'
   exact ⟨rfl, over_length hle, rfl⟩)]
  exact hM.put hbm.1 hk
 ·rw [putS, List.length_modify]; exact h.len
 ·intro i g m' hi hm'
  rw [putS, List.getElem?_modify] at hm'
  by_cases hij : p.b.toNat - 1 = i
  ·subst hij
   rw [h6] at hm'
   simp only [Option.map_eq_map, Option.map_some, Option.some.injEq, if_true] at hm'
   rw [hg] at hi
   cases hi
   rw [← hm']
   refine ⟨hb, ?_, ?_⟩
   ·show (over m.l p.n.toNat seg).length ≤ 4096
    rw [over_length hle]
    exact hbm.2.1
   ·intro x hx
    show 0 ≤ x.v ∧ x.v ≤ 255
    have hx : x ∈ over m.l p.n.toNat seg := hx
    unfold over at hx
    rcases List.mem_append.1 hx with hx | hx
    ·rcases List.mem_append.1 hx with hx | hx
     ·exact hbm.2.2 x (List.mem_of_mem_take hx)
     ·exact hv x hx
    ·exact hbm.2.2 x (List.mem_of_mem_drop hx)
  ·cases hs : s[i]? with
   | none => rw [hs] at hm'; cases hm'
   | some m0 =>
    rw [hs] at hm'
    simp only [if_neg hij, Option.map_eq_map, Option.map_some, Option.some.injEq] at hm'
    subst hm'
    have h0 := h.bytes i g _ hi hs
    refine ⟨blk_kp h0.1 hk (fun he => hij ?_), h0.2⟩
    subst he
    have hi2 := (List.getElem?_eq_some_iff.1 hi).1
    exact (List.getElem?_inj (l := gs) (i := p.b.toNat - 1) (j := i) (by have := (List.getElem?_eq_some_iff.1 hg).1; exact this) h.nodup).1 (by rw [hg, hi])
 ·rintro k rfl
  exact .inr (.inl (List.mem_of_getElem? hg))
 ·obtain ⟨v, hM⟩ := h.mem
  refine .inl (hk'.same (hk.block gm hgm (fun he => ?_)))
  have h1 := hbm.1
  rw [Bytes, ← he, hM.box] at h1
  injection h1 with h1
  injection h1 with _ h1
  exact absurd h1 (by decide)
theorem load_calls {w : World} {gm : Nat} {gs : List Nat} {s : List Mb} (h : Holds w gm gs s) (p : Vl) (k : Int) :
  Calls Try.prog 14 #[.pointer (some ⟨gm, 0, none⟩), p.agg, .int .i64 k] w fun e w' => e = .returned (.tuple #[(loadS s p k).1.agg, .int .i64 (loadS s p k).2]) ∧ Below w.heap.size w w' := by
 obtain ⟨v, hM⟩ := h.mem
 unfold loadS
 by_cases hk : isW k = true
 ·rw [if_pos hk]
  have hk' : k = 1 ∨ k = 4 ∨ k = 8 := by simpa [isW, or_assoc] using hk
  obtain ⟨kn, rfl⟩ : ∃ kn : Nat, k = kn := ⟨k.toNat, by omega⟩
  have hkn : kn = 1 ∨ kn = 4 ∨ kn = 8 := by omega
  have ho := okS_at h.len p (kn : Int)
  cases hm : okS s p kn with
  | none =>
   rw [hm] at ho
   exact load_err p kn _ 9 w (by decide) (fun W hW => wide_bad p kn hkn gm v _ W (hM.below hW) h.small ho)
  | some m =>
   rw [hm] at ho
   have hs := q49 hm
   have hb := h.bytes _ _ _ (get_of h.len hs.2.2.2.2.2.1) hs.2.2.2.2.2.1
   exact load_loop p kn hkn gm v _ _ m.l _ w hM h.small ho hb.1 rfl rfl hb.2.2
 ·rw [if_neg hk]
  have hk' : k ≠ 1 ∧ k ≠ 4 ∧ k ≠ 8 := by simpa [isW, and_assoc] using hk
  exact load_err p k _ 1 w (by decide) (fun W hW => wide_arg p k _ W hk'.1 hk'.2.1 hk'.2.2)
theorem byteOf_bound (n : Int) (i : Nat) : 0 ≤ byteOf n i ∧ byteOf n i ≤ 255 := by unfold byteOf; omega
theorem store_calls {w : World} {gm : Nat} {gs : List Nat} {s : List Mb} (h : Holds w gm gs s) (p : Vl) (k : Int) (x : Vl) :
  Calls Try.prog 16 #[.pointer (some ⟨gm, 0, none⟩), p.agg, .int .i64 k, x.agg] w fun e w' => e = .returned (.int .i64 (storeS s p k x).2) ∧ Holds w' gm gs (storeS s p k x).1 ∧ Fr w w' gm gs := by
 obtain ⟨v, hM⟩ := h.mem
 have hbad : ∀ {er : Int}, Calls Try.prog 16 #[.pointer (some ⟨gm, 0, none⟩), p.agg, .int .i64 k, x.agg] w (fun e w' => e = .returned (.int .i64 er) ∧ Below w.heap.size w w') →
   Calls Try.prog 16 #[.pointer (some ⟨gm, 0, none⟩), p.agg, .int .i64 k, x.agg] w (fun e w' => e = .returned (.int .i64 er) ∧ Holds w' gm gs s ∧ Fr w w' gm gs) :=
  fun hc => hc.mono (fun e w' ⟨h1, h2⟩ => ⟨h1, h.below h2, Fr.below h2 _ _⟩)
 unfold storeS
 by_cases hk : isW k = true
 ·rw [if_pos hk]
  have hk' : k = 1 ∨ k = 4 ∨ k = 8 := by simpa [isW, or_assoc] using hk
  obtain ⟨kn, rfl⟩ : ∃ kn : Nat, k = kn := ⟨k.toNat, by omega⟩
  have hkn : kn = 1 ∨ kn = 4 ∨ kn = 8 := by omega
  have ho := okS_at h.len p (kn : Int)
  cases hm : okS s p kn with
  | none =>
   rw [hm] at ho
   exact hbad (store_err p x kn _ 9 w (by decide) (fun W hW => wide_bad p kn hkn gm v _ W (hM.below hW) h.small ho))
  | some m =>
   rw [hm] at ho
   have hs := q49 hm
   have hb := h.bytes _ _ _ (get_of h.len hs.2.2.2.2.2.1) hs.2.2.2.2.2.1
   simp only
   unfold encS
   cases h0 : (x.b == 0 && x.f == 0) with
   | true =>
    refine (store_num p x kn hkn h0 gm v _ _ m.l w hM h.small ho hb.1 rfl).mono ?_
    rintro e w' ⟨rfl, h1, h2⟩
    rw [if_pos rfl]
    exact ⟨rfl, h.put hm (by simp [numSeg]) (fun y hy => by
     simp only [numSeg, List.mem_map] at hy
     obtain ⟨i, _, rfl⟩ := hy
     exact byteOf_bound _ _) h1 h2⟩
   | false =>
    rw [if_neg (by decide)]
    cases h1 : (decide (0 < x.b) && x.f == 0) with
    | true =>
     have hf0 : decide (0 < x.f) = false := by
      simp only [Bool.and_eq_true, decide_eq_true_eq, beq_iff_eq] at h1
      simp [h1.2]
     by_cases h8 : kn = 8
     ·subst h8
      rw [if_pos ⟨rfl, rfl⟩]
      refine (store_ptr p x h0 h1 gm v _ _ m.l w hM h.small ho hb.1 rfl).mono ?_
      rintro e w' ⟨rfl, h1, h2⟩
      exact ⟨rfl, h.put hm (by simp [ptrSeg]) (fun y hy => by
       simp only [ptrSeg, List.mem_map] at hy
       obtain ⟨i, _, rfl⟩ := hy
       simp) h1 h2⟩
     ·rw [if_neg (fun hh => h8 (by omega)), if_neg (fun hh => by simp at hf0; omega)]
      exact hbad (store_no3 p x kn hkn h1 h0 (beq_eq_false_iff_ne.mpr (by omega)) hf0 gm v _ _ m.l w hM h.small ho hb.1 rfl)
    | false =>
     rw [if_neg (by simp)]
     cases hf : decide (0 < x.f) with
     | true =>
      by_cases h1k : kn = 1
      ·subst h1k
       rw [if_pos ⟨by simpa using hf, rfl⟩]
       refine (store_part p x h1 h0 hf gm v _ _ m.l w hM h.small ho hb.1 rfl).mono ?_
       rintro e w' ⟨rfl, h1, h2⟩
       exact ⟨rfl, h.put hm (by simp) (fun y hy => by
        rw [List.mem_singleton] at hy
        subst hy
        simp) h1 h2⟩
      ·rw [if_neg (fun hh => h1k (by omega))]
       exact hbad (store_no2 p x kn hkn h1 h0 hf (beq_eq_false_iff_ne.mpr (by omega)) gm v _ _ m.l w hM h.small ho hb.1 rfl)
     | false =>
      rw [if_neg (fun hh => by simp at hf; omega)]
      exact hbad (store_no1 p x kn hkn h1 h0 hf gm v _ _ m.l w hM h.small ho hb.1 rfl)
 ·rw [if_neg hk]
  have hk' : k ≠ 1 ∧ k ≠ 4 ∧ k ≠ 8 := by simpa [isW, and_assoc] using hk
  exact hbad (store_err p x k _ 1 w (by decide) (fun W hW => wide_arg p k _ W hk'.1 hk'.2.1 hk'.2.2))
end Go.Proofs.Yteogfjhmjlelnaa.G
set_option linter.unusedVariables false
set_option linter.unusedSimpArgs false
namespace Go.Proofs.Yteogfjhmjlelnaa.G
open Go.RowKit Go.Proofs.Yteogfjhmjlelnaa.B Go.Proofs.YteogfjhmjlelnaaW.PrintWords Go.Proofs.YteogfjhmjlelnaaW.PrintLast Go.Proofs.YteogfjhmjlelnaaW.PrintMore
theorem encB_one (l : List Bt) : ∀ u ∈ encB l, u.oneCell' = true := by
 intro u hu
 unfold encB at hu
 rw [List.mem_flatMap] at hu
 obtain ⟨x, _, hx⟩ := hu
 simp only [Bt.cells, List.mem_cons, List.not_mem_nil, or_false] at hx
 rcases hx with rfl | rfl | rfl | rfl | rfl <;> rfl
theorem append_bytes {P : Program} {ops : Array Oper} {rest : List Oper} {o : Oper} {a : Act} {Q : Exit → Act → World → Prop} {w0 w : World} (base : Nat) (hgd : o.guard = none) (s x : Operand) (t : TypeId) (e : TypeId) (z : Value) (bytes : Nat)
  (ho : o.op = .call { callee := .builtin .append, args := #[s, x], argTypes := #[t, t] })
  (ht : P.underlying t = some (.slice e)) (hinfo : (P.info? e).map (fun i => (i.zero, i.size, i.bytes)) = some (some z, 5, bytes)) (hz : z.cells.size = 5) (hb0 : 0 < bytes)
  (v : Value) (n : Nat) (xs : List Value) (hs : a.eval s = v) (HO : w.ownsRow base e 5 v n xs) (gb : Nat) (fr : Nat × Nat) (l : List Bt) (c : Nat) (hx : a.eval x = .slice (some ⟨gb, 0, none⟩) l.length c)
  (hb : w.heap[gb]? = some (.cells (encB l).toArray 42 fr)) (HB : Below base w0 w) (hbase : base ≤ w.heap.size) (hl : (n + l.length) * bytes ≤ 140737488355328)
  (h : ∀ v1 w1, w1.ownsRow base e 5 v1 (n + l.length) (xs ++ encB l) → Below base w0 w1 → wpList P ops Q rest (a.put o.dst v1) w1) :
  wpList P ops Q (o :: rest) a w := by
 obtain ⟨i0, hi, hzz⟩ := Option.map_eq_some_iff.1 hinfo
 simp only [Prod.mk.injEq] at hzz
 obtain ⟨hz0, hz1, hz2⟩ := hzz
 have hlen : n + l.length ≤ 140737488355328 := Nat.le_trans (Nat.le_mul_of_pos_right _ hb0) hl
 refine wpList_append_own_at w hgd s x t ho base e i0 z 5 bytes ht hi hz0 hz1 hz2 hz (by decide) v n xs hs HO ⟨gb, 0, none⟩ l.length c (encB l) hx (by rw [encB_length]; omega)
  (by simpa using World.news_of_block (cs := (encB l).toArray) (t := 42) (fr := fr) hb) (encB_one l) (by simp only [maxLen]; omega) hl hbase ?_
 intro v1 w1 h1 hg _ _
 exact h v1 w1 h1 (HB.grown hg hbase (own_base HO))
theorem clone_calls (gb : Nat) (l : List Bt) (w : World) (hl : Bytes w gb l) (hn : l.length ≤ 4096) :
  Calls Try.prog 36 #[.slice (some ⟨gb, 0, none⟩) l.length l.length] w fun e w' => ∃ v, e = .returned v ∧ w'.ownsRow w.heap.size 42 5 v l.length (encB l) ∧ Below w.heap.size w w' := by
 have HL := Aside0.mk hl
 have HN := Aside0.mk hn
 have he : ∀ w : World, (binOp .eql 38 (.slice (some ⟨gb, 0, none⟩) l.length l.length) (.slice none 0 0)).run Try.prog w = .ok (.bool false) w := fun w => Go.run_eql_slice_nil w 38 42 _ _ _ Try.underlying38
 clear hl hn
 go_enter Try.func36, Try.ntmps36
 go_wp2_with (first | (at_builtin; refine append_bytes (w0 := w) w.heap.size rfl _ _ 38 42 (.agg #[.int .i64 0, .int .u8 0, .int .i64 0, .int .i64 0, .int .i64 0]) 40 rfl Try.underlying38 (by kernel_rfl) (by kernel_rfl) (by decide) _ 0 [] rfl (World.ownsRow_lit w #[] 0 (Nat.le_refl _) (by decide) rfl) gb (0, 0) l l.length rfl (q12 HL.out _) (q10 (Below.refl _ _) _) (by simp) (by have := HN.out; omega) ?_; intro v1 w1 hR1 hB1; have HR1 := Aside0.mk hR1; have HB1 := Aside0.mk hB1; clear hR1 hB1))
 go_ret
 have h1 := HR1.out
 rw [List.nil_append, Nat.zero_add] at h1
 exact ⟨v1, rfl, h1, HB1.out⟩
theorem findS_spec {s : List Mb} {n : Int} {m : Mb} (h : findS s n = some m) : 1 ≤ n ∧ n ≤ s.length ∧ s[n.toNat - 1]? = some m := by
 unfold findS at h
 split at h
 ·exact ⟨by assumption, by have := (List.getElem?_eq_some_iff.1 h).1; omega, h⟩
 ·cases h
theorem findS_none {s : List Mb} {n : Int} (h : findS s n = none) : n < 1 ∨ (s.length : Int) < n := by
 unfold findS at h
 split at h
 ·rw [List.getElem?_eq_none_iff] at h; omega
 ·omega
theorem Holds.find {w : World} {gm : Nat} {gs : List Nat} {s : List Mb} (h : Holds w gm gs s) {n : Int} {m : Mb} (hm : findS s n = some m) :
  ∃ g cap, IsMem w gm (.slice (some ⟨g, 0, none⟩) (blks gs s).length cap) (blks gs s) ∧ (∀ W, Below w.heap.size w W → Calls Try.prog 35 #[.pointer (some ⟨gm, 0, none⟩), .int .i64 n] W fun e w' => e = .returned (.pointer (some ⟨g, (n.toNat - 1) * 3, none⟩)) ∧ w' = W) ∧
   w.cell? ⟨g, (n.toNat - 1) * 3, none⟩ = some (.int .i64 m.site) ∧ w.cell? ⟨g, (n.toNat - 1) * 3 + 1, none⟩ = some (.slice (some ⟨gs.getD (n.toNat - 1) 0, 0, none⟩) m.l.length m.l.length) ∧ w.cell? ⟨g, (n.toNat - 1) * 3 + 2, none⟩ = some (.bool m.there) ∧
   w.frozen? ⟨g, (n.toNat - 1) * 3 + 2, none⟩ = false := by
 obtain ⟨v, hM⟩ := h.mem
 obtain ⟨h1, h2, h3⟩ := findS_spec hm
 have hbl := blks_len h.len
 obtain ⟨g, cap, rfl, _, _, _, hc⟩ := hM.form (by omega)
 have hg : (blks gs s)[n.toNat - 1]? = some (blk (gs.getD (n.toNat - 1) 0) m) := by rw [blks_get h.len, h3]
 have hcc := hc _ _ hg
 refine ⟨g, cap, hM, fun W hW => find_hit n gm g cap _ W (hM.below hW) h1 (by omega), ?_, ?_, ?_, hM.row.frozenAt _⟩
 ·have := hcc 0 _ rfl
  rw [Nat.mul_comm] at this
  exact this
 ·have := hcc 1 _ rfl
  rw [Nat.mul_comm] at this
  exact this
 ·have := hcc 2 _ rfl
  rw [Nat.mul_comm] at this
  exact this
theorem Holds.miss {w : World} {gm : Nat} {gs : List Nat} {s : List Mb} (h : Holds w gm gs s) {n : Int} (hm : findS s n = none) :
  Calls Try.prog 35 #[.pointer (some ⟨gm, 0, none⟩), .int .i64 n] w fun e w' => e = .returned (.pointer none) ∧ w' = w := by
 obtain ⟨v, hM⟩ := h.mem
 exact find_miss n gm v _ w hM (by rw [blks_len h.len]; exact findS_none hm)
theorem bytes_calls {w : World} {gm : Nat} {gs : List Nat} {s : List Mb} (h : Holds w gm gs s) (n : Int) :
  Calls Try.prog 17 #[.pointer (some ⟨gm, 0, none⟩), .int .i64 n] w fun e w' => ∃ v, e = .returned v ∧ w'.ownsRow w.heap.size 42 5 v (bytesS s n).length (encB (bytesS s n)) ∧ Below w.heap.size w w' := by
 unfold bytesS
 cases hm : findS s n with
 | none =>
  have HF := Aside0.mk (h.miss hm)
  clear h hm
  go_enter Try.func17, Try.ntmps17
  go_wp2_with fail
  refine HF.out.mono ?_
  rintro e w1 ⟨rfl, rfl⟩
  go_wp2_with fail
  go_ret
  exact ⟨_, rfl, ⟨rfl, .inl ⟨rfl, rfl⟩⟩, Below.refl _ _⟩
 | some m =>
  obtain ⟨g, cap, hM, hf, h0, h1, h2, h3⟩ := h.find hm
  have HF := Aside0.mk (hf w (Below.refl _ _))
  have hs := (findS_spec hm).2.2
  have hb := h.bytes _ _ _ (get_of h.len hs) hs
  have HC := Aside0.mk (clone_calls (gs.getD (n.toNat - 1) 0) m.l w hb.1 hb.2.1)
  clear h hm hM hf h0 h2 h3 hs hb
  go_enter Try.func17, Try.ntmps17
  go_wp2_with fail
  refine HF.out.mono ?_
  rintro e w1 ⟨rfl, rfl⟩
  go_wp2_with fail
  refine HC.out.mono ?_
  rintro e w2 ⟨v, rfl, h2, h3⟩
  go_wp2_with fail
  go_ret
  exact ⟨v, rfl, h2, h3⟩
theorem block_calls {w : World} {gm : Nat} {gs : List Nat} {s : List Mb} (h : Holds w gm gs s) (n : Int) :
  Calls Try.prog 20 #[.pointer (some ⟨gm, 0, none⟩), .int .i64 n] w fun e w' => e = .returned (.tuple #[.int .i64 (blockS s n).1, .int .i64 (blockS s n).2.1, .bool (blockS s n).2.2]) ∧ Below w.heap.size w w' := by
 unfold blockS
 cases hm : findS s n with
 | none =>
  have HF := Aside0.mk (h.miss hm)
  clear h hm
  go_enter Try.func20, Try.ntmps20
  go_wp2_with fail
  refine HF.out.mono ?_
  rintro e w1 ⟨rfl, rfl⟩
  go_wp2_with fail
  exact bodyPost_ret (v := .tuple #[.int .i64 0, .int .i64 0, .bool false]) (by simp [results, Try.results20, go_sem]) rfl ⟨rfl, Below.refl _ _⟩
 | some m =>
  obtain ⟨g, cap, hM, hf, h0, h1, h2, h3⟩ := h.find hm
  have HF := Aside0.mk (hf w (Below.refl _ _))
  clear h hm hM hf h3
  go_enter Try.func20, Try.ntmps20
  go_wp2_with fail
  refine HF.out.mono ?_
  rintro e w1 ⟨rfl, rfl⟩
  go_upto_region 3 with (fail)
  go_still (by kernel_rfl)
  change Exit.then _ _ _ _ w1.drew
  go_wp2_with fail
  exact bodyPost_ret (v := .tuple #[.int .i64 m.site, .int .i64 m.l.length, .bool m.there]) (by simp [results, Try.results20, go_sem]) rfl ⟨rfl, q39 (Below.refl _ _)⟩
theorem encK_set (x : Blk) : ∀ (l : List Blk) (i : Nat) (y : Blk), l[i]? = some y → y.site = x.site → y.gb = x.gb → y.n = x.n → (encK l).set (i * 3 + 2) (.bool x.there) = encK (l.set i x)
 | [], i, y, h, _, _, _ => by simp at h
 | z :: l, 0, y, h, h1, h2, h3 => by
  simp only [List.getElem?_cons_zero, Option.some.injEq] at h
  subst h
  simp [encK, Blk.cells, h1, h2, h3]
 | z :: l, i + 1, y, h, h1, h2, h3 => by
  have ih := encK_set x l i y (by simpa using h) h1 h2 h3
  have e : encK (z :: l) = z.cells ++ encK l := rfl
  have hl : z.cells.length = 3 := rfl
  rw [List.set_cons_succ, show encK (z :: l.set i x) = z.cells ++ encK (l.set i x) from rfl, ← ih, e, show (i + 1) * 3 + 2 = z.cells.length + (i * 3 + 2) by rw [hl]; omega, List.set_append_right _ _ (Nat.le_add_right _ _), Nat.add_sub_cancel_left]
theorem end_calls {w : World} {gm : Nat} {gs : List Nat} {s : List Mb} (h : Holds w gm gs s) (n : Int) :
  Calls Try.prog 21 #[.pointer (some ⟨gm, 0, none⟩), .int .i64 n] w fun e w' => e = .returned (.int .i64 (endS s n).2) ∧ Holds w' gm gs (endS s n).1 ∧ Fr w w' gm gs := by
 unfold endS
 cases hm : findS s n with
 | none =>
  have HF := Aside0.mk (h.miss hm)
  have HH := Aside0.mk h
  clear h hm
  go_enter Try.func21, Try.ntmps21
  go_wp2_with fail
  refine HF.out.mono ?_
  rintro e w1 ⟨rfl, rfl⟩
  go_wp2_with fail
  go_ret
  exact ⟨rfl, HH.out, Fr.refl _ _ _⟩
 | some m =>
  have HH := Aside0.mk h
  have HS := Aside0.mk (findS_spec hm)
  obtain ⟨g, cap, hM, hf, h0, h1, h2, h3⟩ := h.find hm
  have HF := Aside0.mk (hf w (Below.refl _ _))
  have HM := Aside0.mk hM
  clear h hm hM hf h0 h1
  cases ht : m.there with
  | false =>
   rw [ht] at h2
   simp only [ht, if_true, Bool.false_eq_true, if_false]
   go_enter Try.func21, Try.ntmps21
   go_wp2_with fail
   refine HF.out.mono ?_
   rintro e w1 ⟨rfl, rfl⟩
   go_wp2_with fail
   go_ret
   exact ⟨rfl, HH.out, Fr.refl _ _ _⟩
  | true =>
   rw [ht] at h2
   simp only [ht, if_true]
   have HT := Aside0.mk ht
   clear ht
   go_enter Try.func21, Try.ntmps21
   go_wp2_with fail
   refine HF.out.mono ?_
   rintro e w1 ⟨rfl, rfl⟩
   go_wp2_with fail
   go_ret
   have hM := HM.out
   have hH := HH.out
   obtain ⟨hs1, hs2, hs3⟩ := HS.out
   have hst := hM.row.stored ((n.toNat - 1) * 3 + 2) (.bool false)
   have hgm : g ≠ gm := by
    rintro rfl
    obtain ⟨c, hc⟩ := q42 hM.row g rfl
    have := hM.box
    rw [hc] at this
    injection this with this
    injection this with _ this
    exact absurd this (by decide)
   have hrow : (blks gs (s.modify (n.toNat - 1) fun m => { m with there := false })) = (blks gs s).set (n.toNat - 1) (blk (gs.getD (n.toNat - 1) 0) { m with there := false }) := by
    apply List.ext_getElem?
    intro j
    rw [blks_get (by rw [List.length_modify]; exact hH.len), List.getElem?_set, List.getElem?_modify]
    by_cases hij : n.toNat - 1 = j
    ·subst hij
     rw [hs3, if_pos rfl, if_pos (by rw [blks_len hH.len]; omega)]
     simp
    ·rw [if_neg hij, blks_get hH.len]
     cases s[j]? <;> simp [hij]
   refine ⟨rfl, ⟨⟨.slice (some ⟨g, 0, none⟩) (blks gs s).length cap, ⟨blk_kp hM.box ((Kp.refl w1 (· = g)).setCell (.inl rfl) _) (fun he => hgm he.symm), ?_⟩⟩, by rw [List.length_modify]; exact hH.len, hH.nodup, hH.above, ?_⟩, ?_⟩
   ·rw [hrow]
    have := hst.1
    rw [show (Value.bool false) = .bool (blk (gs.getD (n.toNat - 1) 0) { m with there := false }).there from rfl, encK_set (blk (gs.getD (n.toNat - 1) 0) { m with there := false }) _ _ (blk (gs.getD (n.toNat - 1) 0) m) (by rw [blks_get hH.len, hs3]) rfl rfl rfl] at this
    rw [List.length_set]
    exact this
   ·intro i g' m' hi hm'
    rw [List.getElem?_modify] at hm'
    have hne : ∀ l, Bytes w1 g' l → g' ≠ g := by
     rintro l hl rfl
     obtain ⟨c, hc⟩ := q42 hM.row g' rfl
     rw [Bytes, hc] at hl
     injection hl with hl
     injection hl with _ hl
     exact absurd hl (by decide)
    cases hs : s[i]? with
    | none => rw [hs] at hm'; cases hm'
    | some m0 =>
     rw [hs] at hm'
     have hb := hH.bytes i g' m0 hi hs
     have hl : m'.l = m0.l := by
      simp only [Option.map_eq_map, Option.map_some, Option.some.injEq] at hm'
      rw [← hm']
      split <;> rfl
     rw [hl]
     exact ⟨blk_kp hb.1 ((Kp.refl w1 (· = g)).setCell (.inl rfl) _) (hne _ hb.1), hb.2⟩
   ·exact ⟨(Kp.refl w1 _).setCell (.inl (.inr (.inr ⟨own_base hM.row g rfl, _, hM.box, rfl⟩))) _, fun hg k hk => .inl (hk.same (((Kp.refl w1 (· = g)).setCell (p := ⟨g, (n.toNat - 1) * 3 + 2, none⟩) (.inl rfl) (.bool false)).block gm hg (fun he => hgm he.symm)))⟩
end Go.Proofs.Yteogfjhmjlelnaa.G
set_option linter.unusedVariables false
set_option linter.unusedSimpArgs false
namespace Go.Proofs.Yteogfjhmjlelnaa.G
open Go.RowKit Go.Proofs.Yteogfjhmjlelnaa.B Go.Proofs.YteogfjhmjlelnaaW.PrintWords Go.Proofs.YteogfjhmjlelnaaW.PrintLast Go.Proofs.YteogfjhmjlelnaaW.PrintMore
def z0 : Bt := ⟨0, 0, ⟨0, 0, 0⟩⟩
def z1 : Bt := ⟨1, 0, ⟨0, 0, 0⟩⟩
theorem made_bytes (n : Nat) : madeCells #[.int .i64 0, .int .u8 0, .int .i64 0, .int .i64 0, .int .i64 0] (n * 5) = (encB (List.replicate n z0)).toArray := by
 apply Array.ext
 ·rw [size_madeCells]; simp [encB_length]; omega
 ·intro i h1 h2
  rw [size_madeCells] at h1
  have hg : (List.replicate n z0)[i / 5]? = some z0 := by rw [List.getElem?_replicate, if_pos (by omega)]
  have hm : i % 5 < 5 := Nat.mod_lt _ (by decide)
  obtain ⟨u, hu⟩ : ∃ u, z0.cells[i % 5]? = some u := ⟨_, List.getElem?_eq_getElem (by simpa [Bt.cells] using hm)⟩
  have he := encB_get hg hu
  rw [show i / 5 * 5 + i % 5 = i by omega] at he
  have h3 : (encB (List.replicate n z0)).toArray[i] = u := by
   have h4 : (encB (List.replicate n z0)).toArray[i]? = some u := by simpa using he
   rw [Array.getElem?_eq_getElem h2] at h4
   exact Option.some.inj h4
  rw [h3]
  simp only [madeCells, Array.getElem_map, Array.getElem_range]
  have : i % 5 = 0 ∨ i % 5 = 1 ∨ i % 5 = 2 ∨ i % 5 = 3 ∨ i % 5 = 4 := by omega
  rcases this with h | h | h | h | h <;> · rw [h] at hu; injection hu with hu; rw [← hu]; show #[_, _, _, _, _][i % 5]! = _; rw [h]; rfl
theorem make_bytes (n : Nat) (hn : n ≤ 4096) (W : World) : (Instr.makeSlice 38 (.int .i64 (n : Int)) (.int .i64 (n : Int))).run Try.prog W = .ok (.slice (some ⟨W.heap.size, 0, none⟩) n n) (W.alloc (.cells (encB (List.replicate n z0)).toArray 42)) := by
 have hinfo : (Try.prog.info? 42).map (fun i => (i.zero, i.size, i.bytes)) = some (some (.agg #[.int .i64 0, .int .u8 0, .int .i64 0, .int .i64 0, .int .i64 0]), 5, 40) := by kernel_rfl
 obtain ⟨i0, hi, hzz⟩ := Option.map_eq_some_iff.1 hinfo
 simp only [Prod.mk.injEq] at hzz
 obtain ⟨hz0, hz1, hz2⟩ := hzz
 have hr := run_make (P := Try.prog) W 38 42 i0 _ Try.underlying38 hi hz0 .i64 .i64 (n : Int) (n : Int) (by omega) (by omega) (by rw [hz2]; omega) (by omega)
 simp only [Int.toNat_natCast] at hr
 rw [hz1] at hr
 rw [← made_bytes]
 exact hr
theorem alloc_bad {w : World} {gm : Nat} {gs : List Nat} {s : List Mb} (h : Holds w gm gs s) (site size : Int) (zero : Bool) (hb : size < 0 ∨ 4096 < size ∨ s.length = 2000) :
  Calls Try.prog 12 #[.pointer (some ⟨gm, 0, none⟩), .int .i64 site, .int .i64 size, .bool zero] w fun e w' => e = .returned (.tuple #[.int .i64 0, .int .i64 5]) ∧ w' = w := by
 obtain ⟨v, hM⟩ := h.mem
 have hlen := blks_len h.len
 obtain ⟨A, cap, rfl, hle⟩ := hM.len
 have h0 := cell1 hM.box
 rw [hlen] at h0 hle
 clear hM hlen h
 by_cases h1 : size < 0
 ·clear hb
  go_enter Try.func12, Try.ntmps12
  go_wp2_with fail
  exact bodyPost_ret (v := .tuple #[.int .i64 0, .int .i64 5]) (by simp [results, Try.results12, go_sem]) rfl ⟨rfl, rfl⟩
 ·have h1' : 0 ≤ size := by omega
  by_cases h2 : 4096 < size
  ·clear hb
   go_enter Try.func12, Try.ntmps12
   go_wp2_with fail
   exact bodyPost_ret (v := .tuple #[.int .i64 0, .int .i64 5]) (by simp [results, Try.results12, go_sem]) rfl ⟨rfl, rfl⟩
  ·have h3 : s.length = 2000 := by omega
   have h2' : size ≤ 4096 := by omega
   rw [h3] at h0
   clear hb h3
   go_enter Try.func12, Try.ntmps12
   go_wp2_with fail
   exact bodyPost_ret (v := .tuple #[.int .i64 0, .int .i64 5]) (by simp [results, Try.results12, go_sem]) rfl ⟨rfl, rfl⟩
theorem own_form {w : World} {base e size n : Nat} {v : Value} {xs : List Value} (h : w.ownsRow base e size v n xs) : ∃ A cap, v = .slice A n cap := by
 rcases h.2 with ⟨hv, h1⟩ | ⟨g, cap, cur, hv, hg, hh, hc, hm, hs, ht⟩
 ·exact ⟨none, 0, by rw [hv, h1]⟩
 ·exact ⟨_, cap, hv⟩
theorem bytes_const (n : Nat) (j : Nat) (hj : j < n) : ((List.replicate j z1 ++ List.replicate (n - j) z0).set j z1) = List.replicate (j + 1) z1 ++ List.replicate (n - (j + 1)) z0 := by
 rw [List.set_append_right _ _ (by simp), List.length_replicate, Nat.sub_self, show n - j = (n - (j + 1)) + 1 by omega, List.replicate_succ, List.set_cons_zero, List.replicate_succ', List.append_assoc]
 rfl
theorem encB_set0 (k : Int) : ∀ (l : List Bt) (i : Nat) (y : Bt), l[i]? = some y → (encB l).set (i * 5) (.int .i64 k) = encB (l.set i { y with k := k })
 | [], i, y, h => by simp at h
 | x :: l, 0, y, h => by
  simp only [List.getElem?_cons_zero, Option.some.injEq] at h
  subst h
  simp [encB, Bt.cells]
 | x :: l, i + 1, y, h => by
  have ih := encB_set0 k l i y (by simpa using h)
  have e : encB (x :: l) = x.cells ++ encB l := rfl
  have hl : x.cells.length = 5 := rfl
  rw [List.set_cons_succ, show encB (x :: l.set i { y with k := k }) = x.cells ++ encB (l.set i { y with k := k }) from rfl, ← ih, e, show (i + 1) * 5 = x.cells.length + i * 5 by rw [hl]; omega, List.set_append_right _ _ (Nat.le_add_right _ _), Nat.add_sub_cancel_left]
theorem IsMem.box_grown {w W w1 : World} {gm : Nat} {v : Value} {bs : List Blk} (hM : IsMem w gm v bs) (hb : Below w.heap.size w W) (hG : W.grownBy w1 v.ownBlock) : w1.heap[gm]? = some (.cells #[v] 73 (0, 0)) := by
 have hc := q19 hM.box hb
 refine (hG.block gm (q30 hc) (fun he => ?_)).trans hc
 obtain ⟨c', hc'⟩ := q42 hM.row gm he.symm
 have := hM.box
 rw [hc'] at this
 injection this with this
 injection this with _ this
 exact absurd this (by decide)
theorem Holds.grown {w W w1 : World} {gm g : Nat} {gs : List Nat} {s : List Mb} (h : Holds w gm gs s) {v v1 : Value} (hM : IsMem w gm v (blks gs s)) (hb : Below w.heap.size w W) {m : Mb} (hg : w.heap.size ≤ g) (hB : Bytes W g m.l) (hl : m.l.length ≤ 4096) (hv : ∀ x : Bt, x ∈ m.l → 0 ≤ x.v ∧ x.v ≤ 255)
  (hR : w1.ownsRow (gm + 1) 75 3 v1 ((blks gs s).length + 1) (encK (blks gs s) ++ (blk g m).cells)) (hG : W.grownBy w1 v.ownBlock) (hat : v1.ownBlock = v.ownBlock ∨ ∃ b, v1.ownBlock = some b ∧ W.heap.size ≤ b) : Holds (w1.setCell ⟨gm, 0, none⟩ v1) gm (gs ++ [g]) (s ++ [m]) ∧ Fr w (w1.setCell ⟨gm, 0, none⟩ v1) gm gs := by
 have hgm : gm < w.heap.size := q30 hM.box
 have hrow : blks (gs ++ [g]) (s ++ [m]) = blks gs s ++ [blk g m] := by unfold blks; rw [List.zipWith_append h.len]; rfl
 have hown : ∀ k, v.ownBlock = some k → Sof w gm gs k := fun k hk => .inr (.inr ⟨own_base hM.row k hk, v, hM.box, hk⟩)
 have hk1 : Kp w w1 (Sof w gm gs) := (Kp.of_below hb _).grown hG (fun k hk => .inl (hown k hk))
 have hkeep : ∀ {k : Nat} {c : Array Value} {t : Nat} {fr : Nat × Nat}, W.heap[k]? = some (.cells c t fr) → t ≠ 75 → w1.heap[k]? = some (.cells c t fr) := by
  intro k c t fr hc ht
  refine (hG.block k (q30 hc) (fun he => ?_)).trans hc
  obtain ⟨c', hc'⟩ := q42 hM.row k he.symm
  have := q19 hc' hb
  rw [hc] at this
  injection this with this
  injection this with _ this
  exact ht this
 have hbox := hkeep (q19 hM.box hb) (by decide)
 have hne : ∀ {k : Nat} {l : List Bt}, Bytes w1 k l → k ≠ gm := by
  rintro k l hl rfl
  rw [Bytes, hbox] at hl
  injection hl with hl
  injection hl with _ hl
  exact absurd hl (by decide)
 have hset : Kp w1 (w1.setCell ⟨gm, 0, none⟩ v1) (· = gm) := (Kp.refl w1 (· = gm)).setCell (.inl rfl) _
 refine ⟨⟨⟨v1, q28 hbox 0 v1 rfl, ?_⟩, by simp [h.len], ?_, ?_, ?_⟩, ?_⟩
 ·rw [hrow]
  have hf : encK (blks gs s ++ [blk g m]) = encK (blks gs s) ++ (blk g m).cells := by unfold encK; rw [List.flatMap_append]; simp
  rw [hf, List.length_append]
  refine own_move hR (fun k hk => hset.block k (by obtain ⟨c, hc⟩ := q42 hR k hk; exact q30 hc) (fun he => ?_))
  subst he
  obtain ⟨c, hc⟩ := q42 hR k hk
  rw [hbox] at hc
  injection hc with hc
  injection hc with _ hc
  exact absurd hc (by decide)
 ·rw [List.nodup_append]
  refine ⟨h.nodup, by simp, fun a ha b hb he => ?_⟩
  rw [List.mem_singleton] at hb
  subst hb
  subst he
  obtain ⟨i, hi⟩ := List.mem_iff_getElem?.1 ha
  have hil := (List.getElem?_eq_some_iff.1 hi).1
  have := q30 (h.bytes i a _ hi (List.getElem?_eq_getElem (by rw [← h.len]; exact hil))).1
  omega
 ·intro k hk
  rcases List.mem_append.1 hk with hk | hk
  ·exact h.above k hk
  ·rw [List.mem_singleton] at hk; omega
 ·intro i g' m' hi hm'
  by_cases hlt : i < s.length
  ·rw [List.getElem?_append_left (by rw [h.len]; exact hlt)] at hi
   rw [List.getElem?_append_left hlt] at hm'
   have hb' := h.bytes i g' m' hi hm'
   have h2 : Bytes w1 g' m'.l := hkeep (q19 hb'.1 hb) (by decide)
   exact ⟨blk_kp h2 hset (hne h2), hb'.2⟩
  ·rw [List.getElem?_append_right (by omega)] at hm'
   rw [List.getElem?_append_right (by rw [h.len]; omega)] at hi
   have h0 : i - s.length = 0 := by
    have := (List.getElem?_eq_some_iff.1 hm').1
    simpa using this
   rw [h0] at hm'
   rw [h.len, h0] at hi
   cases hm'
   cases hi
   have h2 : Bytes w1 g m.l := hkeep hB (by decide)
   exact ⟨blk_kp h2 hset (hne h2), hl, hv⟩
 ·refine ⟨hk1.setCell (.inl (.inl rfl)) _, fun _ k hk => ?_⟩
  obtain ⟨v', h1, h2⟩ := hk
  rw [show (w1.setCell ⟨gm, 0, none⟩ v1).heap[gm]? = _ from q28 hbox 0 v1 rfl] at h1
  injection h1 with h1
  injection h1 with h1 _
  injection h1 with h1
  injection h1 with h1
  subst h1
  rcases hat with hat | ⟨b, hb1, hb2⟩
  ·exact .inl ⟨v, hM.box, hat ▸ h2⟩
  ·rw [hb1] at h2
   injection h2 with h2
   have := hb.size
   exact .inr (by omega)
set_option maxRecDepth 100000 in
set_option maxHeartbeats 8000000 in
theorem alloc_good {w : World} {gm : Nat} {gs : List Nat} {s : List Mb} (h : Holds w gm gs s) (site : Int) (n : Nat) (hn : n ≤ 4096) (hs : s.length ≠ 2000) (hs2 : s.length ≤ 2000) (zero : Bool) :
  Calls Try.prog 12 #[.pointer (some ⟨gm, 0, none⟩), .int .i64 site, .int .i64 n, .bool zero] w fun e w' => e = .returned (.tuple #[.int .i64 (s.length + 1), .int .i64 0]) ∧ ∃ g, w.heap.size ≤ g ∧ Holds w' gm (gs ++ [g]) (s ++ [⟨site, List.replicate n (if zero then z1 else z0), true⟩]) ∧ Fr w w' gm gs := by
 obtain ⟨v, hM⟩ := h.mem
 have hlen := blks_len h.len
 have hM' := hM
 obtain ⟨A, cap, rfl, hle⟩ := hM'.len
 clear hM'
 have HH := Aside0.mk h
 have HM := Aside0.mk hM
 have HLN := Aside0.mk hlen
 have HS2 := Aside0.mk hs2
 have HNN := Aside0.mk hn
 have h0 := cell1 hM.box
 rw [hlen] at h0 hle
 have hmk := make_bytes n hn
 have hs' : ((s.length : Int) == 2000) = false := beq_eq_false_iff_ne.mpr (by omega)
 have HB := Aside0.mk (q10 (q10 (Below.refl w.heap.size w) (.cells (encB (List.replicate n z0)).toArray 42)) (.cells #[.int .i64 site, .slice (some ⟨w.heap.size, 0, none⟩) n n, .bool true] 75))
 have HX := Aside0.mk (q46 (W := w.alloc (.cells (encB (List.replicate n z0)).toArray 42)) (n := w.heap.size + 1) (.cells #[.int .i64 site, .slice (some ⟨w.heap.size, 0, none⟩) n n, .bool true] 75) (by simp))
 have HY := Aside0.mk (q12 (q33 w (.cells (encB (List.replicate n z0)).toArray 42)) (.cells #[.int .i64 site, .slice (some ⟨w.heap.size, 0, none⟩) n n, .bool true] 75))
 clear hM hlen h hs hs2
 cases zero with
 | false =>
  simp only [Bool.false_eq_true, if_false]
  go_enter Try.func12, Try.ntmps12
  go_upto_region 10 with (fail)
  generalize (w.alloc (.cells (encB (List.replicate n z0)).toArray 42)).alloc (.cells #[.int .i64 site, .slice (some ⟨w.heap.size, 0, none⟩) n n, .bool true] 75) = W at HB HX HY ⊢
  have hx := cell3 HX.out
  have hg0 := cell1 (q19 HM.out.box HB.out)
  have hg2 := cell1 (q12 (q19 HM.out.box HB.out) (.cells #[.int .i64 site, .slice (some ⟨w.heap.size, 0, none⟩) n n, .bool true] 75))
  rw [HLN.out] at hg0 hg2
  go_region_law (refine step_append_cells (w0 := W.drew) (gm + 1) rfl _ _ 71 75 (.agg #[.int .i64 0, .slice none 0 0, .bool false]) 3 40 rfl Try.underlying71 (by kernel_rfl) (by decide) (by decide) (by decide) _ (blks gs s).length (encK (blks gs s)) [.int .i64 site, .slice (some ⟨w.heap.size, 0, none⟩) n n, .bool true] ?aV ?aX ?aC ?aO (own_move HM.out.row ?aM) (Below.refl _ _) ?aB ?aL ?_; (case aV => (show Value.slice _ _ _ = Value.slice _ _ _; rw [HLN.out])); (case aX => rfl); (case aC => rfl); (case aO => (intro u hu; simp only [List.mem_cons, List.not_mem_nil, or_false] at hu; rcases hu with rfl | rfl | rfl <;> rfl)); (case aM => (intro k hk; obtain ⟨c, hc⟩ := q42 HM.out.row k hk; exact HB.out.block k (q30 hc))); (case aB => (have := q30 HM.out.box; have := HB.out.size; show gm + 1 ≤ W.heap.size; omega)); (case aL => (rw [HLN.out]; have := HS2.out; omega)); intro v1 w1 hR1 hB1 hg1 hat1; obtain ⟨A1, c1, rfl⟩ := own_form hR1; have HF := Aside0.mk (HH.out.grown HM.out (q39 HB.out) (m := ⟨site, List.replicate n z0, true⟩) (Nat.le_refl _) HY.out (by simpa using HNN.out) (by intro x hx; obtain ⟨_, rfl⟩ := List.mem_replicate.1 hx; decide) (by rw [show (blk w.heap.size ⟨site, List.replicate n z0, true⟩).cells = [.int .i64 site, .slice (some ⟨w.heap.size, 0, none⟩) n n, .bool true] from by simp [blk, Blk.cells]]; exact hR1) hg1 hat1); have hbx := HM.out.box_grown (q39 HB.out) hg1; have hfz := q0 hbx 0; have hcz := cell1 hbx; clear hbx; clear hR1 hB1 hat1)
  all_goals go_wp2_with fail
  all_goals exact bodyPost_ret (v := .tuple #[.int .i64 ((blks gs s).length + 1), .int .i64 0]) (by simp [results, Try.results12, go_sem]) rfl ⟨by rw [HLN.out], w.heap.size, Nat.le_refl _, HF.out.1, HF.out.2⟩
 | true =>
  simp only [if_true]
  go_enter Try.func12, Try.ntmps12
  go_upto_region 5 with (fail)
  generalize (w.alloc (.cells (encB (List.replicate n z0)).toArray 42)).alloc (.cells #[.int .i64 site, .slice (some ⟨w.heap.size, 0, none⟩) n n, .bool true] 75) = W at HB HX HY ⊢
  have hx := cell3 HX.out
  go_upto_block 0 with (fail)
  go_wp2_with fail
  go_loopw [38] (fun i wx => ∃ j : Nat, j ≤ n ∧ i = .int .i64 j ∧ Hid (Bytes wx w.heap.size (List.replicate j z1 ++ List.replicate (n - j) z0)) ∧ Hid (Kp W wx (· = w.heap.size))) (fun i _ => n - (intOf i).toNat)
  case atStart => exact ⟨0, Nat.zero_le _, rfl, HY.out, Kp.refl _ _⟩
  case round =>
   clear hx
   obtain ⟨j, hj, rfl, hb, hkp⟩ := hrel
   have hx := cell3 (blk_kp HX.out hkp.out (by show ¬ (_ = _); omega))
   by_cases hlt : j < n
   ·have hy : (List.replicate j z1 ++ List.replicate (n - j) z0)[j]? = some z0 := by
     rw [List.getElem?_append_right (by simp), List.getElem?_replicate, if_pos (by simp; omega)]
    have hc := Bytes.at_ hb.out hy
    have hf0 := q0 hb.out (j * 5)
    have HQ := Aside0.mk hy
    have HBB := Aside0.mk hb
    have HKP := Aside0.mk hkp
    have hjn : ((j : Int) < (n : Int)) := by omega
    have hwj : IntKind.i64.wrap ((j : Int) + 1) = (j : Int) + 1 := by rw [IntKind.wrap_i64]; omega
    clear hb hkp hy
    go_wp2_with fail
    go_roundw
    case rel => exact ⟨j + 1, by omega, by go_num, by
     show Bytes _ _ _
     rw [← bytes_const n j hlt]
     refine q28 HBB.out (j * 5) _ ?_
     rw [List.setIfInBounds_toArray, encB_set0 1 _ j z0 HQ.out]
     rfl, HKP.out.setCell (.inl rfl) _⟩
    case measure => simp [intOf]; omega
   ·obtain rfl : j = n := by omega
    have HB2 : Aside0 (Below w.heap.size w wr) := Aside0.mk (Kp.below_of HB.out hkp.out (fun k hk => by rw [hk]; exact Nat.le_refl _))
    have HX2 := Aside0.mk (blk_kp HX.out hkp.out (by show ¬ (_ = _); omega))
    have HY2 : Aside0 (wr.heap[w.heap.size]? = some (.cells (encB (List.replicate j z1)).toArray 42)) := Aside0.mk (by have := hb.out; rw [Bytes, Nat.sub_self, List.replicate_zero, List.append_nil] at this; exact this)
    clear hb hkp HB HX HY
    have HB := HB2
    have HX := HX2
    have HY := HY2
    clear HB2 HX2 HY2
    go_upto_region 10 with (fail)
    have hx := cell3 HX.out
    have hg0 := cell1 (q19 HM.out.box HB.out)
    have hg2 := cell1 (q12 (q19 HM.out.box HB.out) (.cells #[.int .i64 site, .slice (some ⟨w.heap.size, 0, none⟩) j j, .bool true] 75))
    rw [HLN.out] at hg0 hg2
    go_region_law (refine step_append_cells (w0 := wr.drew) (gm + 1) rfl _ _ 71 75 (.agg #[.int .i64 0, .slice none 0 0, .bool false]) 3 40 rfl Try.underlying71 (by kernel_rfl) (by decide) (by decide) (by decide) _ (blks gs s).length (encK (blks gs s)) [.int .i64 site, .slice (some ⟨w.heap.size, 0, none⟩) j j, .bool true] ?aV ?aX ?aC ?aO (own_move HM.out.row ?aM) (Below.refl _ _) ?aB ?aL ?_; (case aV => (show Value.slice _ _ _ = Value.slice _ _ _; rw [HLN.out])); (case aX => rfl); (case aC => rfl); (case aO => (intro u hu; simp only [List.mem_cons, List.not_mem_nil, or_false] at hu; rcases hu with rfl | rfl | rfl <;> rfl)); (case aM => (intro k hk; obtain ⟨c, hc⟩ := q42 HM.out.row k hk; exact HB.out.block k (q30 hc))); (case aB => (have := q30 HM.out.box; have := HB.out.size; show gm + 1 ≤ wr.heap.size; omega)); (case aL => (rw [HLN.out]; have := HS2.out; omega)); intro v1 w1 hR1 hB1 hg1 hat1; obtain ⟨A1, c1, rfl⟩ := own_form hR1; have HF := Aside0.mk (HH.out.grown HM.out (q39 HB.out) (m := ⟨site, List.replicate j z1, true⟩) (Nat.le_refl _) HY.out (by simpa using HNN.out) (by intro x hx; obtain ⟨_, rfl⟩ := List.mem_replicate.1 hx; decide) (by rw [show (blk w.heap.size ⟨site, List.replicate j z1, true⟩).cells = [.int .i64 site, .slice (some ⟨w.heap.size, 0, none⟩) j j, .bool true] from by simp [blk, Blk.cells]]; exact hR1) hg1 hat1); have hbx := HM.out.box_grown (q39 HB.out) hg1; have hfz := q0 hbx 0; have hcz := cell1 hbx; clear hbx; clear hR1 hB1 hat1)
    all_goals go_wp2_with fail
    all_goals exact bodyPost_ret (v := .tuple #[.int .i64 ((blks gs s).length + 1), .int .i64 0]) (by simp [results, Try.results12, go_sem]) rfl ⟨by rw [HLN.out], w.heap.size, Nat.le_refl _, HF.out.1, HF.out.2⟩
theorem alloc_calls {w : World} {gm : Nat} {gs : List Nat} {s : List Mb} (h : Holds w gm gs s) (hs2 : s.length ≤ 2000) (site size : Int) (zero : Bool) :
  Calls Try.prog 12 #[.pointer (some ⟨gm, 0, none⟩), .int .i64 site, .int .i64 size, .bool zero] w fun e w' => e = .returned (.tuple #[.int .i64 (allocS s site size zero).2.1, .int .i64 (allocS s site size zero).2.2]) ∧ ∃ gs', Holds w' gm gs' (allocS s site size zero).1 ∧ Fr w w' gm gs ∧ (∀ g ∈ gs', g ∈ gs ∨ w.heap.size ≤ g) ∧ (allocS s site size zero).1.length ≤ 2000 := by
 unfold allocS
 by_cases hb : size < 0 ∨ 4096 < size ∨ s.length = 2000
 ·rw [if_pos hb]
  refine (alloc_bad h site size zero hb).mono ?_
  rintro e w' ⟨rfl, rfl⟩
  exact ⟨rfl, gs, h, Fr.refl _ _ _, fun g hg => .inl hg, hs2⟩
 ·rw [if_neg hb]
  obtain ⟨n, rfl⟩ : ∃ n : Nat, size = n := ⟨size.toNat, by omega⟩
  refine (alloc_good h site n (by omega) (by omega) hs2 zero).mono ?_
  rintro e w' ⟨rfl, g, hg, h1, h2⟩
  refine ⟨rfl, gs ++ [g], ?_, h2, fun k hk => (List.mem_append.1 hk).imp id (fun hk => by rw [List.mem_singleton] at hk; rw [hk]; exact hg), by simp; omega⟩
  have : (⟨if zero = true then 1 else 0, 0, ⟨0, 0, 0⟩⟩ : Bt) = if zero = true then z1 else z0 := by cases zero <;> rfl
  show Holds w' gm (gs ++ [g]) (s ++ [⟨site, List.replicate (n : Int).toNat ⟨if zero = true then 1 else 0, 0, ⟨0, 0, 0⟩⟩, true⟩])
  rw [this]
  exact h1
end Go.Proofs.Yteogfjhmjlelnaa.G
set_option linter.unusedVariables false
set_option linter.unusedSimpArgs false
namespace Go.Proofs.Yteogfjhmjlelnaa.G
open Go.RowKit Go.Proofs.Yteogfjhmjlelnaa.B Go.Proofs.YteogfjhmjlelnaaW.PrintWords Go.Proofs.YteogfjhmjlelnaaW.PrintLast Go.Proofs.YteogfjhmjlelnaaW.PrintMore
theorem run_copy_some {P : Program} (w : World) (dT sT ty elem : TypeId) (g o n dCap sCap : Nat) (a : Addr) (cur : Array Value) (t : TypeId) (cs : List Value) (i : TypeInfo)
  (hu : P.underlying dT = some (.slice elem)) (hq : P.info? elem = some i) (hi : i.size = 5)
  (hg : w.heap[g]? = some (.cells cur t (0, 0))) (hn : cs.length = n * 5)
  (hsrc : ∀ j v, cs[j]? = some v → w.cell? (a.add j) = some v) (hfit : o + cs.length ≤ cur.size) (h1 : ∀ v ∈ cs, v.oneCell' = true) :
  (Builtin.copy_ #[dT, sT] ty #[.slice (some ⟨g, o, none⟩) n dCap, .slice (some a) n sCap]).run P w =
   .ok (goInt n) (w.setRow g (cur.toList.take o ++ cs ++ cur.toList.drop (o + cs.length)).toArray) := by
 have hl := run_loadCells_list (P := P) w a cs hsrc
 have hst := run_storeCells_at P g o t cs 0 cur w hg (by simpa using hfit) h1
 simp [Builtin.copy_, run_underlying hu, Builtin.lenOf, Builtin.firstCells, sizeOf, typeInfo, hq, hi, ← hn, hl, hst]
theorem run_copy_zero {P : Program} (w : World) (dT sT ty elem : TypeId) (d a : Option Addr) (dCap sCap : Nat) (i : TypeInfo) (hu : P.underlying dT = some (.slice elem)) (hq : P.info? elem = some i) :
  (Builtin.copy_ #[dT, sT] ty #[.slice d 0 dCap, .slice a 0 sCap]).run P w = .ok (goInt 0) w := by
 have hl : ∀ a, (loadCells a 0).run P w = .ok #[] w := fun a => run_loadCells_list (P := P) w a [] (by simp)
 cases d <;> cases a <;> simp [Builtin.copy_, run_underlying hu, Builtin.lenOf, Builtin.firstCells, sizeOf, typeInfo, hq, storeCells, hl]
theorem encB_append (l m : List Bt) : encB (l ++ m) = encB l ++ encB m := by simp [encB]
theorem encB_take : ∀ (l : List Bt) (k : Nat), encB (l.take k) = (encB l).take (k * 5)
 | [], k => by simp [encB]
 | x :: l, 0 => by simp [encB]
 | x :: l, k + 1 => by
  have e : encB (x :: l) = x.cells ++ encB l := rfl
  have hl : x.cells.length = 5 := rfl
  rw [List.take_succ_cons, show encB (x :: l.take k) = x.cells ++ encB (l.take k) from rfl, encB_take l k, e, show (k + 1) * 5 = x.cells.length + k * 5 by rw [hl]; omega, List.take_length_add_append]
theorem encB_drop : ∀ (l : List Bt) (k : Nat), encB (l.drop k) = (encB l).drop (k * 5)
 | [], k => by simp [encB]
 | x :: l, 0 => by simp
 | x :: l, k + 1 => by
  have e : encB (x :: l) = x.cells ++ encB l := rfl
  have hl : x.cells.length = 5 := rfl
  rw [List.drop_succ_cons, encB_drop l k, e, show (k + 1) * 5 = x.cells.length + k * 5 by rw [hl]; omega, List.drop_length_add_append]
theorem encB_over (l : List Bt) (o : Nat) (seg : List Bt) : encB (over l o seg) = (encB l).take (o * 5) ++ encB seg ++ (encB l).drop (o * 5 + (encB seg).length) := by
 unfold over
 rw [encB_append, encB_append, encB_take, encB_drop, Nat.add_mul, encB_length, Nat.mul_comm 5 seg.length]
theorem copy_step {P : Program} {ops : Array Oper} {rest : List Oper} {o : Oper} {a : Act} {Q : Exit → Act → World → Prop} {w : World} (hgd : o.guard = none) (d s : Operand) (t : TypeId) (e : TypeId)
  (ho : o.op = .call { callee := .builtin .copy, args := #[d, s], argTypes := #[t, t] }) (ht : P.underlying t = some (.slice e)) (hsz : (P.info? e).map (·.size) = some 5)
  (A1 A2 : Option Addr) (n g1 o1 g2 o2 : Nat) (l1 l2 : List Bt) (hd : a.eval d = .slice A1 n n) (hs : a.eval s = .slice A2 n n) (h1 : 0 < n → A1 = some ⟨g1, o1 * 5, none⟩) (h2 : 0 < n → A2 = some ⟨g2, o2 * 5, none⟩)
  (hb1 : Bytes w g1 l1) (hb2 : Bytes w g2 l2) (hn1 : o1 + n ≤ l1.length) (hn2 : o2 + n ≤ l2.length)
  (h : ∀ w', Bytes w' g1 (over l1 o1 ((l2.drop o2).take n)) → Kp w w' (· = g1) → wpList P ops Q rest (a.put o.dst (goInt n)) w') : wpList P ops Q (o :: rest) a w := by
 obtain ⟨i, hq, hi⟩ := Option.map_eq_some_iff.1 hsz
 rcases Nat.eq_zero_or_pos n with rfl | hpos
 ·refine wpList_plain hgd fun K hK => ?_
  have hrun := run_copy_zero (P := P) w t t o.type e A1 A2 0 0 i ht hq
  unfold Oper.wp
  simp [execOp, ho, resolve, invoke, builtin, hd, hs, hrun, Result.andThen]
  exact hK _ _ (h w (by rw [List.take_zero, over_nil]; exact hb1) (Kp.refl _ _))
 ·obtain rfl := h1 hpos
  obtain rfl := h2 hpos
  have hln : (encB ((l2.drop o2).take n)).length = n * 5 := by rw [encB_length, List.length_take, List.length_drop, Nat.min_eq_left (by omega)]; omega
  have hrun := run_copy_some (P := P) w t t o.type e g1 (o1 * 5) n n n ⟨g2, o2 * 5, none⟩ (encB l1).toArray 42 (encB ((l2.drop o2).take n)) i ht hq hi hb1 hln (by
   intro j v hj
   have hjl := (List.getElem?_eq_some_iff.1 hj).1
   rw [hln] at hjl
   rw [encB_take, encB_drop, List.getElem?_take_of_lt hjl, List.getElem?_drop] at hj
   rw [show (⟨g2, o2 * 5, none⟩ : Addr).add j = ⟨g2, o2 * 5 + j, none⟩ by unfold Addr.add; split <;> simp_all, q16 hb2]
   simpa using hj) (by rw [hln, List.size_toArray, encB_length]; omega) (encB_one _)
  refine wpList_plain hgd fun K hK => ?_
  unfold Oper.wp
  simp only [execOp, ho, resolve, invoke, builtin, Sem.run_bind, Sem.run_pure, Result.andThen_ok, List.map_toArray, List.map_cons, List.map_nil, hd, hs, hrun]
  refine hK _ _ (h _ ?_ ?_)
  ·unfold Bytes
   rw [encB_over]
   have := setRow_heap w g1 (encB l1).toArray ((encB l1).toArray.toList.take (o1 * 5) ++ encB ((l2.drop o2).take n) ++ (encB l1).toArray.toList.drop (o1 * 5 + (encB ((l2.drop o2).take n)).length)).toArray 42 (0, 0) hb1
   simpa using this
  ·exact ⟨rfl, rfl, rfl, by simp [World.setRow], fun k hk hne => setRow_other w g1 k _ hne⟩
theorem Holds.part {w : World} {gm : Nat} {gs : List Nat} {s : List Mb} (h : Holds w gm gs s) (p : Vl) (n : Int) :
  Calls Try.prog 37 #[.pointer (some ⟨gm, 0, none⟩), .agg #[.int .i64 p.n, .int .i64 p.b, .int .i64 p.f], .int .i64 n] w fun e w' => ∃ A N ok, e = .returned (.tuple #[.slice A N N, .bool ok]) ∧
   ok = (okS s p n).isSome ∧ (∀ m, okS s p n = some m → N = n.toNat ∧ (0 < n.toNat → A = some ⟨gs.getD (p.b.toNat - 1) 0, p.n.toNat * 5, none⟩)) ∧ Below w.heap.size w w' := by
 obtain ⟨v, hM⟩ := h.mem
 have ho := okS_at h.len p n
 cases hm : okS s p n with
 | none =>
  rw [hm] at ho
  exact (part_bad p n gm v _ w hM h.small ho).mono fun e w' ⟨h1, h2⟩ => ⟨none, 0, false, h1, rfl, (fun m hm => by cases hm), h2⟩
 | some m =>
  rw [hm] at ho
  exact (part_good p n gm v _ _ w hM h.small ho).mono fun e w' ⟨A, h1, h2, h3⟩ => ⟨A, n.toNat, true, h1, rfl, (fun m' hm' => ⟨rfl, fun hp => h2 (by omega)⟩), h3⟩
theorem segS_length {s : List Mb} {p : Vl} {n : Int} {m : Mb} (h : okS s p n = some m) : (segS m p n.toNat).length = n.toNat := by
 obtain ⟨h1, h2, h3, h4, _⟩ := q49 h
 rw [segS, List.length_take, List.length_drop]; omega
set_option maxHeartbeats 4000000 in
theorem copy_calls {w : World} {gm : Nat} {gs : List Nat} {s : List Mb} (h : Holds w gm gs s) (p q : Vl) (n : Int) :
  Calls Try.prog 18 #[.pointer (some ⟨gm, 0, none⟩), p.agg, q.agg, .int .i64 n] w fun e w' => e = .returned (.int .i64 (copyS s p q n).2) ∧ Holds w' gm gs (copyS s p q n).1 ∧ Fr w w' gm gs := by
 have HH := Aside0.mk h
 have HB := Aside0.mk (q10 (q10 (Below.refl w.heap.size w) (.cells #[.int .i64 p.n, .int .i64 p.b, .int .i64 p.f] 23)) (.cells #[.int .i64 q.n, .int .i64 q.b, .int .i64 q.f] 23))
 have hX := Aside0.mk (q12 (q33 w (.cells #[.int .i64 p.n, .int .i64 p.b, .int .i64 p.f] 23)) (.cells #[.int .i64 q.n, .int .i64 q.b, .int .i64 q.f] 23))
 have hZ := Aside0.mk (q46 (W := w.alloc (.cells #[.int .i64 p.n, .int .i64 p.b, .int .i64 p.f] 23)) (n := w.heap.size + 1) (.cells #[.int .i64 q.n, .int .i64 q.b, .int .i64 q.f] 23) (by simp))
 clear h
 unfold Vl.agg
 generalize hR : copyS s p q n = R
 have HR := Aside0.mk hR
 clear hR
 go_enter Try.func18, Try.ntmps18
 go_upto_region 1 with (fail)
 generalize (w.alloc (.cells #[.int .i64 p.n, .int .i64 p.b, .int .i64 p.f] 23)).alloc (.cells #[.int .i64 q.n, .int .i64 q.b, .int .i64 q.f] 23) = W at HB hX hZ ⊢
 have hx := cell3 hX.out
 go_upto_region 2 with (first | (go_at_call 37; refine ((HH.out.below HB.out).part p n).mono ?_; rintro e w1 ⟨A1, N1, ok1, rfl, hok1, hA1, hb1⟩; have HO1 := Aside0.mk hok1; have HA1 := Aside0.mk hA1; clear hok1 hA1))
 have HZ1 := Aside0.mk (q19 hZ.out hb1)
 have HB1 := Aside0.mk (q20 HB.out hb1)
 clear hx hX hZ hb1 HB
 have hz := cell3 HZ1.out
 go_upto_region 3 with (first | (go_at_call 37; refine ((HH.out.below HB1.out).part q n).mono ?_; rintro e w2 ⟨A2, N2, ok2, rfl, hok2, hA2, hb2⟩; have HO2 := Aside0.mk hok2; have HA2 := Aside0.mk hA2; clear hok2 hA2))
 have HB2 := Aside0.mk (q20 HB1.out hb2)
 clear hz HZ1 hb2 HB1
 cases ok1 with
 | false =>
  go_wp2_with fail
  go_ret
  have hR : R = (s, 9) := by
   have := HR.out
   rw [← this]; unfold copyS
   have h1 := HO1.out
   cases hm : okS s p n with
   | none => rfl
   | some m => rw [hm] at h1; cases h1
  rw [hR]
  exact ⟨rfl, HH.out.below HB2.out, Fr.below HB2.out _ _⟩
 | true =>
  cases ok2 with
  | false =>
   go_wp2_with fail
   go_ret
   have hR : R = (s, 9) := by
    have := HR.out
    rw [← this]; unfold copyS
    have h1 := HO2.out
    cases hm : okS s p n with
    | none => rfl
    | some m =>
     cases hm2 : okS s q n with
     | none => rfl
     | some m => rw [hm2] at h1; cases h1
   rw [hR]
   exact ⟨rfl, HH.out.below HB2.out, Fr.below HB2.out _ _⟩
  | true =>
   obtain ⟨m1, hm1⟩ : ∃ m, okS s p n = some m := Option.isSome_iff_exists.1 HO1.out.symm
   obtain ⟨m2, hm2⟩ : ∃ m, okS s q n = some m := Option.isSome_iff_exists.1 HO2.out.symm
   have HM1 := Aside0.mk hm1
   have HM2 := Aside0.mk hm2
   obtain ⟨hN1, hA1⟩ := HA1.out _ hm1
   obtain ⟨hN2, hA2⟩ := HA2.out _ hm2
   subst hN1
   subst hN2
   have s1 := q49 hm1
   have s2 := q49 hm2
   have b1 := HH.out.bytes _ _ _ (get_of HH.out.len s1.2.2.2.2.2.1) s1.2.2.2.2.2.1
   have b2 := HH.out.bytes _ _ _ (get_of HH.out.len s2.2.2.2.2.2.1) s2.2.2.2.2.2.1
   have HB1 := Aside0.mk (q19 b1.1 HB2.out)
   have HB1' := Aside0.mk (q19 b2.1 HB2.out)
   have HV := Aside0.mk b2.2.2
   have HN1 := Aside0.mk (show p.n.toNat + n.toNat ≤ m1.l.length by omega)
   have HN2 := Aside0.mk (show q.n.toNat + n.toNat ≤ m2.l.length by omega)
   have HA1 := Aside0.mk hA1
   have HA2 := Aside0.mk hA2
   clear hm1 hm2 hA1 hA2 s1 s2 b1 b2
   go_wp2_with (first | (refine copy_step rfl _ _ 38 42 rfl Try.underlying38 (by kernel_rfl) A1 A2 n.toNat (gs.getD (p.b.toNat - 1) 0) p.n.toNat (gs.getD (q.b.toNat - 1) 0) q.n.toNat m1.l m2.l rfl rfl HA1.out HA2.out HB1.out HB1'.out HN1.out HN2.out ?_; intro w3 hb3 hk3; have HB3 := Aside0.mk hb3; have HK3 := Aside0.mk hk3; clear hb3 hk3))
   go_ret
   have hR : R = (putS s p (segS m2 q n.toNat), 0) := by
    have := HR.out
    rw [← this]; unfold copyS
    rw [HM1.out, HM2.out]
   rw [hR]
   have := (HH.out.below HB2.out).put HM1.out (segS_length HM2.out) (fun x hx => HV.out x (List.mem_of_mem_drop (List.mem_of_mem_take hx))) HB3.out HK3.out
   exact ⟨rfl, this.1, (Fr.below HB2.out _ _).next this.2⟩
end Go.Proofs.Yteogfjhmjlelnaa.G
set_option linter.unusedVariables false
set_option linter.unusedSimpArgs false
namespace Go.Proofs.Yteogfjhmjlelnaa.G
open Go.RowKit Go.Proofs.Yteogfjhmjlelnaa.B Go.Proofs.YteogfjhmjlelnaaW.PrintWords Go.Proofs.YteogfjhmjlelnaaW.PrintLast Go.Proofs.YteogfjhmjlelnaaW.PrintMore
theorem new_holds (w : World) : Calls Try.prog 11 #[] w fun e w' => e = .returned (.pointer (some ⟨w.heap.size, 0, none⟩)) ∧ Holds w' w.heap.size [] [] ∧ Below w.heap.size w w' :=
 (new_calls w).mono fun e w' ⟨h1, h2⟩ => ⟨h1, by
  subst h2
  exact ⟨⟨.slice none 0 0, q33 w _, rfl, .inl ⟨rfl, rfl⟩⟩, rfl, List.nodup_nil, (fun g hg => by cases hg), fun i g m hi => by simp at hi⟩, by subst h2; exact q10 (Below.refl _ _) _⟩
def vat (n : Int) : Vl := ⟨n, 1, 0⟩
def sh1 : List Mb := (allocS [] 5 16 false).1
def sh2 : List Mb := (storeS sh1 (vat 8) 8 (vat 3)).1
theorem sh_a : allocS [] 5 16 false = (sh1, 1, 0) := rfl
theorem sh_s : storeS sh1 (vat 8) 8 (vat 3) = (sh2, 0) := rfl
theorem sh_l1 : loadS sh2 (vat 8) 8 = (⟨3, 1, 0⟩, 0) := by rfl
theorem sh_l2 : loadS sh2 (vat 9) 1 = (⟨3, 1, 2⟩, 0) := by rfl
theorem sh_l3 : loadS sh2 (vat 8) 4 = (⟨0, 0, 0⟩, 9) := by rfl
theorem sh_l4 : loadS sh2 (vat 0) 8 = (⟨0, 0, 0⟩, 9) := by rfl
structure Mine (w0 : Nat) (w : World) (W : World) (gm : Nat) (gs : List Nat) (s : List Mb) : Prop where
 holds : Holds W gm gs s
 below : Below w0 w W
 base : w0 ≤ gm
theorem Mine.fr {w0 : Nat} {w W W' : World} {gm : Nat} {gs gs' : List Nat} {s s' : List Mb} (h : Mine w0 w W gm gs s) (h0 : w0 ≤ W.heap.size) (hH : Holds W' gm gs' s') (hF : Fr W W' gm gs) : Mine w0 w W' gm gs' s' :=
 ⟨hH, h.below.trans ⟨hF.os, hF.tape, hF.output, hF.size, fun k hk => hF.block k (Nat.lt_of_lt_of_le hk h0) (fun hS => by have := h.holds.sof _ _ hS; have := h.base; omega)⟩, h.base⟩
theorem Mine.low {w0 : Nat} {w W W' : World} {gm : Nat} {gs : List Nat} {s : List Mb} (h : Mine w0 w W gm gs s) (h0 : w0 ≤ W.heap.size) (hb : Below W.heap.size W W') : Mine w0 w W' gm gs s :=
 h.fr h0 (h.holds.below hb) (Fr.below hb _ _)
theorem load_tell {W : World} {gm : Nat} {gs : List Nat} {s : List Mb} (h : Holds W gm gs s) (p : Vl) (k : Int) (r : Vl × Int) (hr : loadS s p k = r) :
  Calls Try.prog 14 #[.pointer (some ⟨gm, 0, none⟩), .agg #[.int .i64 p.n, .int .i64 p.b, .int .i64 p.f], .int .i64 k] W fun e w' => e = .returned (.tuple #[.agg #[.int .i64 r.1.n, .int .i64 r.1.b, .int .i64 r.1.f], .int .i64 r.2]) ∧ Below W.heap.size W w' := by
 subst hr; exact load_calls h p k
theorem store_tell {W : World} {gm : Nat} {gs : List Nat} {s : List Mb} (h : Holds W gm gs s) (p : Vl) (k : Int) (x : Vl) (r : List Mb × Int) (hr : storeS s p k x = r) :
  Calls Try.prog 16 #[.pointer (some ⟨gm, 0, none⟩), .agg #[.int .i64 p.n, .int .i64 p.b, .int .i64 p.f], .int .i64 k, .agg #[.int .i64 x.n, .int .i64 x.b, .int .i64 x.f]] W fun e w' => e = .returned (.int .i64 r.2) ∧ Holds w' gm gs r.1 ∧ Fr W w' gm gs := by
 subst hr; exact store_calls h p k x
theorem alloc_tell {w0 : Nat} {w W : World} {gm : Nat} {gs : List Nat} {s : List Mb} (h : Mine w0 w W gm gs s) (h0 : w0 ≤ W.heap.size) (hs : s.length ≤ 2000) (site size : Int) (z : Bool) (r : List Mb × Int × Int) (hr : allocS s site size z = r) :
  Calls Try.prog 12 #[.pointer (some ⟨gm, 0, none⟩), .int .i64 site, .int .i64 size, .bool z] W fun e w' => e = .returned (.tuple #[.int .i64 r.2.1, .int .i64 r.2.2]) ∧ ∃ gs', Mine w0 w w' gm gs' r.1 ∧ W.heap.size ≤ w'.heap.size := by
 subst hr
 exact (alloc_calls h.holds hs site size z).mono fun e w' ⟨h1, gs', h2, h3, h4, h5⟩ => ⟨h1, gs', h.fr h0 h2 h3, h3.size⟩
set_option maxRecDepth 100000 in
set_option maxHeartbeats 8000000 in
theorem shown_calls (w : World) : Calls Try.prog 10 #[] w fun e w' => e = .returned (.bool true) ∧ Below w.heap.size w w' := by
 go_enter Try.func10, Try.ntmps10
 go_upto_region 2 with (first | (go_at_call 11; refine (new_holds _).mono ?_; rintro e w1 ⟨rfl, hH1, hb1⟩; have HM1 : Aside0 (Mine w.heap.size w w1 w.heap.size [] []) := Aside0.mk ⟨hH1, hb1, Nat.le_refl _⟩; have HS1 := Aside0.mk hb1.size; clear hH1 hb1))
 go_upto_region 5 with (first | (go_at_call 12; refine (alloc_tell HM1.out HS1.out (by decide) 5 16 false _ sh_a).mono ?_; rintro e w2 ⟨rfl, gs, hM2, hs2⟩; have HM2 := Aside0.mk hM2; have HS2 := Aside0.mk (Nat.le_trans HS1.out hs2); clear hM2 hs2))
 go_upto_region 6 with (first | (go_at_call 15; refine (at_calls 8 _).mono ?_; rintro e w3 ⟨rfl, hb3⟩; have HM3 := Aside0.mk (HM2.out.low HS2.out hb3); have HS3 := Aside0.mk (Nat.le_trans HS2.out hb3.size); clear hb3) | (go_at_call 15; refine (at_calls 3 _).mono ?_; rintro e w4 ⟨rfl, hb4⟩; have HM4 := Aside0.mk (HM3.out.low HS3.out hb4); have HS4 := Aside0.mk (Nat.le_trans HS3.out hb4.size); clear hb4) | (go_at_call 16; refine (store_tell HM4.out.holds (vat 8) 8 (vat 3) _ sh_s).mono ?_; rintro e w5 ⟨rfl, hH5, hF5⟩; have HM5 := Aside0.mk (HM4.out.fr HS4.out hH5 hF5); have HS5 := Aside0.mk (Nat.le_trans HS4.out hF5.size); clear hH5 hF5))
 clear HM1 HM2 HM3 HM4 HS1 HS2 HS3 HS4
 go_upto_region 7 with (first | (go_at_call 15; refine (at_calls 8 _).mono ?_; rintro e w6 ⟨rfl, hb6⟩; have HM6 := Aside0.mk (HM5.out.low HS5.out hb6); have HS6 := Aside0.mk (Nat.le_trans HS5.out hb6.size); clear hb6) | (go_at_call 14; refine (load_tell HM6.out.holds (vat 8) 8 _ sh_l1).mono ?_; rintro e w7 ⟨rfl, hb7⟩; have HM7 := Aside0.mk (HM6.out.low HS6.out hb7); have HS7 := Aside0.mk (Nat.le_trans HS6.out hb7.size); clear hb7))
 have HM8 := Aside0.mk (HM7.out.low HS7.out (q10 (Below.refl _ _) (.cells #[.int .i64 3, .int .i64 1, .int .i64 0] 23)))
 have HS8 : Aside0 (w.heap.size ≤ (w7.alloc (.cells #[.int .i64 3, .int .i64 1, .int .i64 0] 23)).heap.size) := Aside0.mk (Nat.le_trans HS7.out (by simp))
 have HX58 := Aside0.mk (q33 w7 (.cells #[.int .i64 3, .int .i64 1, .int .i64 0] 23))
 generalize w7.heap.size = g5 at HX58 ⊢
 generalize w7.alloc (.cells #[.int .i64 3, .int .i64 1, .int .i64 0] 23) = w8 at HM8 HS8 HX58 ⊢
 go_upto_region 8 with (first | (go_at_call 15; refine (at_calls 9 _).mono ?_; rintro e w9 ⟨rfl, hb9⟩; have HM9 := Aside0.mk (HM8.out.low HS8.out hb9); have HS9 := Aside0.mk (Nat.le_trans HS8.out hb9.size); have HX59 := Aside0.mk (q19 HX58.out hb9); clear hb9) | (go_at_call 14; refine (load_tell HM9.out.holds (vat 9) 1 _ sh_l2).mono ?_; rintro e w10 ⟨rfl, hb10⟩; have HM10 := Aside0.mk (HM9.out.low HS9.out hb10); have HS10 := Aside0.mk (Nat.le_trans HS9.out hb10.size); have HX510 := Aside0.mk (q19 HX59.out hb10); clear hb10))
 have HM11 := Aside0.mk (HM10.out.low HS10.out (q10 (Below.refl _ _) (.cells #[.int .i64 3, .int .i64 1, .int .i64 2] 23)))
 have HS11 : Aside0 (w.heap.size ≤ (w10.alloc (.cells #[.int .i64 3, .int .i64 1, .int .i64 2] 23)).heap.size) := Aside0.mk (Nat.le_trans HS10.out (by simp))
 have HX511 := Aside0.mk (q12 HX510.out (.cells #[.int .i64 3, .int .i64 1, .int .i64 2] 23))
 have HX711 := Aside0.mk (q33 w10 (.cells #[.int .i64 3, .int .i64 1, .int .i64 2] 23))
 generalize w10.heap.size = g7 at HX711 ⊢
 generalize w10.alloc (.cells #[.int .i64 3, .int .i64 1, .int .i64 2] 23) = w11 at HM11 HS11 HX511 HX711 ⊢
 go_upto_region 9 with (first | (go_at_call 15; refine (at_calls 8 _).mono ?_; rintro e w12 ⟨rfl, hb12⟩; have HM12 := Aside0.mk (HM11.out.low HS11.out hb12); have HS12 := Aside0.mk (Nat.le_trans HS11.out hb12.size); have HX512 := Aside0.mk (q19 HX511.out hb12); have HX712 := Aside0.mk (q19 HX711.out hb12); clear hb12) | (go_at_call 14; refine (load_tell HM12.out.holds (vat 8) 4 _ sh_l3).mono ?_; rintro e w13 ⟨rfl, hb13⟩; have HM13 := Aside0.mk (HM12.out.low HS12.out hb13); have HS13 := Aside0.mk (Nat.le_trans HS12.out hb13.size); have HX513 := Aside0.mk (q19 HX512.out hb13); have HX713 := Aside0.mk (q19 HX712.out hb13); clear hb13))
 have HM14 := Aside0.mk (HM13.out.low HS13.out (q10 (Below.refl _ _) (.cells #[.int .i64 0, .int .i64 0, .int .i64 0] 23)))
 have HS14 : Aside0 (w.heap.size ≤ (w13.alloc (.cells #[.int .i64 0, .int .i64 0, .int .i64 0] 23)).heap.size) := Aside0.mk (Nat.le_trans HS13.out (by simp))
 have HX514 := Aside0.mk (q12 HX513.out (.cells #[.int .i64 0, .int .i64 0, .int .i64 0] 23))
 have HX714 := Aside0.mk (q12 HX713.out (.cells #[.int .i64 0, .int .i64 0, .int .i64 0] 23))
 generalize w13.alloc (.cells #[.int .i64 0, .int .i64 0, .int .i64 0] 23) = w14 at HM14 HS14 HX514 HX714 ⊢
 go_upto_region 10 with (first | (go_at_call 15; refine (at_calls 0 _).mono ?_; rintro e w15 ⟨rfl, hb15⟩; have HM15 := Aside0.mk (HM14.out.low HS14.out hb15); have HS15 := Aside0.mk (Nat.le_trans HS14.out hb15.size); have HX515 := Aside0.mk (q19 HX514.out hb15); have HX715 := Aside0.mk (q19 HX714.out hb15); clear hb15) | (go_at_call 14; refine (load_tell HM15.out.holds (vat 0) 8 _ sh_l4).mono ?_; rintro e w16 ⟨rfl, hb16⟩; have HM16 := Aside0.mk (HM15.out.low HS15.out hb16); have HS16 := Aside0.mk (Nat.le_trans HS15.out hb16.size); have HX516 := Aside0.mk (q19 HX515.out hb16); have HX716 := Aside0.mk (q19 HX715.out hb16); clear hb16))
 have HM17 := Aside0.mk (HM16.out.low HS16.out (q10 (Below.refl _ _) (.cells #[.int .i64 0, .int .i64 0, .int .i64 0] 23)))
 have HS17 : Aside0 (w.heap.size ≤ (w16.alloc (.cells #[.int .i64 0, .int .i64 0, .int .i64 0] 23)).heap.size) := Aside0.mk (Nat.le_trans HS16.out (by simp))
 have HX517 := Aside0.mk (q12 HX516.out (.cells #[.int .i64 0, .int .i64 0, .int .i64 0] 23))
 have HX717 := Aside0.mk (q12 HX716.out (.cells #[.int .i64 0, .int .i64 0, .int .i64 0] 23))
 generalize w16.alloc (.cells #[.int .i64 0, .int .i64 0, .int .i64 0] 23) = w17 at HM17 HS17 HX517 HX717 ⊢
 have hS0 := cell3 HX517.out
 have hS1 := cell3 HX717.out
 have HB17 := Aside0.mk HM17.out.below
 have HS17 := HS17
 clear HM5 HS5 HM6 HS6 HM7 HS7 HM8 HS8 HM9 HS9 HM10 HS10 HM11 HS11 HM12 HS12 HM13 HS13 HM14 HS14 HM15 HS15 HM16 HS16 HM17
 obtain ⟨w0, hw0⟩ : ∃ w0, w0 = w17 := ⟨_, rfl⟩
 have HK := Aside0.mk (show ∀ Wa Wb : World, Below Wa.heap.size Wa Wb → (Wa.cell? ⟨g5, 0, none⟩ = some (.int .i64 3) ∧ Wa.cell? ⟨g5, 1, none⟩ = some (.int .i64 1) ∧ Wa.cell? ⟨g5, 2, none⟩ = some (.int .i64 0) ∧ Wa.cell? ⟨g7, 0, none⟩ = some (.int .i64 3) ∧ Wa.cell? ⟨g7, 1, none⟩ = some (.int .i64 1) ∧ Wa.cell? ⟨g7, 2, none⟩ = some (.int .i64 2) ∧ Below w17.heap.size w17 Wa) → (Wb.cell? ⟨g5, 0, none⟩ = some (.int .i64 3) ∧ Wb.cell? ⟨g5, 1, none⟩ = some (.int .i64 1) ∧ Wb.cell? ⟨g5, 2, none⟩ = some (.int .i64 0) ∧ Wb.cell? ⟨g7, 0, none⟩ = some (.int .i64 3) ∧ Wb.cell? ⟨g7, 1, none⟩ = some (.int .i64 1) ∧ Wb.cell? ⟨g7, 2, none⟩ = some (.int .i64 2) ∧ Below w17.heap.size w17 Wb) from fun _ _ hb h => ⟨q22 hb h.1, q22 hb h.2.1, q22 hb h.2.2.1, q22 hb h.2.2.2.1, q22 hb h.2.2.2.2.1, q22 hb h.2.2.2.2.2.1, q20 h.2.2.2.2.2.2 hb⟩)
 have HQ := Aside0.mk (show ∀ Wa : World, (Wa.cell? ⟨g5, 0, none⟩ = some (.int .i64 3) ∧ Wa.cell? ⟨g5, 1, none⟩ = some (.int .i64 1) ∧ Wa.cell? ⟨g5, 2, none⟩ = some (.int .i64 0) ∧ Wa.cell? ⟨g7, 0, none⟩ = some (.int .i64 3) ∧ Wa.cell? ⟨g7, 1, none⟩ = some (.int .i64 1) ∧ Wa.cell? ⟨g7, 2, none⟩ = some (.int .i64 2) ∧ Below w17.heap.size w17 Wa) → Below w17.heap.size w17 Wa from fun _ h => h.2.2.2.2.2.2)
 have hS : (w17.cell? ⟨g5, 0, none⟩ = some (.int .i64 3) ∧ w17.cell? ⟨g5, 1, none⟩ = some (.int .i64 1) ∧ w17.cell? ⟨g5, 2, none⟩ = some (.int .i64 0) ∧ w17.cell? ⟨g7, 0, none⟩ = some (.int .i64 3) ∧ w17.cell? ⟨g7, 1, none⟩ = some (.int .i64 1) ∧ w17.cell? ⟨g7, 2, none⟩ = some (.int .i64 2) ∧ Below w17.heap.size w17 w17) := ⟨hS0.1, hS0.2.1, hS0.2.2, hS1.1, hS1.2.1, hS1.2.2, Below.refl _ _⟩
 refine wp_region_held_drew (S := fun w' => w'.cell? ⟨g5, 0, none⟩ = some (.int .i64 3) ∧ w'.cell? ⟨g5, 1, none⟩ = some (.int .i64 1) ∧ w'.cell? ⟨g5, 2, none⟩ = some (.int .i64 0) ∧ w'.cell? ⟨g7, 0, none⟩ = some (.int .i64 3) ∧ w'.cell? ⟨g7, 1, none⟩ = some (.int .i64 1) ∧ w'.cell? ⟨g7, 2, none⟩ = some (.int .i64 2) ∧ Below w17.heap.size w17 w') (by kernel_rfl) ⟨hS.1, hS.2.1, hS.2.2.1, hS.2.2.2.1, hS.2.2.2.2.1, hS.2.2.2.2.2.1, q39 hS.2.2.2.2.2.2⟩ (fun hHeld => ?_)
 refine wpAnyH_take (i := 0) (oi := { dst := (some 49), op := (Op.move (Operand.tmp 2)), type := 3, pos := "law.go:25", after := #[], guard := none }) (v := ?_) rfl (by kernel_rfl) (by kernel_rfl) (by kernel_rfl) (fun _ _ _ h => h) (Or.inl ⟨by rfl, ?_⟩) hHeld ?_
 rotate_left
 ·intro w hSw; (try dsimp only at hSw); go_simp; try with_reducible rfl
 try simp only [Act.put, List.setIfInBounds_toArray, List.set_cons_zero, List.set_cons_succ]
 refine wpAnyH_take (i := 1) (oi := { dst := (some 50), op := (Op.binOp BinOp.eql 3 (Operand.tmp 49) (Operand.const (Value.int IntKind.i64 1)) 3), type := 4, pos := "law.go:25", after := #[{ on := 0, ground := Ground.data }], guard := none }) (v := ?_) rfl (by kernel_rfl) (by kernel_rfl) (by kernel_rfl) (fun _ _ _ h => h) (Or.inl ⟨by rfl, ?_⟩) hHeld ?_
 rotate_left
 ·intro w hSw; (try dsimp only at hSw); go_simp; try with_reducible rfl
 try simp only [Act.put, List.setIfInBounds_toArray, List.set_cons_zero, List.set_cons_succ]
 refine wpAnyH_take (i := 2) (oi := { dst := (some 51), op := (Op.move (Operand.tmp 50)), type := 4, pos := "law.go:25", after := #[{ on := 1, ground := Ground.data }], guard := none }) (v := ?_) rfl (by kernel_rfl) (by kernel_rfl) (by kernel_rfl) (fun _ _ _ h => h) (Or.inl ⟨by rfl, ?_⟩) hHeld ?_
 rotate_left
 ·intro w hSw; (try dsimp only at hSw); go_simp; try with_reducible rfl
 try simp only [Act.put, List.setIfInBounds_toArray, List.set_cons_zero, List.set_cons_succ]
 refine wpAnyH_take (i := 3) (oi := { dst := (some 52), op := (Op.move (Operand.tmp 3)), type := 27, pos := "law.go:25", after := #[{ on := 2, ground := Ground.guard }], guard := (some (2, true)) }) (v := ?_) rfl (by kernel_rfl) (by kernel_rfl) (by kernel_rfl) (fun _ _ _ h => h) (Or.inl ⟨by rfl, ?_⟩) hHeld ?_
 rotate_left
 ·intro w hSw; (try dsimp only at hSw); go_simp; try with_reducible rfl
 try simp only [Act.put, List.setIfInBounds_toArray, List.set_cons_zero, List.set_cons_succ]
 refine wpAnyH_take (i := 4) (oi := { dst := (some 53), op := (Op.binOp BinOp.eql 27 (Operand.tmp 52) (Operand.const (Value.int IntKind.i64 0)) 27), type := 4, pos := "law.go:25", after := #[{ on := 3, ground := Ground.data }, { on := 2, ground := Ground.guard }], guard := (some (2, true)) }) (v := ?_) rfl (by kernel_rfl) (by kernel_rfl) (by kernel_rfl) (fun _ _ _ h => h) (Or.inl ⟨by rfl, ?_⟩) hHeld ?_
 rotate_left
 ·intro w hSw; (try dsimp only at hSw); go_simp; try with_reducible rfl
 try simp only [Act.put, List.setIfInBounds_toArray, List.set_cons_zero, List.set_cons_succ]
 refine wpAnyH_take (i := 5) (oi := { dst := (some 54), op := (Op.pick (Operand.tmp 51) (Operand.tmp 53) (Operand.const (Value.bool false))), type := 4, pos := "law.go:25", after := #[{ on := 2, ground := Ground.data }, { on := 4, ground := Ground.data }], guard := none }) (v := ?_) rfl (by kernel_rfl) (by kernel_rfl) (by kernel_rfl) (fun _ _ _ h => h) (Or.inl ⟨by rfl, ?_⟩) hHeld ?_
 rotate_left
 ·intro w hSw; (try dsimp only at hSw); go_simp; try with_reducible rfl
 try simp only [Act.put, List.setIfInBounds_toArray, List.set_cons_zero, List.set_cons_succ]
 refine wpAnyH_take (i := 6) (oi := { dst := (some 55), op := (Op.move (Operand.tmp 54)), type := 4, pos := "law.go:25", after := #[{ on := 5, ground := Ground.data }, { on := 2, ground := Ground.chain }], guard := none }) (v := ?_) rfl (by kernel_rfl) (by kernel_rfl) (by kernel_rfl) (fun _ _ _ h => h) (Or.inl ⟨by rfl, ?_⟩) hHeld ?_
 rotate_left
 ·intro w hSw; (try dsimp only at hSw); go_simp; try with_reducible rfl
 try simp only [Act.put, List.setIfInBounds_toArray, List.set_cons_zero, List.set_cons_succ]
 refine wpAnyH_take (i := 7) (oi := { dst := (some 56), op := (Op.move (Operand.tmp 4)), type := 27, pos := "law.go:25", after := #[{ on := 6, ground := Ground.guard }], guard := (some (6, true)) }) (v := ?_) rfl (by kernel_rfl) (by kernel_rfl) (by kernel_rfl) (fun _ _ _ h => h) (Or.inl ⟨by rfl, ?_⟩) hHeld ?_
 rotate_left
 ·intro w hSw; (try dsimp only at hSw); go_simp; try with_reducible rfl
 try simp only [Act.put, List.setIfInBounds_toArray, List.set_cons_zero, List.set_cons_succ]
 refine wpAnyH_take (i := 8) (oi := { dst := (some 57), op := (Op.binOp BinOp.eql 27 (Operand.tmp 56) (Operand.const (Value.int IntKind.i64 0)) 27), type := 4, pos := "law.go:25", after := #[{ on := 7, ground := Ground.data }, { on := 6, ground := Ground.guard }], guard := (some (6, true)) }) (v := ?_) rfl (by kernel_rfl) (by kernel_rfl) (by kernel_rfl) (fun _ _ _ h => h) (Or.inl ⟨by rfl, ?_⟩) hHeld ?_
 rotate_left
 ·intro w hSw; (try dsimp only at hSw); go_simp; try with_reducible rfl
 try simp only [Act.put, List.setIfInBounds_toArray, List.set_cons_zero, List.set_cons_succ]
 refine wpAnyH_take (i := 9) (oi := { dst := (some 58), op := (Op.pick (Operand.tmp 55) (Operand.tmp 57) (Operand.const (Value.bool false))), type := 4, pos := "law.go:25", after := #[{ on := 6, ground := Ground.data }, { on := 8, ground := Ground.data }], guard := none }) (v := ?_) rfl (by kernel_rfl) (by kernel_rfl) (by kernel_rfl) (fun _ _ _ h => h) (Or.inl ⟨by rfl, ?_⟩) hHeld ?_
 rotate_left
 ·intro w hSw; (try dsimp only at hSw); go_simp; try with_reducible rfl
 try simp only [Act.put, List.setIfInBounds_toArray, List.set_cons_zero, List.set_cons_succ]
 refine wpAnyH_take (i := 10) (oi := { dst := (some 59), op := (Op.move (Operand.tmp 58)), type := 4, pos := "law.go:25", after := #[{ on := 9, ground := Ground.data }, { on := 6, ground := Ground.chain }], guard := none }) (v := ?_) rfl (by kernel_rfl) (by kernel_rfl) (by kernel_rfl) (fun _ _ _ h => h) (Or.inl ⟨by rfl, ?_⟩) hHeld ?_
 rotate_left
 ·intro w hSw; (try dsimp only at hSw); go_simp; try with_reducible rfl
 try simp only [Act.put, List.setIfInBounds_toArray, List.set_cons_zero, List.set_cons_succ]
 refine wpAnyH_take (i := 11) (oi := { dst := (some 60), op := (Op.load 23 (Operand.tmp 5)), type := 23, pos := "law.go:25", after := #[{ on := 10, ground := Ground.guard }], guard := (some (10, true)) }) (v := ?_) rfl (by kernel_rfl) (by kernel_rfl) (by kernel_rfl) (fun _ _ _ h => h) (Or.inl ⟨by rfl, ?_⟩) hHeld ?_
 rotate_left
 ·intro w hSw; (try dsimp only at hSw); go_simp; try with_reducible rfl
 try simp only [Act.put, List.setIfInBounds_toArray, List.set_cons_zero, List.set_cons_succ]
 refine wpAnyH_ready (rs := [12]) (by kernel_rfl) (by simp) ?_
 refine AllReadyH.cons (o := { dst := (some 61), op := (Op.call { callee := (Callee.value (Operand.func 15)), args := #[(Operand.const (Value.int IntKind.i64 3))], argTypes := #[2] }), type := 23, pos := "law.go:25", after := #[{ on := 10, ground := Ground.chain }, { on := 10, ground := Ground.guard }], guard := (some (10, true)) }) rfl (fun K hK => ?_) AllReadyH.nil
 go_simp
 refine (at_calls 3 _).mono ?_
 rintro e w2 ⟨rfl, hb2⟩
 refine hK.out _ _ (HK.out _ _ hb2 hHeld) (fun hHeld => ?_)
 clear hK K
 try simp only [Act.put, List.setIfInBounds_toArray, List.set_cons_zero, List.set_cons_succ]
 refine wpAnyH_take (i := 13) (oi := { dst := (some 62), op := (Op.binOp BinOp.eql 23 (Operand.tmp 60) (Operand.tmp 61) 23), type := 4, pos := "law.go:25", after := #[{ on := 11, ground := Ground.data }, { on := 12, ground := Ground.data }, { on := 10, ground := Ground.guard }], guard := (some (10, true)) }) (v := .bool true) rfl (by kernel_rfl) (by kernel_rfl) (by kernel_rfl) (fun _ _ _ h => h) (Or.inl ⟨by rfl, ?_⟩) hHeld ?_
 ·intro w hSw; (try dsimp only at hSw); go_simp; try rfl
 try simp only [Act.put, List.setIfInBounds_toArray, List.set_cons_zero, List.set_cons_succ]
 refine wpAnyH_take (i := 14) (oi := { dst := (some 63), op := (Op.pick (Operand.tmp 59) (Operand.tmp 62) (Operand.const (Value.bool false))), type := 4, pos := "law.go:25", after := #[{ on := 10, ground := Ground.data }, { on := 13, ground := Ground.data }], guard := none }) (v := ?_) rfl (by kernel_rfl) (by kernel_rfl) (by kernel_rfl) (fun _ _ _ h => h) (Or.inl ⟨by rfl, ?_⟩) hHeld ?_
 rotate_left
 ·intro w hSw; (try dsimp only at hSw); go_simp; try with_reducible rfl
 try simp only [Act.put, List.setIfInBounds_toArray, List.set_cons_zero, List.set_cons_succ]
 refine wpAnyH_take (i := 15) (oi := { dst := (some 64), op := (Op.move (Operand.tmp 63)), type := 4, pos := "law.go:25", after := #[{ on := 14, ground := Ground.data }, { on := 12, ground := Ground.chain }], guard := none }) (v := ?_) rfl (by kernel_rfl) (by kernel_rfl) (by kernel_rfl) (fun _ _ _ h => h) (Or.inl ⟨by rfl, ?_⟩) hHeld ?_
 rotate_left
 ·intro w hSw; (try dsimp only at hSw); go_simp; try with_reducible rfl
 try simp only [Act.put, List.setIfInBounds_toArray, List.set_cons_zero, List.set_cons_succ]
 refine wpAnyH_take (i := 16) (oi := { dst := (some 65), op := (Op.move (Operand.tmp 6)), type := 27, pos := "law.go:25", after := #[{ on := 15, ground := Ground.guard }], guard := (some (15, true)) }) (v := ?_) rfl (by kernel_rfl) (by kernel_rfl) (by kernel_rfl) (fun _ _ _ h => h) (Or.inl ⟨by rfl, ?_⟩) hHeld ?_
 rotate_left
 ·intro w hSw; (try dsimp only at hSw); go_simp; try with_reducible rfl
 try simp only [Act.put, List.setIfInBounds_toArray, List.set_cons_zero, List.set_cons_succ]
 refine wpAnyH_take (i := 17) (oi := { dst := (some 66), op := (Op.binOp BinOp.eql 27 (Operand.tmp 65) (Operand.const (Value.int IntKind.i64 0)) 27), type := 4, pos := "law.go:25", after := #[{ on := 16, ground := Ground.data }, { on := 15, ground := Ground.guard }], guard := (some (15, true)) }) (v := ?_) rfl (by kernel_rfl) (by kernel_rfl) (by kernel_rfl) (fun _ _ _ h => h) (Or.inl ⟨by rfl, ?_⟩) hHeld ?_
 rotate_left
 ·intro w hSw; (try dsimp only at hSw); go_simp; try with_reducible rfl
 try simp only [Act.put, List.setIfInBounds_toArray, List.set_cons_zero, List.set_cons_succ]
 refine wpAnyH_take (i := 18) (oi := { dst := (some 67), op := (Op.pick (Operand.tmp 64) (Operand.tmp 66) (Operand.const (Value.bool false))), type := 4, pos := "law.go:25", after := #[{ on := 15, ground := Ground.data }, { on := 17, ground := Ground.data }], guard := none }) (v := ?_) rfl (by kernel_rfl) (by kernel_rfl) (by kernel_rfl) (fun _ _ _ h => h) (Or.inl ⟨by rfl, ?_⟩) hHeld ?_
 rotate_left
 ·intro w hSw; (try dsimp only at hSw); go_simp; try with_reducible rfl
 try simp only [Act.put, List.setIfInBounds_toArray, List.set_cons_zero, List.set_cons_succ]
 refine wpAnyH_take (i := 19) (oi := { dst := (some 68), op := (Op.move (Operand.tmp 67)), type := 4, pos := "law.go:25", after := #[{ on := 18, ground := Ground.data }, { on := 15, ground := Ground.chain }], guard := none }) (v := ?_) rfl (by kernel_rfl) (by kernel_rfl) (by kernel_rfl) (fun _ _ _ h => h) (Or.inl ⟨by rfl, ?_⟩) hHeld ?_
 rotate_left
 ·intro w hSw; (try dsimp only at hSw); go_simp; try with_reducible rfl
 try simp only [Act.put, List.setIfInBounds_toArray, List.set_cons_zero, List.set_cons_succ]
 refine wpAnyH_take (i := 20) (oi := { dst := (some 69), op := (Op.load 23 (Operand.tmp 7)), type := 23, pos := "law.go:25", after := #[{ on := 19, ground := Ground.guard }], guard := (some (19, true)) }) (v := ?_) rfl (by kernel_rfl) (by kernel_rfl) (by kernel_rfl) (fun _ _ _ h => h) (Or.inl ⟨by rfl, ?_⟩) hHeld ?_
 rotate_left
 ·intro w hSw; (try dsimp only at hSw); go_simp; try with_reducible rfl
 try simp only [Act.put, List.setIfInBounds_toArray, List.set_cons_zero, List.set_cons_succ]
 refine wpAnyH_take (i := 21) (oi := { dst := (some 70), op := (Op.build 23 #[(0, (Operand.const (Value.int IntKind.i64 3))), (1, (Operand.const (Value.int IntKind.i64 1))), (2, (Operand.const (Value.int IntKind.i64 2)))]), type := 23, pos := "law.go:25", after := #[{ on := 19, ground := Ground.guard }], guard := (some (19, true)) }) (v := ?_) rfl (by kernel_rfl) (by kernel_rfl) (by kernel_rfl) (fun _ _ _ h => h) (Or.inl ⟨by rfl, ?_⟩) hHeld ?_
 rotate_left
 ·intro w hSw; (try dsimp only at hSw); go_simp; try with_reducible rfl
 try simp only [Act.put, List.setIfInBounds_toArray, List.set_cons_zero, List.set_cons_succ]
 refine wpAnyH_take (i := 22) (oi := { dst := (some 71), op := (Op.binOp BinOp.eql 23 (Operand.tmp 69) (Operand.tmp 70) 23), type := 4, pos := "law.go:25", after := #[{ on := 20, ground := Ground.data }, { on := 21, ground := Ground.data }, { on := 19, ground := Ground.guard }], guard := (some (19, true)) }) (v := .bool true) rfl (by kernel_rfl) (by kernel_rfl) (by kernel_rfl) (fun _ _ _ h => h) (Or.inl ⟨by rfl, ?_⟩) hHeld ?_
 ·intro w hSw; (try dsimp only at hSw); go_simp; try rfl
 try simp only [Act.put, List.setIfInBounds_toArray, List.set_cons_zero, List.set_cons_succ]
 refine wpAnyH_take (i := 23) (oi := { dst := (some 72), op := (Op.pick (Operand.tmp 68) (Operand.tmp 71) (Operand.const (Value.bool false))), type := 4, pos := "law.go:25", after := #[{ on := 19, ground := Ground.data }, { on := 22, ground := Ground.data }], guard := none }) (v := ?_) rfl (by kernel_rfl) (by kernel_rfl) (by kernel_rfl) (fun _ _ _ h => h) (Or.inl ⟨by rfl, ?_⟩) hHeld ?_
 rotate_left
 ·intro w hSw; (try dsimp only at hSw); go_simp; try with_reducible rfl
 try simp only [Act.put, List.setIfInBounds_toArray, List.set_cons_zero, List.set_cons_succ]
 refine wpAnyH_take (i := 24) (oi := { dst := (some 73), op := (Op.move (Operand.tmp 72)), type := 4, pos := "law.go:25", after := #[{ on := 23, ground := Ground.data }, { on := 19, ground := Ground.chain }], guard := none }) (v := ?_) rfl (by kernel_rfl) (by kernel_rfl) (by kernel_rfl) (fun _ _ _ h => h) (Or.inl ⟨by rfl, ?_⟩) hHeld ?_
 rotate_left
 ·intro w hSw; (try dsimp only at hSw); go_simp; try with_reducible rfl
 try simp only [Act.put, List.setIfInBounds_toArray, List.set_cons_zero, List.set_cons_succ]
 refine wpAnyH_take (i := 25) (oi := { dst := (some 74), op := (Op.move (Operand.tmp 8)), type := 27, pos := "law.go:25", after := #[{ on := 24, ground := Ground.guard }], guard := (some (24, true)) }) (v := ?_) rfl (by kernel_rfl) (by kernel_rfl) (by kernel_rfl) (fun _ _ _ h => h) (Or.inl ⟨by rfl, ?_⟩) hHeld ?_
 rotate_left
 ·intro w hSw; (try dsimp only at hSw); go_simp; try with_reducible rfl
 try simp only [Act.put, List.setIfInBounds_toArray, List.set_cons_zero, List.set_cons_succ]
 refine wpAnyH_take (i := 26) (oi := { dst := (some 75), op := (Op.binOp BinOp.eql 27 (Operand.tmp 74) (Operand.const (Value.int IntKind.i64 0)) 27), type := 4, pos := "law.go:25", after := #[{ on := 25, ground := Ground.data }, { on := 24, ground := Ground.guard }], guard := (some (24, true)) }) (v := ?_) rfl (by kernel_rfl) (by kernel_rfl) (by kernel_rfl) (fun _ _ _ h => h) (Or.inl ⟨by rfl, ?_⟩) hHeld ?_
 rotate_left
 ·intro w hSw; (try dsimp only at hSw); go_simp; try with_reducible rfl
 try simp only [Act.put, List.setIfInBounds_toArray, List.set_cons_zero, List.set_cons_succ]
 refine wpAnyH_take (i := 27) (oi := { dst := (some 76), op := (Op.pick (Operand.tmp 73) (Operand.tmp 75) (Operand.const (Value.bool false))), type := 4, pos := "law.go:25", after := #[{ on := 24, ground := Ground.data }, { on := 26, ground := Ground.data }], guard := none }) (v := ?_) rfl (by kernel_rfl) (by kernel_rfl) (by kernel_rfl) (fun _ _ _ h => h) (Or.inl ⟨by rfl, ?_⟩) hHeld ?_
 rotate_left
 ·intro w hSw; (try dsimp only at hSw); go_simp; try with_reducible rfl
 try simp only [Act.put, List.setIfInBounds_toArray, List.set_cons_zero, List.set_cons_succ]
 refine wpAnyH_take (i := 28) (oi := { dst := (some 77), op := (Op.move (Operand.tmp 76)), type := 4, pos := "law.go:25", after := #[{ on := 27, ground := Ground.data }, { on := 24, ground := Ground.chain }], guard := none }) (v := ?_) rfl (by kernel_rfl) (by kernel_rfl) (by kernel_rfl) (fun _ _ _ h => h) (Or.inl ⟨by rfl, ?_⟩) hHeld ?_
 rotate_left
 ·intro w hSw; (try dsimp only at hSw); go_simp; try with_reducible rfl
 try simp only [Act.put, List.setIfInBounds_toArray, List.set_cons_zero, List.set_cons_succ]
 refine wpAnyH_take (i := 29) (oi := { dst := (some 78), op := (Op.move (Operand.tmp 10)), type := 27, pos := "law.go:25", after := #[{ on := 28, ground := Ground.guard }], guard := (some (28, true)) }) (v := ?_) rfl (by kernel_rfl) (by kernel_rfl) (by kernel_rfl) (fun _ _ _ h => h) (Or.inl ⟨by rfl, ?_⟩) hHeld ?_
 rotate_left
 ·intro w hSw; (try dsimp only at hSw); go_simp; try with_reducible rfl
 try simp only [Act.put, List.setIfInBounds_toArray, List.set_cons_zero, List.set_cons_succ]
 refine wpAnyH_take (i := 30) (oi := { dst := (some 79), op := (Op.binOp BinOp.eql 27 (Operand.tmp 78) (Operand.const (Value.int IntKind.i64 9)) 27), type := 4, pos := "law.go:25", after := #[{ on := 29, ground := Ground.data }, { on := 28, ground := Ground.guard }], guard := (some (28, true)) }) (v := ?_) rfl (by kernel_rfl) (by kernel_rfl) (by kernel_rfl) (fun _ _ _ h => h) (Or.inl ⟨by rfl, ?_⟩) hHeld ?_
 rotate_left
 ·intro w hSw; (try dsimp only at hSw); go_simp; try with_reducible rfl
 try simp only [Act.put, List.setIfInBounds_toArray, List.set_cons_zero, List.set_cons_succ]
 refine wpAnyH_take (i := 31) (oi := { dst := (some 80), op := (Op.pick (Operand.tmp 77) (Operand.tmp 79) (Operand.const (Value.bool false))), type := 4, pos := "law.go:25", after := #[{ on := 28, ground := Ground.data }, { on := 30, ground := Ground.data }], guard := none }) (v := ?_) rfl (by kernel_rfl) (by kernel_rfl) (by kernel_rfl) (fun _ _ _ h => h) (Or.inl ⟨by rfl, ?_⟩) hHeld ?_
 rotate_left
 ·intro w hSw; (try dsimp only at hSw); go_simp; try with_reducible rfl
 try simp only [Act.put, List.setIfInBounds_toArray, List.set_cons_zero, List.set_cons_succ]
 refine wpAnyH_take (i := 32) (oi := { dst := (some 81), op := (Op.move (Operand.tmp 80)), type := 4, pos := "law.go:25", after := #[{ on := 31, ground := Ground.data }, { on := 28, ground := Ground.chain }], guard := none }) (v := ?_) rfl (by kernel_rfl) (by kernel_rfl) (by kernel_rfl) (fun _ _ _ h => h) (Or.inl ⟨by rfl, ?_⟩) hHeld ?_
 rotate_left
 ·intro w hSw; (try dsimp only at hSw); go_simp; try with_reducible rfl
 try simp only [Act.put, List.setIfInBounds_toArray, List.set_cons_zero, List.set_cons_succ]
 refine wpAnyH_take (i := 33) (oi := { dst := (some 82), op := (Op.move (Operand.tmp 12)), type := 27, pos := "law.go:25", after := #[{ on := 32, ground := Ground.guard }], guard := (some (32, true)) }) (v := ?_) rfl (by kernel_rfl) (by kernel_rfl) (by kernel_rfl) (fun _ _ _ h => h) (Or.inl ⟨by rfl, ?_⟩) hHeld ?_
 rotate_left
 ·intro w hSw; (try dsimp only at hSw); go_simp; try with_reducible rfl
 try simp only [Act.put, List.setIfInBounds_toArray, List.set_cons_zero, List.set_cons_succ]
 refine wpAnyH_take (i := 34) (oi := { dst := (some 83), op := (Op.binOp BinOp.eql 27 (Operand.tmp 82) (Operand.const (Value.int IntKind.i64 9)) 27), type := 4, pos := "law.go:25", after := #[{ on := 33, ground := Ground.data }, { on := 32, ground := Ground.guard }], guard := (some (32, true)) }) (v := ?_) rfl (by kernel_rfl) (by kernel_rfl) (by kernel_rfl) (fun _ _ _ h => h) (Or.inl ⟨by rfl, ?_⟩) hHeld ?_
 rotate_left
 ·intro w hSw; (try dsimp only at hSw); go_simp; try with_reducible rfl
 try simp only [Act.put, List.setIfInBounds_toArray, List.set_cons_zero, List.set_cons_succ]
 refine wpAnyH_take (i := 35) (oi := { dst := (some 84), op := (Op.pick (Operand.tmp 81) (Operand.tmp 83) (Operand.const (Value.bool false))), type := 4, pos := "law.go:25", after := #[{ on := 32, ground := Ground.data }, { on := 34, ground := Ground.data }], guard := none }) (v := ?_) rfl (by kernel_rfl) (by kernel_rfl) (by kernel_rfl) (fun _ _ _ h => h) (Or.inl ⟨by rfl, ?_⟩) hHeld ?_
 rotate_left
 ·intro w hSw; (try dsimp only at hSw); go_simp; try with_reducible rfl
 try simp only [Act.put, List.setIfInBounds_toArray, List.set_cons_zero, List.set_cons_succ]
 refine wpAnyH_take (i := 36) (oi := { dst := (some 0), op := (Op.assign (Operand.tmp 84)), type := 4, pos := "law.go:25", after := #[{ on := 35, ground := Ground.data }, { on := 32, ground := Ground.chain }, { on := 0, ground := Ground.phase }, { on := 1, ground := Ground.phase }, { on := 2, ground := Ground.phase }, { on := 3, ground := Ground.phase }, { on := 4, ground := Ground.phase }, { on := 5, ground := Ground.phase }, { on := 6, ground := Ground.phase }, { on := 7, ground := Ground.phase }, { on := 8, ground := Ground.phase }, { on := 9, ground := Ground.phase }, { on := 10, ground := Ground.phase }, { on := 11, ground := Ground.phase }, { on := 12, ground := Ground.phase }, { on := 13, ground := Ground.phase }, { on := 14, ground := Ground.phase }, { on := 15, ground := Ground.phase }, { on := 16, ground := Ground.phase }, { on := 17, ground := Ground.phase }, { on := 18, ground := Ground.phase }, { on := 19, ground := Ground.phase }, { on := 20, ground := Ground.phase }, { on := 21, ground := Ground.phase }, { on := 22, ground := Ground.phase }, { on := 23, ground := Ground.phase }, { on := 24, ground := Ground.phase }, { on := 25, ground := Ground.phase }, { on := 26, ground := Ground.phase }, { on := 27, ground := Ground.phase }, { on := 28, ground := Ground.phase }, { on := 29, ground := Ground.phase }, { on := 30, ground := Ground.phase }, { on := 31, ground := Ground.phase }, { on := 32, ground := Ground.phase }, { on := 33, ground := Ground.phase }, { on := 34, ground := Ground.phase }, { on := 35, ground := Ground.phase }], guard := none }) (v := ?_) rfl (by kernel_rfl) (by kernel_rfl) (by kernel_rfl) (fun _ _ _ h => h) (Or.inl ⟨by rfl, ?_⟩) hHeld ?_
 rotate_left
 ·intro w hSw; (try dsimp only at hSw); go_simp; try with_reducible rfl
 try simp only [Act.put, List.setIfInBounds_toArray, List.set_cons_zero, List.set_cons_succ]
 refine wpAnyH_done (by kernel_rfl) ?_ _
 go_wp2_with fail
 go_ret
 exact ⟨rfl, q20 HB17.out (HQ.out _ hHeld)⟩
end Go.Proofs.Yteogfjhmjlelnaa.G
namespace Go.Proofs.Yteogfjhmjlelnaa.B
open Go.RowKit Go.Proofs.YteogfjhmjlelnaaW.PrintWords Go.Proofs.YteogfjhmjlelnaaW.PrintLast Go.Proofs.YteogfjhmjlelnaaW.PrintMore
structure Opens {α : Type} (P : Program) (n : Nat) (t : TypeId) (d : Kd α) (wf : α → Prop) : Prop where
  out : ∀ {H : Type} (enc : TypeId × Value → H) (w : World) (base : Nat) (spare : Nat → Bool) (held : Bool) (fuel : Nat) (cs : List Value) (x : DataW H × List MemPlace),
    fuel ≤ n → DataW.trod enc P w base spare held fuel t cs = some x → ∃ a, d.K w a cs ∧ wf a
section
variable {α β : Type} {P : Program} {n m : Nat} {t e : TypeId} {d : Kd α} {d' : Kd β} {wf wf' : α → Prop} {wfb : β → Prop}
theorem Opens.imp (h : Opens P n t d wf) (hi : ∀ a, wf a → wf' a) : Opens P n t d wf' :=
  ⟨fun enc w base spare held fuel cs x hf ht => let ⟨a, h1, h2⟩ := h.out enc w base spare held fuel cs x hf ht; ⟨a, h1, hi a h2⟩⟩
theorem Opens.int {k : IntKind} (hu : P.underlying t = some (.int k)) (n : Nat) : Opens P n t (Kd.int k) (fun x => (Lit.int k x).wf = true) := by
  constructor
  intro H enc w base spare held fuel cs x _ h
  obtain ⟨z, rfl, _, hz⟩ := DataW.trod_int hu h
  exact ⟨z, rfl, hz⟩
theorem Opens.bool (hu : P.underlying t = some .bool) (n : Nat) : Opens P n t Kd.bool (fun _ => True) := by
  constructor
  intro H enc w base spare held fuel cs x _ h
  obtain ⟨z, rfl, _⟩ := DataW.trod_bool hu h
  exact ⟨z, rfl, trivial⟩
theorem add_add (a : Addr) (i j : Nat) : (a.add i).add j = a.add (i + j) := by
  unfold Addr.add
  by_cases hj : j = 0
  · simp [hj]
  · by_cases hi : i = 0
    · simp [hi]
    · simp [hi, hj, Nat.add_assoc]
theorem list_of {p : Nat → α → Prop} : ∀ n, (∀ i, i < n → ∃ a, p i a) → ∃ l : List α, l.length = n ∧ ∀ i a, l[i]? = some a → p i a
  | 0, _ => ⟨[], rfl, fun i a h => by simp at h⟩
  | n + 1, h => by
    obtain ⟨l, hl, hp⟩ := list_of n (fun i hi => h i (by omega))
    obtain ⟨a, ha⟩ := h n (by omega)
    refine ⟨l ++ [a], by simp [hl], fun i b hb => ?_⟩
    rcases Nat.lt_or_ge i n with hi | hi
    · rw [List.getElem?_append_left (by omega)] at hb
      exact hp i b hb
    · have : i = n := by
        have := (List.getElem?_eq_some_iff.1 hb).1
        simp [hl] at this
        omega
      subst this
      have hb' : a = b := by simpa [← hl] using hb
      rw [← hb']
      exact ha
theorem Opens.slice (hu : P.underlying t = some (.slice e)) (hsz : P.cellsOf e = d.sz) (h : Opens P n e d wf) : Opens P (n + 1) t (Kd.slice e d) (fun l => ∀ x ∈ l, wf x) := by
  constructor
  intro H enc w base spare held fuel cs x hf ht
  rcases DataW.trod_slice hu ht with ⟨rfl, _⟩ | ⟨a, len, cap, elems, rest, m, rfl, rfl, _, hb, hl, hm, hlen, hel, _⟩
  · exact ⟨[], ⟨none, 0, rfl, Nat.le_refl _, Kd.C_nil d w⟩, by simp⟩
  · have h1 : ∀ i, i < len → ∃ a' : α, wf a' ∧ ∃ c : List Value, c.length = d.sz ∧ d.K w a' c ∧ ∀ j u, c[j]? = some u → w.cell? (a.add (i * d.sz + j)) = some u := by
      intro i hi
      have he := hel i hi
      rw [List.getElem?_eq_getElem (by omega)] at he
      obtain ⟨c, hc, ht2⟩ := Option.bind_eq_some_iff.1 he
      obtain ⟨a', hK, hw⟩ := h.out enc w base spare held m c _ (by omega) ht2
      rw [hsz] at hc
      obtain ⟨_, hcl, hcc⟩ := World.cells?_some hc
      refine ⟨a', hw, c, hcl, hK, fun j u hj => ?_⟩
      have hjl : j < d.sz := by
        have := (List.getElem?_eq_some_iff.1 hj).1
        omega
      have := hcc j hjl
      rw [add_add] at this
      rw [this, hj]
    obtain ⟨l, hll, hp⟩ := list_of (p := fun i a' => wf a' ∧ ∃ c : List Value, c.length = d.sz ∧ d.K w a' c ∧ ∀ j u, c[j]? = some u → w.cell? (a.add (i * d.sz + j)) = some u) len h1
    refine ⟨l, ⟨some a, cap, by rw [hll], by omega, ⟨rfl, by rw [hll]; unfold maxLen at hm; omega, fun _ => ⟨a, rfl, fun j p hj => ?_⟩⟩⟩, fun x hx => ?_⟩
    · obtain ⟨_, c, h2, h3, h4⟩ := hp j p hj
      exact ⟨c, h2, h3, h4⟩
    · obtain ⟨i, hi⟩ := List.getElem?_of_mem hx
      exact (hp i x hi).1
structure OpensF {α : Type} (P : Program) (n : Nat) (fs : List Field) (o : Nat) (d : Kd α) (wf : α → Prop) : Prop where
  out : ∀ {H : Type} (enc : TypeId × Value → H) (w : World) (base : Nat) (spare : Nat → Bool) (held : Bool) (fuel : Nat) (cs : List Value) (xs : List (DataW H × List MemPlace)),
    fuel ≤ n → (fs.mapM fun f => DataW.trod enc P w base spare held fuel f.type ((cs.drop f.offset).take (P.cellsOf f.type))) = some xs → ∃ a, d.K w a ((cs.drop o).take d.sz) ∧ wf a
theorem OpensF.one {f : Field} (hs : P.cellsOf f.type = d.sz) (h : Opens P n f.type d wf) : OpensF P n [f] f.offset d wf := by
  constructor
  intro H enc w base spare held fuel cs xs hf ht
  cases h1 : DataW.trod enc P w base spare held fuel f.type ((cs.drop f.offset).take (P.cellsOf f.type)) with
  | none => simp [h1] at ht
  | some y =>
    rw [hs] at h1
    exact h.out enc w base spare held fuel _ y hf h1
theorem OpensF.cons {f : Field} {fs : List Field} (hs : P.cellsOf f.type = d.sz) (h : Opens P n f.type d wf) (hr : OpensF P n fs (f.offset + d.sz) d' wfb) : OpensF P n (f :: fs) f.offset (Kd.pair d d') (fun x => wf x.1 ∧ wfb x.2) := by
  constructor
  intro H enc w base spare held fuel cs xs hf ht
  rw [List.mapM_cons] at ht
  cases h1 : DataW.trod enc P w base spare held fuel f.type ((cs.drop f.offset).take (P.cellsOf f.type)) with
  | none => simp [h1] at ht
  | some y =>
    cases h2 : (fs.mapM fun f => DataW.trod enc P w base spare held fuel f.type ((cs.drop f.offset).take (P.cellsOf f.type))) with
    | none => simp [h1, h2] at ht
    | some ys =>
      rw [hs] at h1
      obtain ⟨a, ha, hw⟩ := h.out enc w base spare held fuel _ y hf h1
      obtain ⟨b, hb, hwb⟩ := hr.out enc w base spare held fuel cs ys hf h2
      refine ⟨(a, b), ⟨_, _, ?_, ha, hb⟩, hw, hwb⟩
      show (cs.drop f.offset).take (d.sz + d'.sz) = _
      rw [List.take_add, List.drop_drop]
theorem Opens.struct {fs : Array Field} {f : β → α} (g : α → β) (hg : ∀ a, f (g a) = a) (hu : P.underlying t = some (.struct fs)) (hs : P.cellsOf t = d.sz) (h : OpensF P n fs.toList 0 d wf) : Opens P (n + 1) t (Kd.iso d f) (fun b => ∃ a, b = g a ∧ wf a) := by
  constructor
  intro H enc w base spare held fuel cs x hf ht
  cases fuel with
  | zero => simp [DataW.trod] at ht
  | succ fuel =>
    have hlen : cs.length = P.cellsOf t := by
      obtain ⟨_, _, _, _, h4, _⟩ := DataW.trod_struct hu ht
      exact h4
    have hm : ∃ xs, (fs.toList.mapM fun f => DataW.trod enc P w base spare held fuel f.type ((cs.drop f.offset).take (P.cellsOf f.type))) = some xs := by
      unfold DataW.trod at ht
      rw [hu] at ht
      simp only [hlen, if_true] at ht
      obtain ⟨xs, hxs, _⟩ := Option.map_eq_some_iff.1 ht
      exact ⟨xs, hxs⟩
    obtain ⟨xs, hxs⟩ := hm
    obtain ⟨a, ha, hw⟩ := h.out enc w base spare held fuel cs xs (by omega) hxs
    refine ⟨g a, ?_, a, rfl, hw⟩
    show d.K w (f (g a)) cs
    rw [hg]
    have : (cs.drop 0).take d.sz = cs := by rw [List.drop_zero, ← hs, ← hlen, List.take_length]
    rw [this] at ha
    exact ha
end
end Go.Proofs.Yteogfjhmjlelnaa.B
set_option linter.unusedVariables false
set_option linter.unusedSimpArgs false
namespace Go.Proofs.Yteogfjhmjlelnaa.G
open Go.RowKit Go.Proofs.Yteogfjhmjlelnaa.B Go.Proofs.YteogfjhmjlelnaaW.PrintWords Go.Proofs.YteogfjhmjlelnaaW.PrintLast Go.Proofs.YteogfjhmjlelnaaW.PrintMore
def tupV (x : Vl) : Int × Int × Int := (x.n, x.b, x.f)
def wfV (x : Vl) : Prop := (Lit.int .i64 x.n).wf = true ∧ (Lit.int .i64 x.b).wf = true ∧ (Lit.int .i64 x.f).wf = true
theorem opens23 (n : Nat) : Opens Try.prog (n + 3) 23 (Kd.iso (Kd.pair (Kd.int .i64) (Kd.pair (Kd.int .i64) (Kd.int .i64))) tupV) wfV := by
  have hF := OpensF.cons (f := { name := "N", type := 2, offset := 0, embedded := false, tag := "", pkgPath := "", byteOffset := 0 }) (by kernel_rfl) (Opens.int Try.underlying2 (n + 2)) (OpensF.cons (f := { name := "Block", type := 3, offset := 1, embedded := false, tag := "", pkgPath := "", byteOffset := 8 }) (by kernel_rfl) (Opens.int Try.underlying3 (n + 2)) (OpensF.one (f := { name := "Frag", type := 3, offset := 2, embedded := false, tag := "", pkgPath := "", byteOffset := 16 }) (by kernel_rfl) (Opens.int Try.underlying3 (n + 2))))
  have h := Opens.struct (f := tupV) (fun y => ⟨y.1, y.2.1, y.2.2⟩) (fun _ => rfl) Try.underlying23 (by kernel_rfl) hF
  refine Opens.imp h ?_
  rintro b ⟨a, rfl, h0, h1, h2⟩
  exact ⟨h0, h1, h2⟩
end Go.Proofs.Yteogfjhmjlelnaa.G
set_option linter.unusedVariables false
set_option linter.unusedSimpArgs false
namespace Go.Proofs.Yteogfjhmjlelnaa.G
open Go.RowKit Go.Proofs.Yteogfjhmjlelnaa.B Go.Proofs.YteogfjhmjlelnaaW.PrintWords Go.Proofs.YteogfjhmjlelnaaW.PrintLast Go.Proofs.YteogfjhmjlelnaaW.PrintMore
structure Dd where
  kind : Int
  size : Int
  zero : Bool
  p : Vl
  q : Vl
  n : Int
def zD : Dd := ⟨0, 0, false, ⟨0, 0, 0⟩, ⟨0, 0, 0⟩, 0⟩
def tupD (x : Dd) : Int × Int × Bool × Vl × Vl × Int := (x.kind, x.size, x.zero, x.p, x.q, x.n)
def kV : Kd Vl := Kd.iso (Kd.pair (Kd.int .i64) (Kd.pair (Kd.int .i64) (Kd.int .i64))) tupV
def kD : Kd Dd := Kd.iso (Kd.pair (Kd.int .i64) (Kd.pair (Kd.int .i64) (Kd.pair Kd.bool (Kd.pair kV (Kd.pair kV (Kd.int .i64)))))) tupD
def wfD (x : Dd) : Prop := (Lit.int .i64 x.kind).wf = true ∧ (Lit.int .i64 x.size).wf = true ∧ wfV x.p ∧ wfV x.q ∧ (Lit.int .i64 x.n).wf = true
def cellsD (x : Dd) : List Value := [.int .i64 x.kind, .int .i64 x.size, .bool x.zero, .int .i64 x.p.n, .int .i64 x.p.b, .int .i64 x.p.f, .int .i64 x.q.n, .int .i64 x.q.b, .int .i64 x.q.f, .int .i64 x.n]
theorem kD_open {w : World} {x : Dd} {cs : List Value} (h : kD.K w x cs) : cs = cellsD x := by
  obtain ⟨_, _, rfl, rfl, ⟨_, _, rfl, rfl, ⟨_, _, rfl, rfl, ⟨_, _, rfl, ⟨_, _, rfl, rfl, ⟨_, _, rfl, rfl, rfl⟩⟩, ⟨_, _, rfl, ⟨_, _, rfl, rfl, ⟨_, _, rfl, rfl, rfl⟩⟩, rfl⟩⟩⟩⟩⟩ := h
  exact rfl
def rd_D (xs : List Dd) (i : Nat) : Dd := xs.getD i zD
theorem at_D {w : World} {A : Option Addr} {n : Nat} {xs : List Dd} (h : Kd.C kD w A n xs) (i : Nat) (h1 : (i : Int) < n) : ∃ ad, A = some ad ∧ w.cell? (ad.add (i * 10)) = some (.int .i64 (rd_D xs i).kind) ∧ ∀ j v, (cellsD (rd_D xs i))[j]? = some v → 0 < j → w.cell? ⟨(ad.add (i * 10)).block, (ad.add (i * 10)).off + j, none⟩ = some v := by
  obtain ⟨ad, c, e, _, hK, hc0⟩ := Kd.C_get h zD (i : Int) (by omega) h1
  have hc : ∀ j u, c[j]? = some u → w.cell? (ad.add (i * 10 + j)) = some u := hc0
  obtain rfl := kD_open hK
  exact ⟨ad, e, hc 0 _ rfl, fun j v hv hj => by rw [← add_field _ _ j hj]; exact hc j _ hv⟩
theorem opensD (n : Nat) : Opens Try.prog (n + 4) 55 kD wfD := by
  have hF := OpensF.cons (f := { name := "Kind", type := 3, offset := 0, embedded := false, tag := "", pkgPath := "", byteOffset := 0 }) (by kernel_rfl) (Opens.int Try.underlying3 (n + 3)) (OpensF.cons (f := { name := "Size", type := 3, offset := 1, embedded := false, tag := "", pkgPath := "", byteOffset := 8 }) (by kernel_rfl) (Opens.int Try.underlying3 (n + 3)) (OpensF.cons (f := { name := "Zero", type := 4, offset := 2, embedded := false, tag := "", pkgPath := "", byteOffset := 16 }) (by kernel_rfl) (Opens.bool Try.underlying4 (n + 3)) (OpensF.cons (f := { name := "P", type := 23, offset := 3, embedded := false, tag := "", pkgPath := "", byteOffset := 24 }) (d := kV) (by kernel_rfl) (opens23 n) (OpensF.cons (f := { name := "Q", type := 23, offset := 6, embedded := false, tag := "", pkgPath := "", byteOffset := 48 }) (d := kV) (by kernel_rfl) (opens23 n) (OpensF.one (f := { name := "N", type := 2, offset := 9, embedded := false, tag := "", pkgPath := "", byteOffset := 72 }) (by kernel_rfl) (Opens.int Try.underlying2 (n + 3)))))))
  have h := Opens.struct (f := tupD) (fun y => ⟨y.1, y.2.1, y.2.2.1, y.2.2.2.1, y.2.2.2.2.1, y.2.2.2.2.2⟩) (fun _ => rfl) Try.underlying55 (by kernel_rfl) hF
  refine Opens.imp h ?_
  rintro b ⟨a, rfl, h0, h1, _, h2, h3, h4⟩
  exact ⟨h0, h1, h2, h3, h4⟩
theorem open51 {H : Type} {enc : TypeId × Value → H} {W : World} {base : Nat} {spare : Nat → Bool} {held : Bool} {v : Value} {d : DataW H} {p : List MemPlace} (hv : Value.okWide Try.prog W .any base 51 v) (h : DataW.Trod enc Try.prog W 0 spare held 51 v d p) :
    ∃ (x : List Dd) (A : Option Addr) (c : Nat), v = .slice A x.length c ∧ x.length ≤ c ∧ Kd.C kD W A x.length x ∧ ∀ n ∈ x, wfD n := by
  have hsl : ∃ A l c, v = .slice A l c := by
    unfold Value.okWide at hv
    rw [Try.underlying51] at hv
    cases v <;> first | exact ⟨_, _, _, rfl⟩ | (exfalso; simp [Cell.okWide, Cell.ok, Try.underlying51] at hv)
  obtain ⟨A, l, c, rfl⟩ := hsl
  obtain ⟨fuel, hf⟩ := h
  obtain ⟨x, hK, hw⟩ := (Opens.slice (d := kD) Try.underlying51 (by kernel_rfl) (opensD fuel)).out enc W 0 spare held fuel _ _ (by omega) hf
  obtain ⟨A', c', he, hl, hC⟩ := hK
  injection he with he _
  injection he with h1 h2 h3
  subst h1
  subst h2
  subst h3
  exact ⟨x, _, _, rfl, hl, hC, hw⟩
end Go.Proofs.Yteogfjhmjlelnaa.G
set_option linter.unusedVariables false
set_option linter.unusedSimpArgs false
namespace Go.Proofs.Yteogfjhmjlelnaa.G
open Go.RowKit Go.Proofs.Yteogfjhmjlelnaa.B Go.Proofs.YteogfjhmjlelnaaW.PrintWords Go.Proofs.YteogfjhmjlelnaaW.PrintLast Go.Proofs.YteogfjhmjlelnaaW.PrintMore
set_option maxRecDepth 100000 in
set_option maxHeartbeats 8000000 in
theorem fill_calls {w : World} {gm : Nat} {gs : List Nat} {s : List Mb} (h : Holds w gm gs s) (p v n : Vl) :
  Calls Try.prog 19 #[.pointer (some ⟨gm, 0, none⟩), p.agg, v.agg, n.agg] w fun e w' => e = .returned (.int .i64 (fillS s p v n).2) ∧ Holds w' gm gs (fillS s p v n).1 ∧ Fr w w' gm gs := by
 have HH := Aside0.mk h
 have HB := Aside0.mk (q10 (q10 (q10 (Below.refl w.heap.size w) (.cells #[.int .i64 p.n, .int .i64 p.b, .int .i64 p.f] 23)) (.cells #[.int .i64 v.n, .int .i64 v.b, .int .i64 v.f] 23)) (.cells #[.int .i64 n.n, .int .i64 n.b, .int .i64 n.f] 23))
 have hX := Aside0.mk (q12 (q12 (q33 w (.cells #[.int .i64 p.n, .int .i64 p.b, .int .i64 p.f] 23)) (.cells #[.int .i64 v.n, .int .i64 v.b, .int .i64 v.f] 23)) (.cells #[.int .i64 n.n, .int .i64 n.b, .int .i64 n.f] 23))
 have hY := Aside0.mk (q12 (q46 (W := w.alloc (.cells #[.int .i64 p.n, .int .i64 p.b, .int .i64 p.f] 23)) (n := w.heap.size + 1) (.cells #[.int .i64 v.n, .int .i64 v.b, .int .i64 v.f] 23) (by simp)) (.cells #[.int .i64 n.n, .int .i64 n.b, .int .i64 n.f] 23))
 have hZ := Aside0.mk (q46 (W := ((w.alloc (.cells #[.int .i64 p.n, .int .i64 p.b, .int .i64 p.f] 23)).alloc (.cells #[.int .i64 v.n, .int .i64 v.b, .int .i64 v.f] 23))) (n := w.heap.size + 2) (.cells #[.int .i64 n.n, .int .i64 n.b, .int .i64 n.f] 23) (by simp))
 clear h
 unfold Vl.agg
 generalize hR : fillS s p v n = R
 have HR := Aside0.mk hR
 clear hR
 go_enter Try.func19, Try.ntmps19
 go_upto_region 1 with (fail)
 generalize ((w.alloc (.cells #[.int .i64 p.n, .int .i64 p.b, .int .i64 p.f] 23)).alloc (.cells #[.int .i64 v.n, .int .i64 v.b, .int .i64 v.f] 23)).alloc (.cells #[.int .i64 n.n, .int .i64 n.b, .int .i64 n.f] 23) = W at HB hX hY hZ ⊢
 have hx := cell3 hX.out
 have hy := cell3 hY.out
 have hz := cell3 hZ.out
 go_upto_region 2 with (first | (go_at_call 37; refine ((HH.out.below HB.out).part p n.n).mono ?_; rintro e w1 ⟨A1, N1, ok1, rfl, hok1, hA1, hb1⟩; have HO1 := Aside0.mk hok1; have HA1 := Aside0.mk hA1; clear hok1 hA1))
 have HY1 := Aside0.mk (q19 hY.out hb1)
 have HZ1 := Aside0.mk (q19 hZ.out hb1)
 have HB1 := Aside0.mk (q20 HB.out hb1)
 clear hx hX hY hy hZ hz hb1 HB
 have hy := cell3 HY1.out
 have hz := cell3 HZ1.out
 cases ok1 with
 | false =>
  go_wp2_with fail
  go_ret
  have hR : R = (s, 9) := by
   have := HR.out
   rw [← this]; unfold fillS
   have h1 := HO1.out
   cases hm : okS s p n.n with
   | none => rfl
   | some m => rw [hm] at h1; cases h1
  rw [hR]
  exact ⟨rfl, HH.out.below HB1.out, Fr.below HB1.out _ _⟩
 | true =>
  obtain ⟨m1, hm1⟩ : ∃ m, okS s p n.n = some m := Option.isSome_iff_exists.1 HO1.out.symm
  have HM1 := Aside0.mk hm1
  obtain ⟨hN1, hA1⟩ := HA1.out _ hm1
  have HN1 := Aside0.mk hN1
  have HA2 := Aside0.mk (hN1 ▸ hA1)
  clear hm1 hA1 hN1
  cases hv : (v.b == 0 && v.f == 0) with
  | false =>
   go_wp2_with (first | (go_at_call 33; refine (q38 ⟨_, _, _⟩ _).mono ?_; rintro e w2 ⟨rfl, hb2⟩; replace HY1 := Aside0.mk (q19 HY1.out hb2); replace HZ1 := Aside0.mk (q19 HZ1.out hb2); replace HB1 := Aside0.mk (q20 HB1.out hb2); clear hy hz; have hy := cell3 HY1.out; have hz := cell3 HZ1.out; clear hb2))
   go_ret
   have hR : R = (s, 9) := by
    have := HR.out
    rw [← this]; unfold fillS
    rw [HM1.out, hv]
    rfl
   rw [hR]
   exact ⟨rfl, HH.out.below HB1.out, Fr.below HB1.out _ _⟩
  | true =>
   cases hn : (n.b == 0 && n.f == 0) with
   | false =>
    go_wp2_with (first | (go_at_call 33; refine (q38 ⟨_, _, _⟩ _).mono ?_; rintro e w2 ⟨rfl, hb2⟩; replace HY1 := Aside0.mk (q19 HY1.out hb2); replace HZ1 := Aside0.mk (q19 HZ1.out hb2); replace HB1 := Aside0.mk (q20 HB1.out hb2); clear hy hz; have hy := cell3 HY1.out; have hz := cell3 HZ1.out; clear hb2))
    go_ret
    have hR : R = (s, 9) := by
     have := HR.out
     rw [← this]; unfold fillS
     rw [HM1.out, hv, hn]
     rfl
    rw [hR]
    exact ⟨rfl, HH.out.below HB1.out, Fr.below HB1.out _ _⟩
   | true =>
    have hR : R = (putS s p (List.replicate n.n.toNat ⟨1, v.n % 256, ⟨0, 0, 0⟩⟩), 0) := by
     have := HR.out
     rw [← this]; unfold fillS
     rw [HM1.out, hv, hn]
     rfl
    subst hR
    clear HR
    go_upto_block 0 with (first | (go_at_call 33; refine (q38 ⟨_, _, _⟩ _).mono ?_; rintro e w2 ⟨rfl, hb2⟩; replace HY1 := Aside0.mk (q19 HY1.out hb2); replace HZ1 := Aside0.mk (q19 HZ1.out hb2); replace HB1 := Aside0.mk (q20 HB1.out hb2); clear hy hz; have hy := cell3 HY1.out; have hz := cell3 HZ1.out; clear hb2))
    clear hy hz
    have HB3 := HB1
    have HY3 := HY1
    clear HB1 HY1 HZ1
    rename_i w3
    have s1 := q49 HM1.out
    have b1 := HH.out.bytes _ _ _ (get_of HH.out.len s1.2.2.2.2.2.1) s1.2.2.2.2.2.1
    have HBY := Aside0.mk (q19 b1.1 HB3.out)
    have HBN := Aside0.mk (q30 b1.1)
    have HSP := Aside0.mk s1
    clear b1 s1
    obtain ⟨g, hg⟩ : ∃ g, gs.getD (p.b.toNat - 1) 0 = g := ⟨_, rfl⟩
    have HG := Aside0.mk hg
    rw [hg] at HBY HBN HA2
    clear hg
    go_wp2_with fail
    go_loopw [34] (fun i wx => ∃ j : Nat, j ≤ N1 ∧ i = .int .i64 j ∧ Hid (Bytes wx g (over m1.l p.n.toNat (List.replicate j ⟨1, v.n % 256, ⟨0, 0, 0⟩⟩))) ∧ Hid (Kp w2 wx (· = g))) (fun i _ => N1 - (intOf i).toNat)
    case atStart => exact ⟨0, Nat.zero_le _, rfl, by show Bytes _ _ (over m1.l p.n.toNat []); rw [over_nil]; exact HBY.out, Kp.refl _ _⟩
    case round =>
     obtain ⟨j, hj, rfl, hb, hkp⟩ := hrel
     have hy := cell3 (blk_kp HY3.out hkp.out (by have := HBN.out; show ¬ (_ = _); omega))
     have hsp := HSP.out
     have hN1 := HN1.out
     by_cases hlt : j < N1
     ·have hA := HA2.out (by omega)
      subst hA
      have hqj : p.n.toNat + j < m1.l.length := by omega
      obtain ⟨y, hyy⟩ : ∃ y : Bt, (over m1.l p.n.toNat (List.replicate j ⟨1, v.n % 256, ⟨0, 0, 0⟩⟩))[p.n.toNat + j]? = some y := ⟨_, List.getElem?_eq_getElem (by rw [over_length (by rw [List.length_replicate]; omega)]; omega)⟩
      have hc := Bytes.at_ hb.out hyy
      have hf0 := q0 hb.out ((p.n.toNat + j) * 5)
      have hf1 := q0 hb.out ((p.n.toNat + j) * 5 + 1)
      have hf2 := q0 hb.out ((p.n.toNat + j) * 5 + 2)
      have hf3 := q0 hb.out ((p.n.toNat + j) * 5 + 3)
      have hf4 := q0 hb.out ((p.n.toNat + j) * 5 + 4)
      have HBB := Aside0.mk hb
      have HKP := Aside0.mk hkp
      have HQJ := Aside0.mk hqj
      have hjk : ((j : Int) < (N1 : Int)) := by omega
      have hwj : IntKind.i64.wrap ((j : Int) + 1) = (j : Int) + 1 := by rw [IntKind.wrap_i64]; omega
      rw [Nat.add_mul] at hc hf0 hf1 hf2 hf3 hf4
      clear hb hkp hsp hyy hqj hN1
      go_wp2_with fail
      go_roundw
      case rel => exact ⟨j + 1, by omega, by go_num, by show Bytes _ _ _; rw [List.replicate_succ']; exact HBB.out.put_over (List.length_replicate ..) HQJ.out ⟨1, v.n % 256, ⟨0, 0, 0⟩⟩, kp_put5 HKP.out rfl _ _ _ _ _ _ _ _ _ _⟩
      case measure => simp [intOf]; omega
     ·obtain hjN : j = N1 := by omega
      subst hjN
      have HBB := Aside0.mk hb
      have HKP := Aside0.mk hkp
      clear hy hsp hb hkp hN1
      go_wp2_with fail
      go_ret
      have hb := HBB.out
      have hk := HKP.out
      rw [← HG.out, HN1.out] at hb
      rw [← HG.out] at hk
      have := (HH.out.below HB3.out).put HM1.out (List.length_replicate ..) (fun x hx => by
       obtain ⟨_, rfl⟩ := List.mem_replicate.1 hx
       show 0 ≤ v.n % 256 ∧ v.n % 256 ≤ 255
       omega) hb hk
      exact ⟨rfl, this.1, (Fr.below HB3.out _ _).next this.2⟩
end Go.Proofs.Yteogfjhmjlelnaa.G
set_option linter.unusedVariables false
set_option linter.unusedSimpArgs false
namespace Go.Proofs.Yteogfjhmjlelnaa.G
open Go.RowKit Go.Proofs.Yteogfjhmjlelnaa.B Go.Proofs.YteogfjhmjlelnaaW.PrintWords Go.Proofs.YteogfjhmjlelnaaW.PrintLast Go.Proofs.YteogfjhmjlelnaaW.PrintMore
def Row (W : World) (b : Nat) (v : Value) (l : List Bt) : Prop := W.ownsRow b 42 5 v l.length (encB l)
theorem Row.form {W : World} {b : Nat} {v : Value} {l : List Bt} (h : Row W b v l) : ∃ A c, v = .slice A l.length c ∧ l.length ≤ 9223372036854775807 ∧ ∀ i x, l[i]? = some x → ∃ g, A = some ⟨g, 0, none⟩ ∧
    W.cell? ⟨g, i * 5, none⟩ = some (.int .i64 x.k) ∧ W.cell? ⟨g, i * 5 + 1, none⟩ = some (.int .u8 x.v) ∧ W.cell? ⟨g, i * 5 + 2, none⟩ = some (.int .i64 x.p.n) ∧ W.cell? ⟨g, i * 5 + 3, none⟩ = some (.int .i64 x.p.b) ∧ W.cell? ⟨g, i * 5 + 4, none⟩ = some (.int .i64 x.p.f) := by
  rcases h.2 with ⟨hv, h1⟩ | ⟨g, cap, cur, hv, hg, hh, hc, hm, hs, ht⟩
  · exact ⟨none, 0, by rw [hv, h1], by omega, fun i x hx => by have := (List.getElem?_eq_some_iff.1 hx).1; omega⟩
  · subst hv
    refine ⟨_, cap, rfl, by unfold maxLen at hm; omega, fun i x hx => ⟨g, rfl, ?_⟩⟩
    have hl := (List.getElem?_eq_some_iff.1 hx).1
    have hg : ∀ j u, x.cells[j]? = some u → W.cell? ⟨g, i * 5 + j, none⟩ = some u := fun j u hu => by
      have hj : j < 5 := by have := (List.getElem?_eq_some_iff.1 hu).1; simpa [Bt.cells] using this
      rw [World.ownsRow.cellAt h (i * 5 + j) (by omega)]
      exact encB_get hx hu
    exact ⟨hg 0 _ rfl, hg 1 _ rfl, hg 2 _ rfl, hg 3 _ rfl, hg 4 _ rfl⟩
theorem Row.below {W W' : World} {b : Nat} {v : Value} {l : List Bt} (h : Row W b v l) (hb : Below W.heap.size W W') : Row W' b v l :=
  own_move h (fun k hk => by obtain ⟨c, hc⟩ := q42 h k hk; exact hb.block k (q30 hc))
theorem Row.fr {W W' : World} {b gm : Nat} {gs : List Nat} {v : Value} {l : List Bt} (h : Row W b v l) (hH : ∀ k, RowOf W gm k → ∃ c fr, W.heap[k]? = some (.cells c 75 fr)) (hF : Fr W W' gm gs) (hm : gm < b) (hg : ∀ g ∈ gs, g < b) : Row W' b v l :=
  own_move h (fun k hk => by
    obtain ⟨c, hc⟩ := q42 h k hk
    have hb := own_base h k hk
    exact hF.block k (q30 hc) (Sof.typed hc (by omega) (fun hh => by have := hg k hh; omega) (by decide) hH))
theorem Holds.lt {w : World} {gm : Nat} {gs : List Nat} {s : List Mb} (h : Holds w gm gs s) : gm < w.heap.size ∧ ∀ g ∈ gs, g < w.heap.size := by
  obtain ⟨v, hM⟩ := h.mem
  refine ⟨q30 hM.box, fun g hg => ?_⟩
  obtain ⟨i, hi⟩ := List.mem_iff_getElem?.1 hg
  have hl := (List.getElem?_eq_some_iff.1 hi).1
  exact q30 (h.bytes i g _ hi (List.getElem?_eq_getElem (by rw [← h.len]; exact hl))).1
structure Live (w W : World) (gm : Nat) (gs : List Nat) (s : List Mb) : Prop where
  mine : Mine w.heap.size w W gm gs s
  size : w.heap.size ≤ W.heap.size
structure Keeps (W : World) (b : Nat) (v : Value) (l : List Bt) (gm : Nat) (gs : List Nat) : Prop where
  row : Row W b v l
  gm_lt : gm < b
  gs_lt : ∀ g ∈ gs, g < b
section
variable {w W W' : World} {gm : Nat} {gs : List Nat} {s : List Mb}
theorem Live.low (h : Live w W gm gs s) (hb : Below W.heap.size W W') : Live w W' gm gs s := ⟨h.mine.low h.size hb, Nat.le_trans h.size hb.size⟩
theorem Live.fr {gs' : List Nat} {s' : List Mb} (h : Live w W gm gs s) (hH : Holds W' gm gs' s') (hF : Fr W W' gm gs) : Live w W' gm gs' s' := ⟨h.mine.fr h.size hH hF, Nat.le_trans h.size hF.size⟩
theorem Live.below (h : Live w W gm gs s) : Below w.heap.size w W := h.mine.below
theorem Keeps.below {b : Nat} {v : Value} {l : List Bt} (h : Keeps W b v l gm gs) (hb : Below W.heap.size W W') : Keeps W' b v l gm gs := ⟨h.row.below hb, h.gm_lt, h.gs_lt⟩
theorem Keeps.fr {b : Nat} {v : Value} {l : List Bt} (h : Keeps W b v l gm gs) (hL : Live w W gm gs s) (hF : Fr W W' gm gs) : Keeps W' b v l gm gs := ⟨h.row.fr hL.mine.holds.rowty hF h.gm_lt h.gs_lt, h.gm_lt, h.gs_lt⟩
theorem Live.new (w : World) {w0 : World} (hb : Below w0.heap.size w0 w) : Calls Try.prog 11 #[] w fun e w' => e = .returned (.pointer (some ⟨w.heap.size, 0, none⟩)) ∧ Live w0 w' w.heap.size [] [] ∧ Below w.heap.size w w' :=
  (new_holds w).mono fun e w' ⟨h1, h2, h3⟩ => ⟨h1, ⟨⟨h2, q20 hb h3, hb.size⟩, Nat.le_trans hb.size h3.size⟩, h3⟩
theorem Live.alloc (h : Live w W gm gs s) (hs : s.length ≤ 2000) (site size : Int) (z : Bool) (r : List Mb × Int × Int) (hr : allocS s site size z = r) :
    Calls Try.prog 12 #[.pointer (some ⟨gm, 0, none⟩), .int .i64 site, .int .i64 size, .bool z] W fun e w' => e = .returned (.tuple #[.int .i64 r.2.1, .int .i64 r.2.2]) ∧ ∃ gs', Live w w' gm gs' r.1 ∧ Fr W w' gm gs := by
  subst hr
  exact (alloc_calls h.mine.holds hs site size z).mono fun e w' ⟨h1, gs', h2, h3, h4, h5⟩ => ⟨h1, gs', ⟨h.mine.fr h.size h2 h3, Nat.le_trans h.size h3.size⟩, h3⟩
theorem Live.box (h : Live w W gm gs s) {g : Nat} {c : Array Value} {fr : Nat × Nat} (hx : W.heap[g]? = some (.cells c 23 fr)) (hF : Fr W W' gm gs) : W'.heap[g]? = some (.cells c 23 fr) := by
  refine (hF.block g (q30 hx) (Sof.typed hx (fun he => ?_) (fun hg => ?_) (by decide) h.mine.holds.rowty)).trans hx
  · obtain ⟨v, hM⟩ := h.mine.holds.mem
    subst he
    have := hM.box
    rw [hx] at this
    injection this with this
    injection this with _ this
    exact absurd this (by decide)
  · have hH := h.mine.holds
    obtain ⟨i, hi⟩ := List.mem_iff_getElem?.1 hg
    have hl := (List.getElem?_eq_some_iff.1 hi).1
    have := (hH.bytes i g _ hi (List.getElem?_eq_getElem (by rw [← hH.len]; exact hl))).1
    rw [Bytes, hx] at this
    injection this with this
    injection this with _ this
    exact absurd this (by decide)
theorem Live.load (h : Live w W gm gs s) (p : Vl) (k : Int) (r : Vl × Int) (hr : loadS s p k = r) :
    Calls Try.prog 14 #[.pointer (some ⟨gm, 0, none⟩), .agg #[.int .i64 p.n, .int .i64 p.b, .int .i64 p.f], .int .i64 k] W fun e w' => e = .returned (.tuple #[.agg #[.int .i64 r.1.n, .int .i64 r.1.b, .int .i64 r.1.f], .int .i64 r.2]) ∧ Live w w' gm gs s ∧ Below W.heap.size W w' :=
  (load_tell h.mine.holds p k r hr).mono fun e w' ⟨h1, h2⟩ => ⟨h1, h.low h2, h2⟩
theorem Live.store (h : Live w W gm gs s) (p : Vl) (k : Int) (x : Vl) (r : List Mb × Int) (hr : storeS s p k x = r) :
    Calls Try.prog 16 #[.pointer (some ⟨gm, 0, none⟩), .agg #[.int .i64 p.n, .int .i64 p.b, .int .i64 p.f], .int .i64 k, .agg #[.int .i64 x.n, .int .i64 x.b, .int .i64 x.f]] W fun e w' => e = .returned (.int .i64 r.2) ∧ Live w w' gm gs r.1 ∧ Fr W w' gm gs :=
  (store_tell h.mine.holds p k x r hr).mono fun e w' ⟨h1, h2, h3⟩ => ⟨h1, h.fr h2 h3, h3⟩
theorem Live.copy (h : Live w W gm gs s) (p q : Vl) (n : Int) (r : List Mb × Int) (hr : copyS s p q n = r) :
    Calls Try.prog 18 #[.pointer (some ⟨gm, 0, none⟩), .agg #[.int .i64 p.n, .int .i64 p.b, .int .i64 p.f], .agg #[.int .i64 q.n, .int .i64 q.b, .int .i64 q.f], .int .i64 n] W fun e w' => e = .returned (.int .i64 r.2) ∧ Live w w' gm gs r.1 ∧ Fr W w' gm gs := by
  subst hr
  exact (copy_calls h.mine.holds p q n).mono fun e w' ⟨h1, h2, h3⟩ => ⟨h1, h.fr h2 h3, h3⟩
theorem Live.fill (h : Live w W gm gs s) (p v n : Vl) (r : List Mb × Int) (hr : fillS s p v n = r) :
    Calls Try.prog 19 #[.pointer (some ⟨gm, 0, none⟩), .agg #[.int .i64 p.n, .int .i64 p.b, .int .i64 p.f], .agg #[.int .i64 v.n, .int .i64 v.b, .int .i64 v.f], .agg #[.int .i64 n.n, .int .i64 n.b, .int .i64 n.f]] W fun e w' => e = .returned (.int .i64 r.2) ∧ Live w w' gm gs r.1 ∧ Fr W w' gm gs := by
  subst hr
  exact (fill_calls h.mine.holds p v n).mono fun e w' ⟨h1, h2, h3⟩ => ⟨h1, h.fr h2 h3, h3⟩
theorem Live.end_ (h : Live w W gm gs s) (n : Int) (r : List Mb × Int) (hr : endS s n = r) :
    Calls Try.prog 21 #[.pointer (some ⟨gm, 0, none⟩), .int .i64 n] W fun e w' => e = .returned (.int .i64 r.2) ∧ Live w w' gm gs r.1 ∧ Fr W w' gm gs := by
  subst hr
  exact (end_calls h.mine.holds n).mono fun e w' ⟨h1, h2, h3⟩ => ⟨h1, h.fr h2 h3, h3⟩
theorem Live.block (h : Live w W gm gs s) (n : Int) (r : Int × Int × Bool) (hr : blockS s n = r) :
    Calls Try.prog 20 #[.pointer (some ⟨gm, 0, none⟩), .int .i64 n] W fun e w' => e = .returned (.tuple #[.int .i64 r.1, .int .i64 r.2.1, .bool r.2.2]) ∧ Live w w' gm gs s ∧ Below W.heap.size W w' := by
  subst hr
  exact (block_calls h.mine.holds n).mono fun e w' ⟨h1, h2⟩ => ⟨h1, h.low h2, h2⟩
theorem Live.bytes (h : Live w W gm gs s) (n : Int) (l : List Bt) (hr : bytesS s n = l) :
    Calls Try.prog 17 #[.pointer (some ⟨gm, 0, none⟩), .int .i64 n] W fun e w' => ∃ A c, e = .returned (.slice A l.length c) ∧ Live w w' gm gs s ∧ Keeps w' W.heap.size (.slice A l.length c) l gm gs ∧ Below W.heap.size W w' := by
  subst hr
  refine (bytes_calls h.mine.holds n).mono fun e w' ⟨v, h1, h2, h3⟩ => ?_
  obtain ⟨A, c, rfl⟩ := own_form h2
  exact ⟨A, c, h1, h.low h3, ⟨h2, h.mine.holds.lt.1, h.mine.holds.lt.2⟩, h3⟩
end
end Go.Proofs.Yteogfjhmjlelnaa.G
set_option linter.unusedVariables false
set_option linter.unusedSimpArgs false
namespace Go.Proofs.Yteogfjhmjlelnaa.G
open Go.RowKit Go.Proofs.Yteogfjhmjlelnaa.B Go.Proofs.YteogfjhmjlelnaaW.PrintWords Go.Proofs.YteogfjhmjlelnaaW.PrintLast Go.Proofs.YteogfjhmjlelnaaW.PrintMore
def Well (v : Vl) : Prop := 0 ≤ v.b ∧ 0 ≤ v.f ∧ v.f ≤ 8 ∧ (0 < v.b ∨ v.f = 0)
theorem well_yes (v : Vl) (w : World) (h : Well v) : Calls Try.prog 13 #[.agg #[.int .i64 v.n, .int .i64 v.b, .int .i64 v.f]] w fun e w' => e = .returned (.bool true) ∧ Below w.heap.size w w' := by
  have HB := Aside0.mk (q10 (Below.refl w.heap.size w) (.cells #[.int .i64 v.n, .int .i64 v.b, .int .i64 v.f] 23))
  have HX := Aside0.mk (q33 w (.cells #[.int .i64 v.n, .int .i64 v.b, .int .i64 v.f] 23))
  obtain ⟨h1, h2, h3, h4⟩ := h
  by_cases h5 : 0 < v.b
  · have hx := cell3 HX.out
    clear h4
    go_enter Try.func13, Try.ntmps13
    go_wp2_with fail
    go_ret
    exact ⟨rfl, HB.out⟩
  · have h6 : v.f = 0 := by omega
    have h7 : (v.f == 0) = true := by simp [h6]
    have h8 : v.b ≤ 0 := by omega
    have hx := cell3 HX.out
    clear h4 h6
    go_enter Try.func13, Try.ntmps13
    go_wp2_with fail
    go_ret
    exact ⟨rfl, HB.out⟩
theorem well_no (v : Vl) (w : World) (h : ¬ Well v) : Calls Try.prog 13 #[.agg #[.int .i64 v.n, .int .i64 v.b, .int .i64 v.f]] w fun e w' => e = .returned (.bool false) ∧ Below w.heap.size w w' := by
  have HB := Aside0.mk (q10 (Below.refl w.heap.size w) (.cells #[.int .i64 v.n, .int .i64 v.b, .int .i64 v.f] 23))
  have HX := Aside0.mk (q33 w (.cells #[.int .i64 v.n, .int .i64 v.b, .int .i64 v.f] 23))
  have hx := cell3 HX.out
  by_cases h1 : 0 ≤ v.b
  · by_cases h2 : 0 ≤ v.f
    · by_cases h3 : v.f ≤ 8
      · by_cases h5 : 0 < v.b
        · exact absurd ⟨h1, h2, h3, .inl h5⟩ h
        · have h8 : v.b ≤ 0 := by omega
          have h7 : (v.f == 0) = false := beq_eq_false_iff_ne.mpr (fun he => h ⟨h1, h2, h3, .inr he⟩)
          clear h h5
          go_enter Try.func13, Try.ntmps13
          go_wp2_with fail
          go_ret
          exact ⟨ret_bool (by simpa using h8), HB.out⟩
      · have h3' : 8 < v.f := by omega
        clear h h3
        go_enter Try.func13, Try.ntmps13
        go_wp2_with fail
        go_ret
        exact ⟨rfl, HB.out⟩
    · have h3' : v.f < 0 := by omega
      clear h h2
      go_enter Try.func13, Try.ntmps13
      go_wp2_with fail
      go_ret
      exact ⟨rfl, HB.out⟩
  · have h3' : v.b < 0 := by omega
    clear h h1
    go_enter Try.func13, Try.ntmps13
    go_wp2_with fail
    go_ret
    exact ⟨rfl, HB.out⟩
end Go.Proofs.Yteogfjhmjlelnaa.G
namespace Go.Proofs.Yteogfjhmjlelnaa.H
open Go.RowKit Go.Proofs.YteogfjhmjlelnaaW.PrintWords Go.Proofs.YteogfjhmjlelnaaW.PrintLast Go.Proofs.YteogfjhmjlelnaaW.PrintMore
attribute [local go_sem] max2_int min2_int max_two min_two max_three min_three max_four min_four
set_option linter.unusedVariables false
set_option linter.unusedSimpArgs false
def errW : Option Int → Value
  | none => .nilIface
  | some c => .iface 0 (.int .i64 c)
theorem q26 : errW none = .nilIface := rfl
theorem q25 (c : Int) : errW (some c) = .iface 0 (.int .i64 c) := rfl
theorem info42 : (Try.prog.info? 42).map (fun i => (i.zero, i.size, i.bytes)) = some (some (.agg #[(.int .i64 0), (.int .u8 0), (.int .i64 0), (.int .i64 0), (.int .i64 0)]), 5, 40) := by kernel_rfl
theorem info69 : (Try.prog.info? 69).map (fun i => (i.zero, i.size, i.bytes)) = some (some (.agg #[(.int .i64 0), (.slice none 0 0), (.bool false)]), 3, 40) := by kernel_rfl
structure S23 where
  f0 : Int
  f1 : Int
  f2 : Int
def z23 : S23 := ⟨(0 : Int), (0 : Int), (0 : Int)⟩
def k23 : Kd S23 := Kd.iso (Kd.pair (Kd.int .i64) (Kd.pair (Kd.int .i64) (Kd.int .i64))) (fun x : S23 => (x.f0, x.f1, x.f2))
theorem k23_open {w : World} {x : S23} {cs : List Value} (h : k23.K w x cs) : cs = [.int .i64 x.f0, .int .i64 x.f1, .int .i64 x.f2] := by
  obtain ⟨_, _, rfl, rfl, ⟨_, _, rfl, rfl, rfl⟩⟩ := h
  exact rfl
theorem k23_openM {w : World} {base : Nat} {ok : Nat → Prop} {x : S23} {cs : List Value} (h : k23.M w base ok x cs) : cs = [.int .i64 x.f0, .int .i64 x.f1, .int .i64 x.f2] := by
  obtain ⟨_, _, rfl, rfl, ⟨_, _, rfl, rfl, rfl⟩⟩ := h
  exact rfl
theorem k23_mkM (w : World) (base : Nat) (ok : Nat → Prop) (x : S23)  : k23.M w base ok x [.int .i64 x.f0, .int .i64 x.f1, .int .i64 x.f2] := ⟨[.int .i64 x.f0], [.int .i64 x.f1, .int .i64 x.f2], rfl, rfl, ⟨[.int .i64 x.f1], [.int .i64 x.f2], rfl, rfl, rfl⟩⟩
structure S42 where
  f0 : Int
  f1 : Int
  f2 : S23
def z42 : S42 := ⟨(0 : Int), (0 : Int), z23⟩
def k42 : Kd S42 := Kd.iso (Kd.pair (Kd.int .i64) (Kd.pair (Kd.int .u8) k23)) (fun x : S42 => (x.f0, x.f1, x.f2))
theorem k42_open {w : World} {x : S42} {cs : List Value} (h : k42.K w x cs) : cs = [.int .i64 x.f0, .int .u8 x.f1, .int .i64 x.f2.f0, .int .i64 x.f2.f1, .int .i64 x.f2.f2] := by
  obtain ⟨_, _, rfl, rfl, ⟨_, _, rfl, rfl, s2⟩⟩ := h
  obtain rfl := k23_open s2
  exact rfl
theorem k42_openM {w : World} {base : Nat} {ok : Nat → Prop} {x : S42} {cs : List Value} (h : k42.M w base ok x cs) : cs = [.int .i64 x.f0, .int .u8 x.f1, .int .i64 x.f2.f0, .int .i64 x.f2.f1, .int .i64 x.f2.f2] := by
  obtain ⟨_, _, rfl, rfl, ⟨_, _, rfl, rfl, s2⟩⟩ := h
  obtain rfl := k23_openM s2
  exact rfl
theorem k42_mkM (w : World) (base : Nat) (ok : Nat → Prop) (x : S42)  : k42.M w base ok x [.int .i64 x.f0, .int .u8 x.f1, .int .i64 x.f2.f0, .int .i64 x.f2.f1, .int .i64 x.f2.f2] := ⟨[.int .i64 x.f0], [.int .u8 x.f1, .int .i64 x.f2.f0, .int .i64 x.f2.f1, .int .i64 x.f2.f2], rfl, rfl, ⟨[.int .u8 x.f1], [.int .i64 x.f2.f0, .int .i64 x.f2.f1, .int .i64 x.f2.f2], rfl, rfl, (k23_mkM w base ok x.f2 )⟩⟩
def q27 (xs : List S42) (i : Int) : S42 := xs.getD i.toNat z42
theorem at_T42 {w : World} {A : Option Addr} {n : Nat} {xs : List S42} (h : Kd.C k42 w A n xs) (i : Int) (h0 : 0 ≤ i) (h1 : i < n) : ∃ ad , A = some ad ∧ w.cell? (ad.add (i.toNat * 5)) = some (.int .i64 (q27 xs i).f0) ∧ w.cell? ⟨(ad.add (i.toNat * 5)).block, (ad.add (i.toNat * 5)).off + 1, none⟩ = some (.int .u8 (q27 xs i).f1) ∧ w.cell? ⟨(ad.add (i.toNat * 5)).block, (ad.add (i.toNat * 5)).off + 2, none⟩ = some (.int .i64 (q27 xs i).f2.f0) ∧ w.cell? ⟨(ad.add (i.toNat * 5)).block, (ad.add (i.toNat * 5)).off + 3, none⟩ = some (.int .i64 (q27 xs i).f2.f1) ∧ w.cell? ⟨(ad.add (i.toNat * 5)).block, (ad.add (i.toNat * 5)).off + 4, none⟩ = some (.int .i64 (q27 xs i).f2.f2) := by
  obtain ⟨ad, c, e, _, hK, hc0⟩ := Kd.C_get h z42 i h0 h1
  have hc : ∀ j u, c[j]? = some u → w.cell? (ad.add (i.toNat * 5 + j)) = some u := hc0
  obtain rfl := k42_open hK
  exact ⟨ad, e, hc 0 _ rfl, by rw [← add_field _ _ 1 (by omega)]; exact hc 1 _ rfl, by rw [← add_field _ _ 2 (by omega)]; exact hc 2 _ rfl, by rw [← add_field _ _ 3 (by omega)]; exact hc 3 _ rfl, by rw [← add_field _ _ 4 (by omega)]; exact hc 4 _ rfl⟩
structure S75 where
  f0 : Int
  f1 : (List S42)
  f2 : Bool
def k75 : Kd S75 := Kd.iso (Kd.pair (Kd.int .i64) (Kd.pair (Kd.slice 42 k42) Kd.bool)) (fun x : S75 => (x.f0, x.f1, x.f2))
structure S69 where
  f0 : Int
  f1 : (List S42)
  f2 : Bool
def z69 : S69 := ⟨(0 : Int), ([] : List S42), false⟩
def k69 : Kd S69 := Kd.iso (Kd.pair (Kd.int .i64) (Kd.pair (Kd.slice 42 k42) Kd.bool)) (fun x : S69 => (x.f0, x.f1, x.f2))
theorem k69_open {w : World} {x : S69} {cs : List Value} (h : k69.K w x cs) : ∃ A1 c1, cs = [.int .i64 x.f0, .slice A1 x.f1.length c1, .bool x.f2] ∧ x.f1.length ≤ c1 ∧ k42.C w A1 x.f1.length x.f1 := by
  obtain ⟨_, _, rfl, rfl, ⟨_, _, rfl, ⟨A1, c1, rfl, l1, g1⟩, rfl⟩⟩ := h
  exact ⟨A1, c1, rfl, l1, g1⟩
theorem k69_mk (w : World) (x : S69) {A1 : Option Addr} {c1 : Nat} (l1 : x.f1.length ≤ c1) (g1 : k42.C w A1 x.f1.length x.f1) : k69.K w x [.int .i64 x.f0, .slice A1 x.f1.length c1, .bool x.f2] := ⟨[.int .i64 x.f0], [.slice A1 x.f1.length c1, .bool x.f2], rfl, rfl, ⟨[.slice A1 x.f1.length c1], [.bool x.f2], rfl, ⟨A1, c1, rfl, l1, g1⟩, rfl⟩⟩
theorem k69_openF {W : World} {ok : Nat → Prop} {x : S69} {cs : List Value} (h : Kd.FK k69 W ok x cs) : ∃ A1 c1, cs = [.int .i64 x.f0, .slice A1 x.f1.length c1, .bool x.f2] ∧ x.f1.length ≤ c1 ∧ Kd.F k42 W ok A1 x.f1.length x.f1 := by
  obtain ⟨A1, c1, rfl, l1, _⟩ := k69_open (Kd.FK_now h)
  exact ⟨A1, c1, rfl, l1, (fun W' hW => by obtain ⟨A1_, c1_, he, l1_, g1_⟩ := k69_open (h W' hW); injection (Option.some.inj (show some (Value.slice A1 x.f1.length c1) = some (Value.slice A1_ x.f1.length c1_) from congrArg (fun l => l[1]?) he)) with ha_ _ _; rw [ha_]; exact g1_)⟩
theorem k69_mkF (W : World) (ok : Nat → Prop) (x : S69) {A1 : Option Addr} {c1 : Nat} (l1 : x.f1.length ≤ c1) (g1 : Kd.F k42 W ok A1 x.f1.length x.f1) : Kd.FK k69 W ok x [.int .i64 x.f0, .slice A1 x.f1.length c1, .bool x.f2] := fun W2 hW => k69_mk W2 x l1 (g1 W2 hW)
def q23 (xs : List S69) (i : Int) : S69 := xs.getD i.toNat z69
theorem at_T69 {w : World} {A : Option Addr} {n : Nat} {xs : List S69} (h : Kd.C k69 w A n xs) (i : Int) (h0 : 0 ≤ i) (h1 : i < n) : ∃ ad A1 c1, A = some ad ∧ w.cell? (ad.add (i.toNat * 3)) = some (.int .i64 (q23 xs i).f0) ∧ w.cell? ⟨(ad.add (i.toNat * 3)).block, (ad.add (i.toNat * 3)).off + 1, none⟩ = some (.slice A1 (q23 xs i).f1.length c1) ∧ w.cell? ⟨(ad.add (i.toNat * 3)).block, (ad.add (i.toNat * 3)).off + 2, none⟩ = some (.bool (q23 xs i).f2) ∧ (q23 xs i).f1.length ≤ c1 ∧ k42.C w A1 (q23 xs i).f1.length (q23 xs i).f1 := by
  obtain ⟨ad, c, e, _, hK, hc0⟩ := Kd.C_get h z69 i h0 h1
  have hc : ∀ j u, c[j]? = some u → w.cell? (ad.add (i.toNat * 3 + j)) = some u := hc0
  obtain ⟨A1, c1, rfl, l1, g1⟩ := k69_open hK
  exact ⟨ad, A1, c1, e, hc 0 _ rfl, by rw [← add_field _ _ 1 (by omega)]; exact hc 1 _ rfl, by rw [← add_field _ _ 2 (by omega)]; exact hc 2 _ rfl, l1, g1⟩
end Go.Proofs.Yteogfjhmjlelnaa.H
namespace Go.Proofs.Yteogfjhmjlelnaa.H
open Go.RowKit Go.Proofs.YteogfjhmjlelnaaW.PrintWords Go.Proofs.YteogfjhmjlelnaaW.PrintLast Go.Proofs.YteogfjhmjlelnaaW.PrintMore
attribute [local go_sem] max2_int min2_int max_two min_two max_three min_three max_four min_four
set_option linter.unusedVariables false
set_option linter.unusedSimpArgs false
theorem eqA23 (d : Nat) (w : World) (x0 y0 : Int) (x1 y1 : Int) (x2 y2 : Int) :
    (Op.equalIn (d + 2) 23 (.agg #[.int .i64 x0, .int .i64 x1, .int .i64 x2]) (.agg #[.int .i64 y0, .int .i64 y1, .int .i64 y2])).run Try.prog w = .ok (x0 == y0 && (x1 == y1 && (x2 == y2))) w := by
  refine eqA_of Try.underlying23 (by kernel_rfl) ?_
  refine eqf_cons (by rfl) (by go_simp; rfl) (by go_simp; rfl) (by go_simp) ?_
  refine eqf_cons (by rfl) (by go_simp; rfl) (by go_simp; rfl) (by go_simp) ?_
  exact eqf_last (by rfl) (by go_simp; rfl) (by go_simp; rfl) (by go_simp)
theorem eqA42 (d : Nat) (w : World) (x0 y0 : Int) (x1 y1 : Int) (x2 y2 : Int) (x3 y3 : Int) (x4 y4 : Int) :
    (Op.equalIn (d + 3) 42 (.agg #[.int .i64 x0, .int .u8 x1, .int .i64 x2, .int .i64 x3, .int .i64 x4]) (.agg #[.int .i64 y0, .int .u8 y1, .int .i64 y2, .int .i64 y3, .int .i64 y4])).run Try.prog w = .ok (x0 == y0 && (x1 == y1 && ((x2 == y2 && (x3 == y3 && (x4 == y4)))))) w := by
  refine eqA_of Try.underlying42 (by kernel_rfl) ?_
  refine eqf_cons (by rfl) (by go_simp; rfl) (by go_simp; rfl) (by go_simp) ?_
  refine eqf_cons (by rfl) (by go_simp; rfl) (by go_simp; rfl) (by go_simp) ?_
  exact eqf_last (by rfl) (by go_simp) (by go_simp) (eqA23 (d + 0) w _ _ _ _ _ _)
end Go.Proofs.Yteogfjhmjlelnaa.H
namespace Go.Proofs.Yteogfjhmjlelnaa.H
open Go.RowKit Go.Proofs.YteogfjhmjlelnaaW.PrintWords Go.Proofs.YteogfjhmjlelnaaW.PrintLast Go.Proofs.YteogfjhmjlelnaaW.PrintMore
attribute [local go_sem] max2_int min2_int max_two min_two max_three min_three max_four min_four
set_option linter.unusedVariables false
set_option linter.unusedSimpArgs false
attribute [local go_sem high] eqA42
def IsS73 (w0 W : World) (g : Nat) (f0 : List (S75)) : Prop := ∃ A0 c0, W.heap[g]? = some (.cells #[.slice A0 f0.length c0] 73 (0, 0)) ∧ w0.heap.size ≤ g ∧ Kd.C k75 w0 A0 f0.length f0
theorem IsS73.grown {w0 W : World} {g : Nat} {f0 : List (S75)} {W1 : World} {row : Option Nat} (h : IsS73 w0 W g f0) (hw : W.grownBy W1 row) (hne : some g ≠ row) : IsS73 w0 W1 g f0 := by
 obtain ⟨A0, c0, hb, hg, hr0⟩ := h
 exact ⟨A0, c0, q45 hb hw hne, hg, hr0⟩
theorem IsS73.kept {w0 W : World} {g : Nat} {f0 : List (S75)} {W1 : World} {S : Nat → Prop} (h : IsS73 w0 W g f0) (hk : Kept W W1 S) (hne : ¬ S g) : IsS73 w0 W1 g f0 := by
 obtain ⟨A0, c0, hb, hg, hr0⟩ := h
 exact ⟨A0, c0, blk_kept hb hk hne, hg, hr0⟩
theorem IsS73.below {w0 W : World} {g : Nat} {f0 : List (S75)} {W1 : World} (h : IsS73 w0 W g f0) (hw : Below W.heap.size W W1) : IsS73 w0 W1 g f0 := h.grown (grown_of_below hw none) (by simp)
theorem IsS73.alloc {w0 W : World} {g : Nat} {f0 : List (S75)} (h : IsS73 w0 W g f0) (o : Obj) : IsS73 w0 (W.alloc o) g f0 := h.below (q10 (Below.refl _ _) o)
theorem IsS73.drew {w0 W : World} {g : Nat} {f0 : List (S75)} (h : IsS73 w0 W g f0) : IsS73 w0 W.drew g f0 := h
def mem_New.f  : Option ((List (S75))) := some ([] : List (S75))
def mem_pointer.f (a0_0 : Int) (a0_1 : Int) (a0_2 : Int) : Option (Bool) := if a0_1 > 0 then (some (a0_2 == 0)) else (some false)
def crosstreelaw10_at.f (a0 : Int) : Option (Int × Int × Int) := some (a0, 1, 0)
def mem_number.f (a0_0 : Int) (a0_1 : Int) (a0_2 : Int) : Option (Bool) := if a0_1 = 0 then (some (a0_2 == 0)) else (some false)
def crosstreelaw10_well.f (a0_0 : Int) (a0_1 : Int) (a0_2 : Int) : Option (Bool) := if a0_1 ≥ 0 then (if a0_2 ≥ 0 then (if a0_2 ≤ 8 then (if a0_1 > 0 then (some true) else (some (a0_2 == 0))) else (some false)) else (some false)) else (some false)
def crosstreeref10_Same.l0 : Nat → List (S42) → List (S42) → Int → Option (Bool)
 | 0, _, _, _ => none
 | k + 1, x0, x1, x5 => if x5 < (x0.length : Int) then (if 0 ≤ x5 then (if x5 < (x1.length : Int) then (if (!(((q27 x0 x5).f0) == ((q27 x1 x5).f0)) || (!(((q27 x0 x5).f1) == ((q27 x1 x5).f1)) || ((!(((q27 x0 x5).f2.f0) == ((q27 x1 x5).f2.f0)) || (!(((q27 x0 x5).f2.f1) == ((q27 x1 x5).f2.f1)) || (!(((q27 x0 x5).f2.f2) == ((q27 x1 x5).f2.f2)))))))) = true then (some false) else (crosstreeref10_Same.l0 k x0 x1 (wrap64 (x5 + 1)))) else (none)) else (none)) else (some true)
def crosstreeref10_Same.f (k : Nat) (l0 : List (S42)) (l1 : List (S42)) : Option (Bool) := if (l0.length : Int) = (l1.length : Int) then (crosstreeref10_Same.l0 k l0 l1 0) else (some false)
theorem crosstreeref10_Same.mono_l : ∀ k, (∀ y0 y1 y2, LeO (crosstreeref10_Same.l0 k y0 y1 y2) (crosstreeref10_Same.l0 (k + 1) y0 y1 y2))
 | 0 => fun _ _ _ r h => by simp [crosstreeref10_Same.l0] at h
 | k + 1 => by
  have ih0 := crosstreeref10_Same.mono_l k
  ·intro y0 y1 y2
   unfold crosstreeref10_Same.l0
   repeat' first
   | (with_reducible exact ih0 _ _ _)
   | (with_reducible exact LeO.refl _)
   | (with_reducible exact LeO.none _)
   | (with_reducible refine LeO.ite ?_ ?_)
   | (with_reducible refine LeO.bind ?_ (fun _ => ?_))
   | exact ih0 _ _ _
   | exact LeO.none _
   | refine LeO.ite ?_ ?_
   | refine LeO.bind ?_ (fun _ => ?_)
theorem crosstreeref10_Same.mono : ∀ a0 a1 k, LeO (crosstreeref10_Same.f k a0 a1) (crosstreeref10_Same.f (k + 1) a0 a1) := by
 intro a0 a1 k
 have ih0 := crosstreeref10_Same.mono_l k
 unfold crosstreeref10_Same.f
 repeat' first
   | (with_reducible exact ih0 _ _ _)
   | (with_reducible exact LeO.refl _)
   | (with_reducible exact LeO.none _)
   | (with_reducible refine LeO.ite ?_ ?_)
   | (with_reducible refine LeO.bind ?_ (fun _ => ?_))
   | exact ih0 _ _ _
   | exact LeO.none _
   | refine LeO.ite ?_ ?_
   | refine LeO.bind ?_ (fun _ => ?_)
set_option maxHeartbeats 8000000 in
set_option maxRecDepth 100000 in
theorem crosstreeref10_Same.calls (k : Nat) (A0 : Option Addr) (c0 : Nat) (l0 : List (S42)) (A1 : Option Addr) (c1 : Nat) (l1 : List (S42)) (r : Bool) (w : World) (hr0 : Kd.C k42 w A0 l0.length l0) (hc0 : l0.length ≤ c0) (hr1 : Kd.C k42 w A1 l1.length l1) (hc1 : l1.length ≤ c1) (h : crosstreeref10_Same.f k l0 l1 = some r) :
  Calls Try.prog 22 #[.slice A0 l0.length c0, .slice A1 l1.length c1] w fun e w' => e = .returned (.bool r) ∧ Drawn0 w w' := by
 have hu42 := Try.underlying42
 have HR0 := Aside0.mk hr0
 have HC0 := Aside0.mk hc0
 clear hr0 hc0
 have HR1 := Aside0.mk hr1
 have HC1 := Aside0.mk hc1
 clear hr1 hc1
 have H : (if (l0.length : Int) = (l1.length : Int) then (crosstreeref10_Same.l0 k l0 l1 0) else (some false)) = some r := h
 clear h
 by_cases c3 : (l0.length : Int) = (l1.length : Int)
 ·rw [if_pos c3] at H
  have c3b0 : ((l0.length : Int) == (l1.length : Int)) = true := beq_iff_eq.mpr c3
  have c3b1 : ((l0.length : Int) != (l1.length : Int)) = false := bne_eq_false_iff_eq.mpr c3
  have c3b2 : (l0.length == l1.length) = true := by first | simpa using c3 | (simp at c3 ⊢; omega)
  clear c3
  have H' := Aside0.mk H
  clear H
  go_enter Try.func22, Try.ntmps22
  go_wp2
  repeat (go_quiet (fail); try go_wp2)
  go_loopg [5] k (fun kq v5 w' => ∃ (x5_1 : Int), v5 = .int .i64 x5_1 ∧ Aside0 (crosstreeref10_Same.l0 kq l0 l1 x5_1 = some r) ∧ Aside0 (kq ≤ k) ∧ Drawn0 w w')
  case atStart => exact ⟨(0), (by first | rfl | (simp; done) | (simp [*]; done)), H', ⟨Nat.le_refl _⟩, by repeat (first | exact Drawn0.refl _ | apply Drawn0.step)⟩
  case round =>
   clear H'
   try clear c1
   try clear c2
   try clear p2
   try clear c3
   try clear c3b0
   try clear c3b1
   try clear c3b2
   obtain ⟨x5_1, rfl, HA, HK1, ⟨m1, rfl⟩⟩ := hrel
   cases gk with
   | zero => exact absurd HA.out (by simp [crosstreeref10_Same.l0])
   | succ k1 =>
    have H := HA.out
    clear HA
    simp only [crosstreeref10_Same.l0] at H
    by_cases c4 : x5_1 < (l0.length : Int)
    ·rw [if_pos c4] at H
     have c4b0 : decide (x5_1 < (l0.length : Int)) = true := decide_eq_true c4
     clear c4
     by_cases c5 : 0 ≤ x5_1
     ·rw [if_pos c5] at H
      have c5b0 : decide (0 ≤ x5_1) = true := decide_eq_true c5
      clear c5
      by_cases c6 : x5_1 < (l1.length : Int)
      ·rw [if_pos c6] at H
       have c6b0 : decide (x5_1 < (l1.length : Int)) = true := decide_eq_true c6
       clear c6
       by_cases c7 : (!(((q27 l0 x5_1).f0) == ((q27 l1 x5_1).f0)) || (!(((q27 l0 x5_1).f1) == ((q27 l1 x5_1).f1)) || ((!(((q27 l0 x5_1).f2.f0) == ((q27 l1 x5_1).f2.f0)) || (!(((q27 l0 x5_1).f2.f1) == ((q27 l1 x5_1).f2.f1)) || (!(((q27 l0 x5_1).f2.f2) == ((q27 l1 x5_1).f2.f2)))))))) = true
       ·rw [if_pos c7] at H
        have c7b0 : (!(((q27 l0 x5_1).f0) == ((q27 l1 x5_1).f0)) || (!(((q27 l0 x5_1).f1) == ((q27 l1 x5_1).f1)) || ((!(((q27 l0 x5_1).f2.f0) == ((q27 l1 x5_1).f2.f0)) || (!(((q27 l0 x5_1).f2.f1) == ((q27 l1 x5_1).f2.f1)) || (!(((q27 l0 x5_1).f2.f2) == ((q27 l1 x5_1).f2.f2)))))))) = true := c7
        clear c7
        obtain rfl := Option.some.inj H
        have p119 : 0 ≤ (x5_1 : Int) := of_decide_eq_true (by first | (with_reducible assumption) | assumption)
        have q119 : x5_1 < (l0.length : Int) := of_decide_eq_true (by first | (with_reducible assumption) | assumption)
        obtain ⟨ad119, e119, hx119_0, hx119_1, hx119_2, hx119_3, hx119_4⟩ := at_T42 HR0.out x5_1 p119 q119
        cases e119
        replace p119 := eq_true p119
        replace q119 := eq_true q119
        have p120 : 0 ≤ (x5_1 : Int) := of_decide_eq_true (by first | (with_reducible assumption) | assumption)
        have q120 : x5_1 < (l1.length : Int) := of_decide_eq_true (by first | (with_reducible assumption) | assumption)
        obtain ⟨ad120, e120, hx120_0, hx120_1, hx120_2, hx120_3, hx120_4⟩ := at_T42 HR1.out x5_1 p120 q120
        cases e120
        replace p120 := eq_true p120
        replace q120 := eq_true q120
        go_wp2
        repeat (go_quiet (fail); try go_wp2)
        go_ret
        exact ⟨by first | rfl | (simp; done) | (simp [*]; done), by repeat (first | exact Drawn0.refl _ | apply Drawn0.step)⟩
       ·rw [if_neg c7] at H
        have c7b0 : (!(((q27 l0 x5_1).f0) == ((q27 l1 x5_1).f0)) || (!(((q27 l0 x5_1).f1) == ((q27 l1 x5_1).f1)) || ((!(((q27 l0 x5_1).f2.f0) == ((q27 l1 x5_1).f2.f0)) || (!(((q27 l0 x5_1).f2.f1) == ((q27 l1 x5_1).f2.f1)) || (!(((q27 l0 x5_1).f2.f2) == ((q27 l1 x5_1).f2.f2)))))))) = false := by simpa using c7
        clear c7
        have H' := Aside0.mk H
        clear H
        have p119 : 0 ≤ (x5_1 : Int) := of_decide_eq_true (by first | (with_reducible assumption) | assumption)
        have q119 : x5_1 < (l0.length : Int) := of_decide_eq_true (by first | (with_reducible assumption) | assumption)
        obtain ⟨ad119, e119, hx119_0, hx119_1, hx119_2, hx119_3, hx119_4⟩ := at_T42 HR0.out x5_1 p119 q119
        cases e119
        replace p119 := eq_true p119
        replace q119 := eq_true q119
        have p120 : 0 ≤ (x5_1 : Int) := of_decide_eq_true (by first | (with_reducible assumption) | assumption)
        have q120 : x5_1 < (l1.length : Int) := of_decide_eq_true (by first | (with_reducible assumption) | assumption)
        obtain ⟨ad120, e120, hx120_0, hx120_1, hx120_2, hx120_3, hx120_4⟩ := at_T42 HR1.out x5_1 p120 q120
        cases e120
        replace p120 := eq_true p120
        replace q120 := eq_true q120
        go_wp2
        repeat (go_quiet (fail); try go_wp2)
        go_roundg k1
        case measure => have := HK1.out; omega
        case rel => exact ⟨(wrap64 (x5_1 + 1)), (by first | rfl | (simp; done) | (simp [*]; done)), H', ⟨by have := HK1.out; omega⟩, by repeat (first | exact Drawn0.refl _ | apply Drawn0.step)⟩
      ·rw [if_neg c6] at H
       exact absurd H (by simp)
     ·rw [if_neg c5] at H
      exact absurd H (by simp)
    ·rw [if_neg c4] at H
     have c4b0 : decide (x5_1 < (l0.length : Int)) = false := decide_eq_false c4
     clear c4
     obtain rfl := Option.some.inj H
     go_wp2
     repeat (go_quiet (fail); try go_wp2)
     go_ret
     exact ⟨by first | rfl | (simp; done) | (simp [*]; done), by repeat (first | exact Drawn0.refl _ | apply Drawn0.step)⟩
 ·rw [if_neg c3] at H
  have c3b0 : ((l0.length : Int) == (l1.length : Int)) = false := beq_eq_false_iff_ne.mpr c3
  have c3b1 : ((l0.length : Int) != (l1.length : Int)) = true := bne_iff_ne.mpr c3
  have c3b2 : (l0.length == l1.length) = false := by first | simpa using c3 | (simp at c3 ⊢; omega)
  obtain rfl := Option.some.inj H
  go_enter Try.func22, Try.ntmps22
  go_wp2
  repeat (go_quiet (fail); try go_wp2)
  go_ret
  exact ⟨by first | rfl | (simp; done) | (simp [*]; done), by repeat (first | exact Drawn0.refl _ | apply Drawn0.step)⟩
end Go.Proofs.Yteogfjhmjlelnaa.H
