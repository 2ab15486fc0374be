/- norm.places: all places of a type with their normal places, as a range's iterator. The arguments read as types and records. -/
import Derived.Test.YtndcnhbcconbcaaNd
import Derived.RangeFuncNested
import Derived.RangeFuncBound
import Derived.RangeFuncCalls
import Derived.RangeFuncLeaves
import Derived.RangeFuncBox
import Derived.Shelf.Abstract
import Derived.Shelf.RegionOpen
import Derived.OwnWalkIn
import Derived.TacticsInMore
import Derived.LoopNIn
import Derived.LoopIn
import Derived.Maps.AppendAt
import Derived.Maps.OwnIn
set_option linter.unusedVariables false
set_option linter.unusedSimpArgs false
namespace Go.Proofs.Ytndcnhbcconbcaa.G
open Go.RowKit Go.Shelf Go.Proofs.Ytndcnhbcconbcaa.B Go.Proofs.YtndcnhbcconbcaaW.PrintWords Go.Proofs.YtndcnhbcconbcaaW.PrintLast Go.Proofs.YtndcnhbcconbcaaW.PrintMore
attribute [local go_sem] Oper.semAt_some

/-- A place and its normal place. -/
abbrev Pl := { x : Int × Int // I64 x.1 ∧ I64 x.2 }
def encP (x : Pl) : Array Value := #[.int .i64 x.1.1, .int .i64 x.1.2]
/-- What a round keeps: all below n₀, and three boxes. -/
def KI (n₀ b1 b2 b3 : Nat) (A B : World) : Prop := Below n₀ A B ∧ B.heap[b1]? = A.heap[b1]? ∧ B.heap[b2]? = A.heap[b2]? ∧ B.heap[b3]? = A.heap[b3]?
theorem KI_t {n₀ b1 b2 b3 : Nat} {A B C : World} (h : KI n₀ b1 b2 b3 A B) (k : KI n₀ b1 b2 b3 B C) : KI n₀ b1 b2 b3 A C :=
  ⟨h.1.trans k.1, k.2.1.trans h.2.1, k.2.2.1.trans h.2.2.1, k.2.2.2.trans h.2.2.2⟩
theorem grown_below {W w' : World} (h : Below W.heap.size W w') : W.grownBy w' none := ⟨h.os, h.tape, h.output, h.size, fun k hk _ => h.block k hk⟩
/-- All places of a type with n bytes, with their normal places. -/
def Places (l : List S51) (u : S24) (k n : Nat) (zs : List Pl) : Prop :=
  zs.length = n + 1 ∧ ∀ i (h : i < zs.length), (zs[i]).1.1 = (i : Int) ∧ (if i < n then normF k l u (i : Int) = some (zs[i]).1.2 else (zs[i]).1.2 = (i : Int))
set_option maxRecDepth 100000 in
set_option maxHeartbeats 2000000 in
theorem places1_in (l : List S51) (A : Option Addr) (c : Nat) (hl : l.length ≤ c) (u : S24) (D : Option Addr) (q : Nat) (hq : u.f3.length ≤ q) (k n : Nat) (zs : List Pl) (hz : Places l u k n zs) (hn : n ≤ 1000000) (m : Nat) (hm : 1 ≤ m)
    (ll b1 b2 b3 : Nat) (w0 : World) (hC : k51.C w0 A l.length l) (hD : k24.C w0 D u.f3.length u.f3) (J Jx : List Pl → World → Prop) (B0 : Nat) (hJ : AbidesFrom B0 J)
    (hY : ∀ pre x W, J pre W → pre.length < zs.length → YieldAt Fence.wide (m - 1) Try.prog ll (encP x) W fun e W' =>
      (e = .returned (.bool true) ∧ J (pre ++ [x]) W' ∧ KI w0.heap.size b1 b2 b3 W W') ∨ (e = .returned (.bool false) ∧ Jx (pre ++ [x]) W'))
    (W : World) (hW : Below w0.heap.size w0 W) (h1 : W.heap[b1]? = some (.cells #[.int .i64 (n : Int)] 3 (0, 0))) (h2 : W.heap[b2]? = some (.cells #[.slice A l.length c] 26 (0, 0)))
    (h3 : W.heap[b3]? = some (.cells #[.int .i64 u.f0, .int .i64 u.f1, .string u.f2, .slice D u.f3.length q] 24 (0, 0))) (h0 : J [] W) :
    CallsIn Fence.wide m Try.prog 33 (#[.func (.yield ll) #[] #[]] ++ #[.pointer (some ⟨b1, 0, none⟩), .pointer (some ⟨b2, 0, none⟩), .pointer (some ⟨b3, 0, none⟩)]) W fun e W' => (∃ v, e = .returned v) ∧
      ((∃ ys, ys = zs ∧ J ys W') ∨ (∃ pre, pre <+: zs ∧ Jx pre W')) := by
  have HZ := Aside0.mk hz
  have HJ := Aside0.mk hJ
  have HC := Aside0.mk hC
  have HD := Aside0.mk hD
  have HLL := Aside0.mk hl
  have HQQ := Aside0.mk hq
  have HYY := Aside0.mk hY
  have HNN := Aside0.mk hn
  clear hz hJ hC hD hl hq hY hn
  refine callsIn_of_wp Try.func33 rfl trivial ?_ rfl
  simp only [Try.ntmps33, List.size_toArray, List.length_cons, List.length_nil, Nat.reduceAdd, Nat.reduceSub, Array.replicate_succ, Array.replicate_zero, List.push_toArray, List.append_toArray, List.nil_append, List.cons_append]
  gi_wp2
  gi_loopw [5] (fun iv wr => ∃ (i : Nat), i ≤ n ∧ iv = .int .i64 (i : Int) ∧ Hid (Below w0.heap.size w0 wr) ∧ Hid (wr.heap[b1]? = some (.cells #[.int .i64 (n : Int)] 3 (0, 0))) ∧ Hid (wr.heap[b2]? = some (.cells #[.slice A l.length c] 26 (0, 0))) ∧ Hid (wr.heap[b3]? = some (.cells #[.int .i64 u.f0, .int .i64 u.f1, .string u.f2, .slice D u.f3.length q] 24 (0, 0))) ∧ Hid (J (zs.take i) wr)) (fun iv _ => n - (intOf iv).toNat)
  case atStart => exact ⟨0, Nat.zero_le _, rfl, hW, h1, h2, h3, h0⟩
  case round =>
    clear hW h1 h2 h3 h0
    obtain ⟨i, hi, rfl, hb, g1, g2, g3, hj⟩ := hrel
    have HB := Aside0.mk (show Below w0.heap.size w0 wr from hb)
    have G1 := Aside0.mk (show wr.heap[b1]? = some (.cells #[.int .i64 (n : Int)] 3 (0, 0)) from g1)
    have G2 := Aside0.mk (show wr.heap[b2]? = some (.cells #[.slice A l.length c] 26 (0, 0)) from g2)
    have G3 := Aside0.mk (show wr.heap[b3]? = some (.cells #[.int .i64 u.f0, .int .i64 u.f1, .string u.f2, .slice D u.f3.length q] 24 (0, 0)) from g3)
    have HJS := Aside0.mk (show J (zs.take i) wr from hj)
    clear hb g1 g2 g3 hj
    have y1 := cell1 G1.out
    have y2 := cell1 G2.out
    obtain ⟨z0, z1, z2, z3⟩ := cell4 G3.out
    have hlen := HZ.out.1
    have hi2 : i < zs.length := by omega
    obtain ⟨ze, hze⟩ := HZ.out.2 i hi2
    obtain ⟨x, hx⟩ : ∃ x, zs[i] = x := ⟨_, rfl⟩
    rw [hx] at ze hze
    have htake : zs.take (i + 1) = zs.take i ++ [x] := by rw [← hx]; exact (List.take_append_getElem hi2).symm
    have HT := Aside0.mk htake
    have HTL : Aside0 ((zs.take i).length < zs.length) := Aside0.mk (by rw [List.length_take]; omega)
    have HWI : IntKind.i64.wrap ((i : Int) + 1) = (i : Int) + 1 := by have := HNN.out; rw [IntKind.wrap_i64]; omega
    clear htake hx hlen hi2
    by_cases hlt : (i : Int) < (n : Int)
    · have hin : i < n := by omega
      rw [if_pos hin] at hze
      have HI : Aside0 (I64 (i : Int)) := Aside0.mk (by have := HNN.out; unfold I64; omega)
      have HNC := Aside0.mk (fun W h1 h2 => norm_c l A c HLL.out k u (i : Int) x.1.2 D q W HI.out h1 h2 HQQ.out hze)
      clear hze hin
      have HX1 : Aside0 (.int .i64 (i : Int) = Value.int .i64 x.1.1) := Aside0.mk (by rw [ze])
      gi_wp2_with (refine ⟨trivial, ?_⟩; gi_at_call 22; refine (callsIn_wide.2 (HNC.out _ (Kd.C_below HC.out HB.out) (Kd.C_below HD.out HB.out))).mono ?_; rintro e1 w1 ⟨rfl, hb⟩; have hJ1 := HJ.out _ _ _ none HJS.out (grown_below hb) (fun r e => by cases e); obtain ⟨fn, tmps, assign, body, hy, hR⟩ := HYY.out _ x w1 hJ1 HTL.out; have hy2 : (Instr.yield ll #[.int .i64 (i : Int), .int .i64 x.1.2]).run Try.prog w1 = .ok (.round ll fn tmps assign body) w1 := (by rw [HX1.out]; exact hy); have HB1 := Aside0.mk (below_step HB.out hb); have K1 := Aside0.mk (blk_below G1.out hb); have K2 := Aside0.mk (blk_below G2.out hb); have K3 := Aside0.mk (blk_below G3.out hb); have HRR := Aside0.mk hR; clear hb hJ1 hR hy)
      refine HRR.out.mono ?_
      rintro e W3 (⟨rfl, hJ3, hk3⟩ | ⟨rfl, hJx3⟩)
      · have HK3 := Aside0.mk hk3
        have HJ3 := Aside0.mk hJ3
        clear hk3 hJ3
        gi_wp2
        go_roundw
        case rel => exact ⟨i + 1, by omega, by go_num, HB1.out.trans HK3.out.1, HK3.out.2.1.trans K1.out, HK3.out.2.2.1.trans K2.out, HK3.out.2.2.2.trans K3.out, by rw [HT.out]; exact HJ3.out⟩
        case measure => simp [intOf]; omega
      · have HJ3 := Aside0.mk hJx3
        clear hJx3
        gi_wp2
        refine bodyPost_ret (results_none rfl _ _ _) rfl ?_
        exact ⟨⟨_, rfl⟩, .inr ⟨zs.take i ++ [x], by rw [← HT.out]; exact List.take_prefix _ _, HJ3.out⟩⟩
    · have hin : ¬ i < n := by omega
      rw [if_neg hin] at hze
      have hien : i = n := by omega
      have HX1 : Aside0 (Value.int .i64 (n : Int) = Value.int .i64 x.1.1) := Aside0.mk (by rw [ze, hien])
      have HX2 : Aside0 (Value.int .i64 (n : Int) = Value.int .i64 x.1.2) := Aside0.mk (by rw [hze, hien])
      have HTZ : Aside0 (zs.take i ++ [x] = zs) := Aside0.mk (by rw [← HT.out]; exact List.take_of_length_le (by have := HZ.out.1; omega))
      clear hze hin ze hien
      obtain ⟨fn, tmps, assign, body, hy, hR⟩ := HYY.out _ x wr HJS.out HTL.out
      have hy2 : (Instr.yield ll #[.int .i64 (n : Int), .int .i64 (n : Int)]).run Try.prog wr = .ok (.round ll fn tmps assign body) wr := (by
        have e : encP x = #[.int .i64 (n : Int), .int .i64 (n : Int)] := by unfold encP; rw [← HX1.out, ← HX2.out]
        rw [← e]; exact hy)
      have HRR := Aside0.mk hR
      clear hy hR
      gi_wp2
      refine HRR.out.mono ?_
      rintro e W3 (⟨rfl, hJ3, hk3⟩ | ⟨rfl, hJx3⟩)
      · have HJ3 := Aside0.mk hJ3
        clear hJ3 hk3
        gi_wp2
        go_end0
        exact ⟨⟨_, rfl⟩, .inl ⟨zs, rfl, by have := HJ3.out; rw [HTZ.out] at this; exact this⟩⟩
      · have HJ3 := Aside0.mk hJx3
        clear hJx3
        gi_wp2
        go_end0
        exact ⟨⟨_, rfl⟩, .inr ⟨zs, List.prefix_rfl, by have := HJ3.out; rw [HTZ.out] at this; exact this⟩⟩
theorem places_c (A : Option Addr) (ln c : Nat) (k0 k1 : Int) (nm : ByteArray) (D : Option Addr) (m q : Nat) (n : Int) (w : World) :
    Calls Try.prog 25 #[.slice A ln c, .agg #[.int .i64 k0, .int .i64 k1, .string nm, .slice D m q], .int .i64 n] w fun e w' => ∃ b1 b2 b3, e = .returned (.func (.func 33) #[] #[.pointer (some ⟨b1, 0, none⟩), .pointer (some ⟨b2, 0, none⟩), .pointer (some ⟨b3, 0, none⟩)]) ∧
      (w'.heap[b1]? = some (.cells #[.int .i64 n] 3 (0, 0)) ∧ w'.heap[b2]? = some (.cells #[.slice A ln c] 26 (0, 0)) ∧ w'.heap[b3]? = some (.cells #[.int .i64 k0, .int .i64 k1, .string nm, .slice D m q] 24 (0, 0))) ∧ (w.heap.size ≤ b1 ∧ w.heap.size ≤ b2 ∧ w.heap.size ≤ b3) ∧ Below w.heap.size w w' := by
  have h1 := blk_new w (.cells #[.slice A ln c] 26)
  have h2 := blk_at_ (W := w.alloc (.cells #[.slice A ln c] 26)) (n := w.heap.size + 1) (.cells #[.int .i64 k0, .int .i64 k1, .string nm, .slice D m q] 24) (by simp)
  have h3 := blk_at_ (W := (w.alloc (.cells #[.slice A ln c] 26)).alloc (.cells #[.int .i64 k0, .int .i64 k1, .string nm, .slice D m q] 24)) (n := w.heap.size + 1 + 1) (.cells #[.int .i64 n] 3) (by simp)
  have H := Aside0.mk (And.intro h3 (And.intro (blk_alloc (blk_alloc h1 (.cells #[.int .i64 k0, .int .i64 k1, .string nm, .slice D m q] 24)) (.cells #[.int .i64 n] 3)) (blk_alloc h2 (.cells #[.int .i64 n] 3))))
  clear h1 h2 h3
  go_enter Try.func25, Try.ntmps25
  go_wp2
  go_ret
  exact ⟨_, _, _, rfl, H.out, ⟨by omega, by omega, by omega⟩, below_alloc (below_alloc (below_alloc (Below.refl _ _) _) _) _⟩
theorem places_stops (l : List S51) (A : Option Addr) (c : Nat) (hl : l.length ≤ c) (u : S24) (D : Option Addr) (q : Nat) (hq : u.f3.length ≤ q) (k n : Nat) (zs : List Pl) (hz : Places l u k n zs) (hn : n ≤ 1000000) (m : Nat) (hm : 1 ≤ m)
    (b1 b2 b3 : Nat) (w0 : World) (hC : k51.C w0 A l.length l) (hD : k24.C w0 D u.f3.length u.f3) (w : World) (hw : Below w0.heap.size w0 w)
    (hb : w.heap[b1]? = some (.cells #[.int .i64 (n : Int)] 3 (0, 0)) ∧ w.heap[b2]? = some (.cells #[.slice A l.length c] 26 (0, 0)) ∧ w.heap[b3]? = some (.cells #[.int .i64 u.f0, .int .i64 u.f1, .string u.f2, .slice D u.f3.length q] 24 (0, 0))) :
    SeqStopsK Fence.wide m Try.prog 33 #[.pointer (some ⟨b1, 0, none⟩), .pointer (some ⟨b2, 0, none⟩), .pointer (some ⟨b3, 0, none⟩)] encP (KI w0.heap.size b1 b2 b3) (fun ys => ys = zs) (fun pre => pre <+: zs) zs.length w :=
  fun ll J Jx W hW hJ hJx hY h0 => places1_in l A c hl u D q hq k n zs hz hn m hm ll b1 b2 b3 w0 hC hD J Jx _ hJ hY W (below_step hw hW) (blk_below hb.1 hW) (blk_below hb.2.1 hW) (blk_below hb.2.2 hW) h0
theorem KI_b {n₀ b1 b2 b3 : Nat} {w : World} (hn : n₀ ≤ w.heap.size) (h1 : b1 < w.heap.size) (h2 : b2 < w.heap.size) (h3 : b3 < w.heap.size) :
    ∀ (W : World) (l : Nat) (o o' : Obj), w.heap.size ≤ l → W.heap[l]? = some o → o.isCells = false → o.isWalk = false → KI n₀ b1 b2 b3 W (W.putObj l o') := fun W l o o' hl hW hc hk =>
  ⟨belowK_b (w := w) hn W l o o' hl hW hc hk, World.putObj_heap_other (by omega), World.putObj_heap_other (by omega), World.putObj_heap_other (by omega)⟩
end Go.Proofs.Ytndcnhbcconbcaa.G
