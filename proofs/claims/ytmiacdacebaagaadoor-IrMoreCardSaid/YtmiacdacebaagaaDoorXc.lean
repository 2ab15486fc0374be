/- Merged texts (by slim.py): what the law's proof names. -/
import Derived.StillTailTactics
import Derived.Laws.Tables
import Derived.Great.Walk
import Derived.Lib.OthersKept
import Derived.WalkSmall
import Derived.Shelf.Strings.Prefix
import Derived.Shelf.Strings.Fields
import Derived.Shelf.LaysM
import Derived.Shelf.Strings.SplitShaped
import Derived.Shelf.Unicode.Latin
import Derived.Shelf.Unicode.Is16White
import Derived.Shelf.Unicode.IsSpaceAny
import Derived.Shelf.Unicode.Is16WhiteD
import Derived.Shelf.Unicode.Is16Any
import Derived.Shelf.Unicode.Is32Any
import Derived.Shelf.Unicode.ExclAny
import Derived.Shelf.Slices.Turned
import Derived.Test.YtmiacdacebaagaaDoorProg
import Derived.Lib.AppendIntMem
import Derived.ProofKit
import Derived.OpenShut
import Derived.ShutString
import Derived.ChangeOld
import Derived.SizedLaws
import Derived.Test.YtmiacdacebaagaaDoorRows
import Derived.Deep.DeepHandedRow
import Derived.Deep.DeepWitnessRowRef
import Derived.Lib.LaidU8
import Derived.LaidLaws
import Derived.WalkKit
import Derived.Deep.AppendLies
import Derived.Test.YtmiacdacebaagaaDoorXb
namespace Go.Proofs.YtmiacdacebaagaaDoor.B
open Go.RowKit Go.Proofs.YtmiacdacebaagaaDoorW.PrintWords Go.Proofs.YtmiacdacebaagaaDoorW.PrintLast Go.Proofs.YtmiacdacebaagaaDoorW.PrintMore
theorem ret_int {k : IntKind} {a b : Int} (h : a = b) : Ending.returned (.int k a) = .returned (.int k b) := by rw [h]
theorem bytes_loop (bs : ByteArray) : ∀ (n i : Nat) (r : List UInt8), bs.size - i = n → ByteArray.toList.loop bs i r = r.reverse ++ bs.data.toList.drop i := by
  intro n
  induction n with
  | zero =>
    intro i r h
    rw [ByteArray.toList.loop, if_neg (by omega), List.drop_eq_nil_of_le (by rw [Array.length_toList]; exact Nat.le_of_sub_eq_zero h), List.append_nil]
  | succ n ih =>
    intro i r h
    have hi : i < bs.data.toList.length := by rw [Array.length_toList]; show i < bs.size; omega
    rw [ByteArray.toList.loop, if_pos (by omega), ih (i + 1) _ (by omega), List.drop_eq_getElem_cons hi, List.reverse_cons, List.append_assoc]
    congr 1
    show bs.get! i :: _ = _
    congr 1
    show bs.data[i]! = _
    rw [getElem!_pos bs.data i (by simpa using hi)]
    simp
theorem bytes_toList (s : ByteArray) : s.toList = s.data.toList := by
  rw [ByteArray.toList, bytes_loop s _ 0 [] rfl]
  simp
structure Kp (w W : World) (S : Nat → Prop) : Prop where
  os : W.os = w.os
  tape : W.tape = w.tape
  output : W.output = w.output
  size : w.heap.size ≤ W.heap.size
  block : ∀ i, i < w.heap.size → ¬ S i → W.heap[i]? = w.heap[i]?
section
variable {w W W2 : World} {S S2 : Nat → Prop}
theorem Kp.refl (w : World) (S : Nat → Prop) : Kp w w S := ⟨rfl, rfl, rfl, Nat.le_refl _, fun _ _ _ => rfl⟩
theorem Kp.of_below (h : Below w.heap.size w W) (S : Nat → Prop) : Kp w W S := ⟨h.os, h.tape, h.output, h.size, fun i hi _ => h.block i hi⟩
theorem Kp.then_ (h : Kp w W S) (k : Kp W W2 S2) (hs : ∀ k, S2 k → S k ∨ w.heap.size ≤ k) : Kp w W2 S :=
  ⟨k.os.trans h.os, k.tape.trans h.tape, k.output.trans h.output, Nat.le_trans h.size k.size,
   fun i hi hn => (k.block i (Nat.lt_of_lt_of_le hi h.size) (fun h2 => (hs i h2).elim hn (fun h3 => by omega))).trans (h.block i hi hn)⟩
theorem Kp.setCell (h : Kp w W S) {p : Addr} (hp : S p.block ∨ w.heap.size ≤ p.block) (u : Value) : Kp w (W.setCell p u) S :=
  h.then_ (S2 := fun k => k = p.block) ⟨rfl, rfl, rfl, by simp [World.setCell], fun i _ hn => Below.heap_setCell W p u i hn⟩ (fun k hk => by rw [hk]; exact hp)
theorem Kp.to_below (h : Kp w W S) (hs : ∀ k, S k → w.heap.size ≤ k) : Below w.heap.size w W :=
  ⟨h.os, h.tape, h.output, h.size, fun k hk => h.block k hk (fun h2 => by have := hs k h2; omega)⟩
theorem Kp.below_of (hb : Below w.heap.size w W) (h : Kp W W2 S) (hs : ∀ k, S k → w.heap.size ≤ k) : Below w.heap.size w W2 :=
  ((Kp.of_below hb (fun _ => False)).then_ h (fun k hk => .inr (hs k hk))).to_below (fun _ h => h.elim)
end
theorem blk_at_ {W : World} {n : Nat} (o : Obj) (h : W.heap.size = n) : (W.alloc o).heap[n]? = some o := by rw [← h]; exact blk_new W o
theorem cell3 {W : World} {g t : Nat} {a b c : Value} (h : W.heap[g]? = some (.cells #[a, b, c] t (0, 0))) :
    W.cell? ⟨g, 0, none⟩ = some a ∧ W.cell? ⟨g, 1, none⟩ = some b ∧ W.cell? ⟨g, 2, none⟩ = some c := ⟨(blk_cell h 0).trans rfl, (blk_cell h 1).trans rfl, (blk_cell h 2).trans rfl⟩
end Go.Proofs.YtmiacdacebaagaaDoor.B
set_option linter.unusedVariables false
set_option linter.unusedSimpArgs false
namespace Go.Proofs.YtmiacdacebaagaaDoor.G
open Go.RowKit Go.Proofs.YtmiacdacebaagaaDoor.B Go.Proofs.YtmiacdacebaagaaDoorW.PrintWords Go.Proofs.YtmiacdacebaagaaDoorW.PrintLast Go.Proofs.YtmiacdacebaagaaDoorW.PrintMore
def rowTab : Array Value := #[.string ⟨#[]⟩, .string ⟨#[61]⟩, .string ⟨#[61]⟩, .string ⟨#[61, 66]⟩, .string ⟨#[61, 66, 67]⟩, .string ⟨#[61, 66, 67]⟩, .string ⟨#[61, 66]⟩, .string ⟨#[61, 66]⟩, .string ⟨#[61, 66]⟩, .string ⟨#[65, 66]⟩, .string ⟨#[65, 66]⟩, .string ⟨#[65, 66, 67]⟩, .string ⟨#[65, 66, 67]⟩, .string ⟨#[61, 66]⟩, .string ⟨#[65]⟩, .string ⟨#[61, 42]⟩, .string ⟨#[61, 66, 42]⟩, .string ⟨#[]⟩, .string ⟨#[65]⟩, .string ⟨#[63]⟩, .string ⟨#[61]⟩]
def rowZero : Array Value := #[.string ⟨#[]⟩, .string ⟨#[]⟩, .string ⟨#[]⟩, .string ⟨#[]⟩, .string ⟨#[]⟩, .string ⟨#[]⟩, .string ⟨#[]⟩, .string ⟨#[]⟩, .string ⟨#[]⟩, .string ⟨#[]⟩, .string ⟨#[]⟩, .string ⟨#[]⟩, .string ⟨#[]⟩, .string ⟨#[]⟩, .string ⟨#[]⟩, .string ⟨#[]⟩, .string ⟨#[]⟩, .string ⟨#[]⟩, .string ⟨#[]⟩, .string ⟨#[]⟩, .string ⟨#[]⟩]
def rowS (op : Int) : ByteArray :=
  if op < 1 ∨ 20 < op then ⟨#[]⟩
  else if op = 1 ∨ op = 2 ∨ op = 20 then ⟨#[61]⟩
  else if op = 3 ∨ op = 6 ∨ op = 7 ∨ op = 8 ∨ op = 13 then ⟨#[61, 66]⟩
  else if op = 4 ∨ op = 5 then ⟨#[61, 66, 67]⟩
  else if op = 9 ∨ op = 10 then ⟨#[65, 66]⟩
  else if op = 11 ∨ op = 12 then ⟨#[65, 66, 67]⟩
  else if op = 14 ∨ op = 18 then ⟨#[65]⟩
  else if op = 15 then ⟨#[61, 42]⟩
  else if op = 16 then ⟨#[61, 66, 42]⟩
  else if op = 19 then ⟨#[63]⟩
  else ⟨#[]⟩
theorem ops_cases {op : Int} (h1 : 1 ≤ op) (h2 : op ≤ 20) : op = 1 ∨ op = 2 ∨ op = 3 ∨ op = 4 ∨ op = 5 ∨ op = 6 ∨ op = 7 ∨ op = 8 ∨ op = 9 ∨ op = 10 ∨ op = 11 ∨ op = 12 ∨ op = 13 ∨ op = 14 ∨ op = 15 ∨ op = 16 ∨ op = 17 ∨ op = 18 ∨ op = 19 ∨ op = 20 := by omega
theorem rowTab_at {op : Int} (h1 : 1 ≤ op) (h2 : op ≤ 20) : rowTab[op.toNat]? = some (.string (rowS op)) := by
  rcases ops_cases h1 h2 with rfl | rfl | rfl | rfl | rfl | rfl | rfl | rfl | rfl | rfl | rfl | rfl | rfl | rfl | rfl | rfl | rfl | rfl | rfl | rfl <;> rfl
theorem setRow_alloc (w : World) (a b : Array Value) (t : TypeId) : (w.alloc (.cells a t)).setRow w.heap.size b = w.alloc (.cells b t) := by
  unfold World.setRow World.alloc
  congr 1
  apply Array.ext
  · simp
  · intro i h1 h2
    simp only [Array.getElem_modify]
    split
    · rename_i h; subst h; simp
    · rename_i h
      rw [Array.getElem_push_lt (by simp at h1; omega), Array.getElem_push_lt (by simp at h1; omega)]
set_option maxHeartbeats 1600000 in
theorem row_calls (op : Int) (w : World) :
    Calls Tryd.prog 16 #[.int .i64 op] w fun e w' => e = .returned (.tuple #[.string (rowS op), .bool (decide (1 ≤ op) && decide (op ≤ 20))]) ∧ Below w.heap.size w w' := by
  have HB := Aside0.mk (below_alloc (Below.refl w.heap.size w) (.cells rowTab 60))
  have HC := Aside0.mk (blk_new w (.cells rowTab 60))
  by_cases h1 : op < 1
  · have hs : rowS op = ⟨#[]⟩ := by simp [rowS, h1]
    have e1 : (decide (1 ≤ op) && decide (op ≤ 20)) = false := by simp; omega
    rw [hs, e1]
    clear hs e1
    go_enter Tryd.func16, Tryd.ntmps16
    go_upto_region 1 with (fail)
    refine wp_region_lit ?_
    refine Go.Great.wpList_runTo rfl (some 5) rfl (.agg rowTab) w ?b0 (Go.Great.wpList_runTo rfl (some 4) rfl (.pointer (some ⟨w.heap.size, 0, none⟩)) (w.alloc (.cells rowZero 60)) ?c0 (wpList_store_row rfl 60 _ _ rfl w.heap.size rowTab rfl rfl 60 rowZero (blk_new w _) (by kernel_rfl) (by kernel_rfl) (by kernel_rfl) (wpList_nil ?_)))
    case b0 => kernel_rfl
    case c0 => kernel_rfl
    rw [setRow_alloc]
    simp only [Act.put, List.setIfInBounds_toArray, List.set_cons_zero, List.set_cons_succ]
    generalize w.alloc (.cells rowTab 60) = W at HB HC ⊢
    go_wp2_with fail
    exact bodyPost_ret (v := .tuple #[.string ⟨#[]⟩, .bool false]) (by simp [results, Tryd.results16, go_sem]) rfl ⟨rfl, HB.out⟩
  · by_cases h2 : 20 < op
    · have hs : rowS op = ⟨#[]⟩ := by simp [rowS, h2]
      have e1 : (decide (1 ≤ op) && decide (op ≤ 20)) = false := by simp; omega
      rw [hs, e1]
      clear hs e1
      go_enter Tryd.func16, Tryd.ntmps16
      go_upto_region 1 with (fail)
      refine wp_region_lit ?_
      refine Go.Great.wpList_runTo rfl (some 5) rfl (.agg rowTab) w ?b1 (Go.Great.wpList_runTo rfl (some 4) rfl (.pointer (some ⟨w.heap.size, 0, none⟩)) (w.alloc (.cells rowZero 60)) ?c1 (wpList_store_row rfl 60 _ _ rfl w.heap.size rowTab rfl rfl 60 rowZero (blk_new w _) (by kernel_rfl) (by kernel_rfl) (by kernel_rfl) (wpList_nil ?_)))
      case b1 => kernel_rfl
      case c1 => kernel_rfl
      rw [setRow_alloc]
      simp only [Act.put, List.setIfInBounds_toArray, List.set_cons_zero, List.set_cons_succ]
      generalize w.alloc (.cells rowTab 60) = W at HB HC ⊢
      go_wp2_with fail
      exact bodyPost_ret (v := .tuple #[.string ⟨#[]⟩, .bool false]) (by simp [results, Tryd.results16, go_sem]) rfl ⟨rfl, HB.out⟩
    · have e1 : (decide (1 ≤ op) && decide (op ≤ 20)) = true := by simp; omega
      rw [e1]
      clear e1
      have hc0 := (blk_cell HC.out op.toNat).trans (rowTab_at (by omega) (by omega))
      go_enter Tryd.func16, Tryd.ntmps16
      go_upto_region 1 with (fail)
      refine wp_region_lit ?_
      refine Go.Great.wpList_runTo rfl (some 5) rfl (.agg rowTab) w ?b2 (Go.Great.wpList_runTo rfl (some 4) rfl (.pointer (some ⟨w.heap.size, 0, none⟩)) (w.alloc (.cells rowZero 60)) ?c2 (wpList_store_row rfl 60 _ _ rfl w.heap.size rowTab rfl rfl 60 rowZero (blk_new w _) (by kernel_rfl) (by kernel_rfl) (by kernel_rfl) (wpList_nil ?_)))
      case b2 => kernel_rfl
      case c2 => kernel_rfl
      rw [setRow_alloc]
      simp only [Act.put, List.setIfInBounds_toArray, List.set_cons_zero, List.set_cons_succ]
      generalize w.alloc (.cells rowTab 60) = W at HB HC hc0 ⊢
      clear HC
      have h3 : 0 ≤ op := by omega
      have h4 : op < 21 := by omega
      go_wp2_with fail
      exact bodyPost_ret (v := .tuple #[.string (rowS op), .bool true]) (by simp [results, Tryd.results16, go_sem]) rfl ⟨rfl, HB.out⟩
end Go.Proofs.YtmiacdacebaagaaDoor.G
namespace Go.Proofs.YtmiacdacebaagaaDoor.G
open Go.RowKit Go.Proofs.YtmiacdacebaagaaDoorW.PrintWords Go.Proofs.YtmiacdacebaagaaDoorW.PrintLast Go.Proofs.YtmiacdacebaagaaDoorW.PrintMore
attribute [local go_sem] max2_int min2_int max_two min_two max_three min_three max_four min_four
set_option linter.unusedVariables false
set_option linter.unusedSimpArgs false
def stringslite_HasPrefix.f (a0 : ByteArray) (a1 : ByteArray) : Option (Bool) := if (a0.size : Int) ≥ (a1.size : Int) then (if 0 ≤ (a1.size : Int) then (if (a1.size : Int) ≤ (a0.size : Int) then (some ((a0.extract 0 ((a1.size : Int) : Int).toNat).toList == a1.toList)) else (none)) else (none)) else (some false)
set_option maxHeartbeats 8000000 in
set_option maxRecDepth 100000 in
theorem stringslite_HasPrefix.calls (a0 : ByteArray) (a1 : ByteArray) (r : Bool) (w : World) (h : stringslite_HasPrefix.f a0 a1 = some r) :
  Calls Tryd.prog 24 #[.string a0, .string a1] w fun e w' => e = .returned (.bool r) ∧ Drawn0 w w' := by
 have H : (if (a0.size : Int) ≥ (a1.size : Int) then (if 0 ≤ (a1.size : Int) then (if (a1.size : Int) ≤ (a0.size : Int) then (some ((a0.extract 0 ((a1.size : Int) : Int).toNat).toList == a1.toList)) else (none)) else (none)) else (some false)) = some r := h
 clear h
 by_cases c3 : (a0.size : Int) ≥ (a1.size : Int)
 ·rw [if_pos c3] at H
  have c3b0 : decide ((a1.size : Int) ≤ (a0.size : Int)) = true := decide_eq_true c3
  have c3b1 : decide (a1.size ≤ a0.size) = true := decide_eq_true (Int.ofNat_le.mp c3)
  clear c3
  by_cases c4 : 0 ≤ (a1.size : Int)
  ·rw [if_pos c4] at H
   have c4b0 := eq_true c4
   have c4b1 : decide (0 ≤ (a1.size : Int)) = true := decide_eq_true c4
   clear c4
   by_cases c5 : (a1.size : Int) ≤ (a0.size : Int)
   ·rw [if_pos c5] at H
    have c5b0 := eq_true c5
    have c5b1 : decide ((a1.size : Int) ≤ (a0.size : Int)) = true := decide_eq_true c5
    clear c5
    obtain rfl := Option.some.inj H
    go_enter Tryd.func24, Tryd.ntmps24
    go_wp2
    go_ret
    exact ⟨by first | rfl | (simp; done) | (simp [*]; done), by repeat (first | exact Drawn0.refl _ | apply Drawn0.step)⟩
   ·rw [if_neg c5] at H
    exact absurd H (by simp)
  ·rw [if_neg c4] at H
   exact absurd H (by simp)
 ·rw [if_neg c3] at H
  have c3b0 : decide ((a1.size : Int) ≤ (a0.size : Int)) = false := decide_eq_false c3
  have c3b1 : decide (a1.size ≤ a0.size) = false := decide_eq_false (fun h => c3 (Int.ofNat_le.mpr h))
  clear c3
  obtain rfl := Option.some.inj H
  go_enter Tryd.func24, Tryd.ntmps24
  go_wp2
  go_ret
  exact ⟨by first | rfl | (simp; done) | (simp [*]; done), by repeat (first | exact Drawn0.refl _ | apply Drawn0.step)⟩
def strings_HasPrefix.f (a0 : ByteArray) (a1 : ByteArray) : Option (Bool) := (stringslite_HasPrefix.f a0 a1).bind fun t102 => (some t102)
set_option maxHeartbeats 8000000 in
set_option maxRecDepth 100000 in
theorem strings_HasPrefix.calls (a0 : ByteArray) (a1 : ByteArray) (r : Bool) (w : World) (h : strings_HasPrefix.f a0 a1 = some r) :
  Calls Tryd.prog 17 #[.string a0, .string a1] w fun e w' => e = .returned (.bool r) ∧ Drawn0 w w' := by
 have H : ((stringslite_HasPrefix.f a0 a1).bind fun t102 => (some t102)) = some r := h
 clear h
 replace H := Option.bind_eq_some_iff.mp H
 obtain ⟨t102, A30, H⟩ := H
 replace H : (some t102) = some r := H
 have A3 := Aside0.mk A30
 clear A30
 obtain rfl := Option.some.inj H
 go_enter Tryd.func17, Tryd.ntmps17
 go_wp2_with (first | ((with_reducible refine gate_callee (f := 24) rfl ?_); refine goesL_ (some 7) rfl rfl Tryd.func24 (by kernel_rfl) rfl #[.string a0, .string a1] rfl (by (try simp only [List.map_toArray, List.map_cons, List.map_nil]); first | done | rfl | (simp only [List.length_drop, List.length_take]; rfl)) ?_; (with_reducible refine (stringslite_HasPrefix.calls a0 a1 t102 _ A3.out).mono ?_); rintro e w' ⟨rfl, ⟨nd, rfl⟩⟩; refine ⟨_, rfl, ?_⟩))
 go_ret
 exact ⟨by first | rfl | (simp; done) | (simp [*]; done), by repeat (first | exact Drawn0.refl _ | apply Drawn0.step)⟩
def ir_Next.f (a0_0 : Int) (a0_1 : Int) (a0_2 : Int) (a0_3 : Int) (a0_4 : Int) (a0_5 : Int) (a0_6 : ByteArray) (l0_7 : List Int) (a1 : Int) : Option (List Int) := if a0_0 = 19 then (some ([] : List Int)) else (if a0_0 = 17 then (some (([a0_5] : List Int))) else (if a0_0 = 18 then (if a0_5 = (wrap64 (a1 + 1)) then (some (([wrap64 (a1 + 1)] : List Int))) else (some (([wrap64 (a1 + 1), a0_5] : List Int)))) else (some (([wrap64 (a1 + 1)] : List Int)))))
set_option maxHeartbeats 8000000 in
set_option maxRecDepth 100000 in
theorem ir_Next.calls (a0_0 : Int) (a0_1 : Int) (a0_2 : Int) (a0_3 : Int) (a0_4 : Int) (a0_5 : Int) (a0_6 : ByteArray) (A0_7 : Option Addr) (c0_7 : Nat) (l0_7 : List Int) (a1 : Int) (r : List Int) (w : World) (hr0_7 : Kd.C (Kd.int .i64) w A0_7 l0_7.length l0_7) (hc0_7 : l0_7.length ≤ c0_7) (h : ir_Next.f a0_0 a0_1 a0_2 a0_3 a0_4 a0_5 a0_6 l0_7 a1 = some r) :
  Calls Tryd.prog 11 #[.agg #[.int .i64 a0_0, .int .i64 a0_1, .int .i64 a0_2, .int .i64 a0_3, .int .i64 a0_4, .int .i64 a0_5, .string a0_6, .slice A0_7 l0_7.length c0_7], .int .i64 a1] w fun e w' => ∃ v0_ : Value, e = .returned (v0_) ∧ Kd.R (Kd.int .i64) 3 w' w.heap.size (fun _ => True) v0_ r ∧ Below w.heap.size w w' := by
 have hu39 := Tryd.underlying39
 have HR0_7 := Aside0.mk hr0_7
 have HC0_7 := Aside0.mk hc0_7
 clear hr0_7 hc0_7
 have HB := Aside0.mk (Below.refl w.heap.size w)
 have H : (if a0_0 = 19 then (some ([] : List Int)) else (if a0_0 = 17 then (some (([a0_5] : List Int))) else (if a0_0 = 18 then (if a0_5 = (wrap64 (a1 + 1)) then (some (([wrap64 (a1 + 1)] : List Int))) else (some (([wrap64 (a1 + 1), a0_5] : List Int)))) else (some (([wrap64 (a1 + 1)] : List Int)))))) = some r := h
 clear h
 by_cases c3 : a0_0 = 19
 ·rw [if_pos c3] at H
  have c3b0 : (a0_0 == 19) = true := beq_iff_eq.mpr c3
  have c3b1 : (a0_0 != 19) = false := bne_eq_false_iff_eq.mpr c3
  clear c3
  obtain rfl := Option.some.inj H
  go_enter Tryd.func11, Tryd.ntmps11
  go_wp2_with (first | ((with_reducible refine gate_dst (N := 2) rfl ?_); refine box_event ?hg (N := 2) ?hd (cs := #[.int .i64 a0_0, .int .i64 a0_1, .int .i64 a0_2, .int .i64 a0_3, .int .i64 a0_4, .int .i64 a0_5, .string a0_6, .slice A0_7 l0_7.length c0_7]) (t := 39) ?hr ?_; (case hd => rfl); (case hg => rfl); (case hr => first | (go_simp; done) | (go_simp; rfl)); intro gb104 hg w4 hbox hb; have n0_ := Aside0.mk (below_step (by repeat (first | (with_reducible first | exact HB.out | apply below_alloc | apply pw_below_drewN | apply below_drew1) | exact HB.out)) hb); have n1_ := Aside0.mk (hbox); have n2_ := Aside0.mk ((by rw [hg]; exact (below_size (by repeat (first | (with_reducible first | exact HB.out | apply below_alloc | apply pw_below_drewN | apply below_drew1) | exact HB.out))) : w.heap.size ≤ gb104)); have n3_ := Aside0.mk ((by rw [hg]; exact (below_size (by repeat (first | (with_reducible first | exact HB.out | apply below_alloc | apply pw_below_drewN | apply below_drew1) | exact HB.out))) : w.heap.size ≤ gb104)); clear HB; have HB := n0_; have BK104 := n1_; have GW104 := n2_; have GE104 := n3_; clear n0_ n1_ n2_ n3_; clear hb hbox hg; have hcz5_0 : w4.cell? ⟨gb104, 0, none⟩ = some (.int .i64 a0_0) := (blk_cell BK104.out 0).trans rfl; have hcz5_1 : w4.cell? ⟨gb104, 1, none⟩ = some (.int .i64 a0_1) := (blk_cell BK104.out 1).trans rfl; have hcz5_2 : w4.cell? ⟨gb104, 2, none⟩ = some (.int .i64 a0_2) := (blk_cell BK104.out 2).trans rfl; have hcz5_3 : w4.cell? ⟨gb104, 3, none⟩ = some (.int .i64 a0_3) := (blk_cell BK104.out 3).trans rfl; have hcz5_4 : w4.cell? ⟨gb104, 4, none⟩ = some (.int .i64 a0_4) := (blk_cell BK104.out 4).trans rfl; have hcz5_5 : w4.cell? ⟨gb104, 5, none⟩ = some (.int .i64 a0_5) := (blk_cell BK104.out 5).trans rfl; have hcz5_6 : w4.cell? ⟨gb104, 6, none⟩ = some (.string a0_6) := (blk_cell BK104.out 6).trans rfl; have hcz5_7 : w4.cell? ⟨gb104, 7, none⟩ = some (.slice A0_7 l0_7.length c0_7) := (blk_cell BK104.out 7).trans rfl; have hfz5_0 := blk_frozen BK104.out 0; have hfz5_1 := blk_frozen BK104.out 1; have hfz5_2 := blk_frozen BK104.out 2; have hfz5_3 := blk_frozen BK104.out 3; have hfz5_4 := blk_frozen BK104.out 4; have hfz5_5 := blk_frozen BK104.out 5; have hfz5_6 := blk_frozen BK104.out 6; have hfz5_7 := blk_frozen BK104.out 7))
  go_ret
  exact ⟨_, by first | rfl | (simp [errW_none, errW_some] <;> rfl) | (simp [*, errW_none, errW_some] <;> rfl), by first | exact Kd.R_nil _ _ _ _ _ | exact Kd.N_nil _ _ _ _ _ | exact Kd.V_nil _ _ _ _ _ | exact Kd.Q_nil _ _ _ _ _ | exact Kd.S_nil _ _ _ _ _, by repeat (first | (with_reducible first | exact HB.out | apply below_alloc | apply pw_below_drewN | apply below_drew1 | refine below_set ?_ GE104.out) | exact HB.out)⟩
 ·rw [if_neg c3] at H
  have c3b0 : (a0_0 == 19) = false := beq_eq_false_iff_ne.mpr c3
  have c3b1 : (a0_0 != 19) = true := bne_iff_ne.mpr c3
  by_cases c6 : a0_0 = 17
  ·rw [if_pos c6] at H
   have c6b0 : (a0_0 == 17) = true := beq_iff_eq.mpr c6
   have c6b1 : (a0_0 != 17) = false := bne_eq_false_iff_eq.mpr c6
   clear c6
   obtain ⟨y105, hy105⟩ : ∃ y_ : List Int, y_ = (([a0_5] : List Int)) := ⟨_, rfl⟩
   replace H : (some y105) = some r := by first | (rw [hy105]; with_reducible exact H) | (have H2_ := (Option.bind_some _ _).symm.trans H; rw [hy105]; with_reducible exact H2_) | (have H2_ := (Option.bind_some _ _).symm.trans H; with_reducible exact H2_) | with_reducible exact H | (rw [hy105]; exact H) | exact H
   have Ny105 := Aside0.mk hy105
   clear hy105
   obtain rfl := Option.some.inj H
   go_enter Tryd.func11, Tryd.ntmps11
   go_wp2_with (first | ((with_reducible refine gate_dst (N := 2) rfl ?_); refine box_event ?hg (N := 2) ?hd (cs := #[.int .i64 a0_0, .int .i64 a0_1, .int .i64 a0_2, .int .i64 a0_3, .int .i64 a0_4, .int .i64 a0_5, .string a0_6, .slice A0_7 l0_7.length c0_7]) (t := 39) ?hr ?_; (case hd => rfl); (case hg => rfl); (case hr => first | (go_simp; done) | (go_simp; rfl)); intro gb104 hg w7 hbox hb; have n0_ := Aside0.mk (below_step (by repeat (first | (with_reducible first | exact HB.out | apply below_alloc | apply pw_below_drewN | apply below_drew1) | exact HB.out)) hb); have n1_ := Aside0.mk (hbox); have n2_ := Aside0.mk ((by rw [hg]; exact (below_size (by repeat (first | (with_reducible first | exact HB.out | apply below_alloc | apply pw_below_drewN | apply below_drew1) | exact HB.out))) : w.heap.size ≤ gb104)); have n3_ := Aside0.mk ((by rw [hg]; exact (below_size (by repeat (first | (with_reducible first | exact HB.out | apply below_alloc | apply pw_below_drewN | apply below_drew1) | exact HB.out))) : w.heap.size ≤ gb104)); clear HB; have HB := n0_; have BK104 := n1_; have GW104 := n2_; have GE104 := n3_; clear n0_ n1_ n2_ n3_; clear hb hbox hg; have hcz8_0 : w7.cell? ⟨gb104, 0, none⟩ = some (.int .i64 a0_0) := (blk_cell BK104.out 0).trans rfl; have hcz8_1 : w7.cell? ⟨gb104, 1, none⟩ = some (.int .i64 a0_1) := (blk_cell BK104.out 1).trans rfl; have hcz8_2 : w7.cell? ⟨gb104, 2, none⟩ = some (.int .i64 a0_2) := (blk_cell BK104.out 2).trans rfl; have hcz8_3 : w7.cell? ⟨gb104, 3, none⟩ = some (.int .i64 a0_3) := (blk_cell BK104.out 3).trans rfl; have hcz8_4 : w7.cell? ⟨gb104, 4, none⟩ = some (.int .i64 a0_4) := (blk_cell BK104.out 4).trans rfl; have hcz8_5 : w7.cell? ⟨gb104, 5, none⟩ = some (.int .i64 a0_5) := (blk_cell BK104.out 5).trans rfl; have hcz8_6 : w7.cell? ⟨gb104, 6, none⟩ = some (.string a0_6) := (blk_cell BK104.out 6).trans rfl; have hcz8_7 : w7.cell? ⟨gb104, 7, none⟩ = some (.slice A0_7 l0_7.length c0_7) := (blk_cell BK104.out 7).trans rfl; have hfz8_0 := blk_frozen BK104.out 0; have hfz8_1 := blk_frozen BK104.out 1; have hfz8_2 := blk_frozen BK104.out 2; have hfz8_3 := blk_frozen BK104.out 3; have hfz8_4 := blk_frozen BK104.out 4; have hfz8_5 := blk_frozen BK104.out 5; have hfz8_6 := blk_frozen BK104.out 6; have hfz8_7 := blk_frozen BK104.out 7) | ((with_reducible refine gate_dst (N := 15) rfl ?_); refine Kd.R_lit (Kd.int .i64) _ 3 ?hg (N := 15) ?hd (xs := ([a0_5] : List Int)) (inner := [.int .i64 a0_5]) (ok := fun _ => True) (okp := fun _ => True) ?hr ?hp (fun _ hk => hk) trivial (Below.refl _ _) (Nat.le_refl _) (by simp) ?_; (case hd => rfl); (case hg => rfl); (case hr => first | (go_simp; done) | (go_simp; rfl)); (case hp => exact (Reps.one (show Kd.M (Kd.int .i64) _ _ _ a0_5 [.int .i64 a0_5] from rfl) (Reps.none _ _))); intro v106 w9 ho10 hb hg_ hnew_; clear hg_ hnew_; (first | rw [← Ny105.out] at ho10 | (simp only [Int.reduceToNat] at ho10; rw [← Ny105.out] at ho10)); have n0_ := Aside0.mk (Kd.R_lower ho10 (below_size (by repeat (first | (with_reducible first | exact HB.out | apply below_alloc | apply pw_below_drewN | apply below_drew1 | refine below_set ?_ GE104.out) | exact HB.out)))); have n1_ := Aside0.mk (blk_below (g := gb104) (o := .cells #[.int .i64 a0_0, .int .i64 a0_1, .int .i64 a0_2, .int .i64 a0_3, .int .i64 a0_4, .int .i64 a0_5, .string a0_6, .slice A0_7 l0_7.length c0_7] 39 (0, 0)) (by (with_reducible repeat (first | refine blk_drewN ?_ _ | refine blk_drew ?_ | refine blk_alloc ?_ _)); exact BK104.out) hb); have n2_ := Aside0.mk (below_step (by repeat (first | (with_reducible first | exact HB.out | apply below_alloc | apply pw_below_drewN | apply below_drew1 | refine below_set ?_ GE104.out) | exact HB.out)) hb); clear BK104; clear HB; have HO107 := n0_; have BK104 := n1_; have HB := n2_; clear n0_ n1_ n2_; clear hb ho10))
   go_ret
   exact ⟨_, by first | rfl | (simp [errW_none, errW_some] <;> rfl) | (simp [*, errW_none, errW_some] <;> rfl), by (with_reducible repeat (first | apply Kd.R_alloc | apply Kd.R_drewN | apply Kd.R_drew)); exact HO107.out, by repeat (first | (with_reducible first | exact HB.out | apply below_alloc | apply pw_below_drewN | apply below_drew1 | refine below_set ?_ GE104.out) | exact HB.out)⟩
  ·rw [if_neg c6] at H
   have c6b0 : (a0_0 == 17) = false := beq_eq_false_iff_ne.mpr c6
   have c6b1 : (a0_0 != 17) = true := bne_iff_ne.mpr c6
   by_cases c11 : a0_0 = 18
   ·rw [if_pos c11] at H
    have c11b0 : (a0_0 == 18) = true := beq_iff_eq.mpr c11
    have c11b1 : (a0_0 != 18) = false := bne_eq_false_iff_eq.mpr c11
    clear c11
    by_cases c12 : a0_5 = (wrap64 (a1 + 1))
    ·rw [if_pos c12] at H
     have c12b0 : (a0_5 == (wrap64 (a1 + 1))) = true := beq_iff_eq.mpr c12
     have c12b1 : (a0_5 != (wrap64 (a1 + 1))) = false := bne_eq_false_iff_eq.mpr c12
     clear c12
     obtain ⟨y108, hy108⟩ : ∃ y_ : List Int, y_ = (([wrap64 (a1 + 1)] : List Int)) := ⟨_, rfl⟩
     replace H : (some y108) = some r := by first | (rw [hy108]; with_reducible exact H) | (have H2_ := (Option.bind_some _ _).symm.trans H; rw [hy108]; with_reducible exact H2_) | (have H2_ := (Option.bind_some _ _).symm.trans H; with_reducible exact H2_) | with_reducible exact H | (rw [hy108]; exact H) | exact H
     have Ny108 := Aside0.mk hy108
     clear hy108
     obtain rfl := Option.some.inj H
     go_enter Tryd.func11, Tryd.ntmps11
     go_wp2_with (first | ((with_reducible refine gate_dst (N := 2) rfl ?_); refine box_event ?hg (N := 2) ?hd (cs := #[.int .i64 a0_0, .int .i64 a0_1, .int .i64 a0_2, .int .i64 a0_3, .int .i64 a0_4, .int .i64 a0_5, .string a0_6, .slice A0_7 l0_7.length c0_7]) (t := 39) ?hr ?_; (case hd => rfl); (case hg => rfl); (case hr => first | (go_simp; done) | (go_simp; rfl)); intro gb104 hg w13 hbox hb; have n0_ := Aside0.mk (below_step (by repeat (first | (with_reducible first | exact HB.out | apply below_alloc | apply pw_below_drewN | apply below_drew1) | exact HB.out)) hb); have n1_ := Aside0.mk (hbox); have n2_ := Aside0.mk ((by rw [hg]; exact (below_size (by repeat (first | (with_reducible first | exact HB.out | apply below_alloc | apply pw_below_drewN | apply below_drew1) | exact HB.out))) : w.heap.size ≤ gb104)); have n3_ := Aside0.mk ((by rw [hg]; exact (below_size (by repeat (first | (with_reducible first | exact HB.out | apply below_alloc | apply pw_below_drewN | apply below_drew1) | exact HB.out))) : w.heap.size ≤ gb104)); clear HB; have HB := n0_; have BK104 := n1_; have GW104 := n2_; have GE104 := n3_; clear n0_ n1_ n2_ n3_; clear hb hbox hg; have hcz14_0 : w13.cell? ⟨gb104, 0, none⟩ = some (.int .i64 a0_0) := (blk_cell BK104.out 0).trans rfl; have hcz14_1 : w13.cell? ⟨gb104, 1, none⟩ = some (.int .i64 a0_1) := (blk_cell BK104.out 1).trans rfl; have hcz14_2 : w13.cell? ⟨gb104, 2, none⟩ = some (.int .i64 a0_2) := (blk_cell BK104.out 2).trans rfl; have hcz14_3 : w13.cell? ⟨gb104, 3, none⟩ = some (.int .i64 a0_3) := (blk_cell BK104.out 3).trans rfl; have hcz14_4 : w13.cell? ⟨gb104, 4, none⟩ = some (.int .i64 a0_4) := (blk_cell BK104.out 4).trans rfl; have hcz14_5 : w13.cell? ⟨gb104, 5, none⟩ = some (.int .i64 a0_5) := (blk_cell BK104.out 5).trans rfl; have hcz14_6 : w13.cell? ⟨gb104, 6, none⟩ = some (.string a0_6) := (blk_cell BK104.out 6).trans rfl; have hcz14_7 : w13.cell? ⟨gb104, 7, none⟩ = some (.slice A0_7 l0_7.length c0_7) := (blk_cell BK104.out 7).trans rfl; have hfz14_0 := blk_frozen BK104.out 0; have hfz14_1 := blk_frozen BK104.out 1; have hfz14_2 := blk_frozen BK104.out 2; have hfz14_3 := blk_frozen BK104.out 3; have hfz14_4 := blk_frozen BK104.out 4; have hfz14_5 := blk_frozen BK104.out 5; have hfz14_6 := blk_frozen BK104.out 6; have hfz14_7 := blk_frozen BK104.out 7) | ((with_reducible refine gate_dst (N := 34) rfl ?_); refine Kd.R_lit (Kd.int .i64) _ 3 ?hg (N := 34) ?hd (xs := ([wrap64 (a1 + 1)] : List Int)) (inner := [.int .i64 (wrap64 (a1 + 1))]) (ok := fun _ => True) (okp := fun _ => True) ?hr ?hp (fun _ hk => hk) trivial (Below.refl _ _) (Nat.le_refl _) (by simp) ?_; (case hd => rfl); (case hg => rfl); (case hr => first | (go_simp; done) | (go_simp; rfl)); (case hp => exact (Reps.one (show Kd.M (Kd.int .i64) _ _ _ (wrap64 (a1 + 1)) [.int .i64 (wrap64 (a1 + 1))] from rfl) (Reps.none _ _))); intro v109 w15 ho16 hb hg_ hnew_; clear hg_ hnew_; (first | rw [← Ny108.out] at ho16 | (simp only [Int.reduceToNat] at ho16; rw [← Ny108.out] at ho16)); have n0_ := Aside0.mk (Kd.R_lower ho16 (below_size (by repeat (first | (with_reducible first | exact HB.out | apply below_alloc | apply pw_below_drewN | apply below_drew1 | refine below_set ?_ GE104.out) | exact HB.out)))); have n1_ := Aside0.mk (blk_below (g := gb104) (o := .cells #[.int .i64 a0_0, .int .i64 a0_1, .int .i64 a0_2, .int .i64 a0_3, .int .i64 a0_4, .int .i64 a0_5, .string a0_6, .slice A0_7 l0_7.length c0_7] 39 (0, 0)) (by (with_reducible repeat (first | refine blk_drewN ?_ _ | refine blk_drew ?_ | refine blk_alloc ?_ _)); exact BK104.out) hb); have n2_ := Aside0.mk (below_step (by repeat (first | (with_reducible first | exact HB.out | apply below_alloc | apply pw_below_drewN | apply below_drew1 | refine below_set ?_ GE104.out) | exact HB.out)) hb); clear BK104; clear HB; have HO110 := n0_; have BK104 := n1_; have HB := n2_; clear n0_ n1_ n2_; clear hb ho16))
     go_ret
     exact ⟨_, by first | rfl | (simp [errW_none, errW_some] <;> rfl) | (simp [*, errW_none, errW_some] <;> rfl), by (with_reducible repeat (first | apply Kd.R_alloc | apply Kd.R_drewN | apply Kd.R_drew)); exact HO110.out, by repeat (first | (with_reducible first | exact HB.out | apply below_alloc | apply pw_below_drewN | apply below_drew1 | refine below_set ?_ GE104.out) | exact HB.out)⟩
    ·rw [if_neg c12] at H
     have c12b0 : (a0_5 == (wrap64 (a1 + 1))) = false := beq_eq_false_iff_ne.mpr c12
     have c12b1 : (a0_5 != (wrap64 (a1 + 1))) = true := bne_iff_ne.mpr c12
     obtain ⟨y111, hy111⟩ : ∃ y_ : List Int, y_ = (([wrap64 (a1 + 1), a0_5] : List Int)) := ⟨_, rfl⟩
     replace H : (some y111) = some r := by first | (rw [hy111]; with_reducible exact H) | (have H2_ := (Option.bind_some _ _).symm.trans H; rw [hy111]; with_reducible exact H2_) | (have H2_ := (Option.bind_some _ _).symm.trans H; with_reducible exact H2_) | with_reducible exact H | (rw [hy111]; exact H) | exact H
     have Ny111 := Aside0.mk hy111
     clear hy111
     obtain rfl := Option.some.inj H
     go_enter Tryd.func11, Tryd.ntmps11
     go_wp2_with (first | ((with_reducible refine gate_dst (N := 2) rfl ?_); refine box_event ?hg (N := 2) ?hd (cs := #[.int .i64 a0_0, .int .i64 a0_1, .int .i64 a0_2, .int .i64 a0_3, .int .i64 a0_4, .int .i64 a0_5, .string a0_6, .slice A0_7 l0_7.length c0_7]) (t := 39) ?hr ?_; (case hd => rfl); (case hg => rfl); (case hr => first | (go_simp; done) | (go_simp; rfl)); intro gb104 hg w17 hbox hb; have n0_ := Aside0.mk (below_step (by repeat (first | (with_reducible first | exact HB.out | apply below_alloc | apply pw_below_drewN | apply below_drew1) | exact HB.out)) hb); have n1_ := Aside0.mk (hbox); have n2_ := Aside0.mk ((by rw [hg]; exact (below_size (by repeat (first | (with_reducible first | exact HB.out | apply below_alloc | apply pw_below_drewN | apply below_drew1) | exact HB.out))) : w.heap.size ≤ gb104)); have n3_ := Aside0.mk ((by rw [hg]; exact (below_size (by repeat (first | (with_reducible first | exact HB.out | apply below_alloc | apply pw_below_drewN | apply below_drew1) | exact HB.out))) : w.heap.size ≤ gb104)); clear HB; have HB := n0_; have BK104 := n1_; have GW104 := n2_; have GE104 := n3_; clear n0_ n1_ n2_ n3_; clear hb hbox hg; have hcz18_0 : w17.cell? ⟨gb104, 0, none⟩ = some (.int .i64 a0_0) := (blk_cell BK104.out 0).trans rfl; have hcz18_1 : w17.cell? ⟨gb104, 1, none⟩ = some (.int .i64 a0_1) := (blk_cell BK104.out 1).trans rfl; have hcz18_2 : w17.cell? ⟨gb104, 2, none⟩ = some (.int .i64 a0_2) := (blk_cell BK104.out 2).trans rfl; have hcz18_3 : w17.cell? ⟨gb104, 3, none⟩ = some (.int .i64 a0_3) := (blk_cell BK104.out 3).trans rfl; have hcz18_4 : w17.cell? ⟨gb104, 4, none⟩ = some (.int .i64 a0_4) := (blk_cell BK104.out 4).trans rfl; have hcz18_5 : w17.cell? ⟨gb104, 5, none⟩ = some (.int .i64 a0_5) := (blk_cell BK104.out 5).trans rfl; have hcz18_6 : w17.cell? ⟨gb104, 6, none⟩ = some (.string a0_6) := (blk_cell BK104.out 6).trans rfl; have hcz18_7 : w17.cell? ⟨gb104, 7, none⟩ = some (.slice A0_7 l0_7.length c0_7) := (blk_cell BK104.out 7).trans rfl; have hfz18_0 := blk_frozen BK104.out 0; have hfz18_1 := blk_frozen BK104.out 1; have hfz18_2 := blk_frozen BK104.out 2; have hfz18_3 := blk_frozen BK104.out 3; have hfz18_4 := blk_frozen BK104.out 4; have hfz18_5 := blk_frozen BK104.out 5; have hfz18_6 := blk_frozen BK104.out 6; have hfz18_7 := blk_frozen BK104.out 7) | ((with_reducible refine gate_dst (N := 31) rfl ?_); refine Kd.R_lit (Kd.int .i64) _ 3 ?hg (N := 31) ?hd (xs := ([wrap64 (a1 + 1), a0_5] : List Int)) (inner := [.int .i64 (wrap64 (a1 + 1)), .int .i64 a0_5]) (ok := fun _ => True) (okp := fun _ => True) ?hr ?hp (fun _ hk => hk) trivial (Below.refl _ _) (Nat.le_refl _) (by simp) ?_; (case hd => rfl); (case hg => rfl); (case hr => first | (go_simp; done) | (go_simp; rfl)); (case hp => exact (Reps.one (show Kd.M (Kd.int .i64) _ _ _ (wrap64 (a1 + 1)) [.int .i64 (wrap64 (a1 + 1))] from rfl) (Reps.one (show Kd.M (Kd.int .i64) _ _ _ a0_5 [.int .i64 a0_5] from rfl) (Reps.none _ _)))); intro v112 w19 ho20 hb hg_ hnew_; clear hg_ hnew_; (first | rw [← Ny111.out] at ho20 | (simp only [Int.reduceToNat] at ho20; rw [← Ny111.out] at ho20)); have n0_ := Aside0.mk (Kd.R_lower ho20 (below_size (by repeat (first | (with_reducible first | exact HB.out | apply below_alloc | apply pw_below_drewN | apply below_drew1 | refine below_set ?_ GE104.out) | exact HB.out)))); have n1_ := Aside0.mk (blk_below (g := gb104) (o := .cells #[.int .i64 a0_0, .int .i64 a0_1, .int .i64 a0_2, .int .i64 a0_3, .int .i64 a0_4, .int .i64 a0_5, .string a0_6, .slice A0_7 l0_7.length c0_7] 39 (0, 0)) (by (with_reducible repeat (first | refine blk_drewN ?_ _ | refine blk_drew ?_ | refine blk_alloc ?_ _)); exact BK104.out) hb); have n2_ := Aside0.mk (below_step (by repeat (first | (with_reducible first | exact HB.out | apply below_alloc | apply pw_below_drewN | apply below_drew1 | refine below_set ?_ GE104.out) | exact HB.out)) hb); clear BK104; clear HB; have HO113 := n0_; have BK104 := n1_; have HB := n2_; clear n0_ n1_ n2_; clear hb ho20))
     go_ret
     exact ⟨_, by first | rfl | (simp [errW_none, errW_some] <;> rfl) | (simp [*, errW_none, errW_some] <;> rfl), by (with_reducible repeat (first | apply Kd.R_alloc | apply Kd.R_drewN | apply Kd.R_drew)); exact HO113.out, by repeat (first | (with_reducible first | exact HB.out | apply below_alloc | apply pw_below_drewN | apply below_drew1 | refine below_set ?_ GE104.out) | exact HB.out)⟩
   ·rw [if_neg c11] at H
    have c11b0 : (a0_0 == 18) = false := beq_eq_false_iff_ne.mpr c11
    have c11b1 : (a0_0 != 18) = true := bne_iff_ne.mpr c11
    obtain ⟨y114, hy114⟩ : ∃ y_ : List Int, y_ = (([wrap64 (a1 + 1)] : List Int)) := ⟨_, rfl⟩
    replace H : (some y114) = some r := by first | (rw [hy114]; with_reducible exact H) | (have H2_ := (Option.bind_some _ _).symm.trans H; rw [hy114]; with_reducible exact H2_) | (have H2_ := (Option.bind_some _ _).symm.trans H; with_reducible exact H2_) | with_reducible exact H | (rw [hy114]; exact H) | exact H
    have Ny114 := Aside0.mk hy114
    clear hy114
    obtain rfl := Option.some.inj H
    go_enter Tryd.func11, Tryd.ntmps11
    go_wp2_with (first | ((with_reducible refine gate_dst (N := 2) rfl ?_); refine box_event ?hg (N := 2) ?hd (cs := #[.int .i64 a0_0, .int .i64 a0_1, .int .i64 a0_2, .int .i64 a0_3, .int .i64 a0_4, .int .i64 a0_5, .string a0_6, .slice A0_7 l0_7.length c0_7]) (t := 39) ?hr ?_; (case hd => rfl); (case hg => rfl); (case hr => first | (go_simp; done) | (go_simp; rfl)); intro gb104 hg w21 hbox hb; have n0_ := Aside0.mk (below_step (by repeat (first | (with_reducible first | exact HB.out | apply below_alloc | apply pw_below_drewN | apply below_drew1) | exact HB.out)) hb); have n1_ := Aside0.mk (hbox); have n2_ := Aside0.mk ((by rw [hg]; exact (below_size (by repeat (first | (with_reducible first | exact HB.out | apply below_alloc | apply pw_below_drewN | apply below_drew1) | exact HB.out))) : w.heap.size ≤ gb104)); have n3_ := Aside0.mk ((by rw [hg]; exact (below_size (by repeat (first | (with_reducible first | exact HB.out | apply below_alloc | apply pw_below_drewN | apply below_drew1) | exact HB.out))) : w.heap.size ≤ gb104)); clear HB; have HB := n0_; have BK104 := n1_; have GW104 := n2_; have GE104 := n3_; clear n0_ n1_ n2_ n3_; clear hb hbox hg; have hcz22_0 : w21.cell? ⟨gb104, 0, none⟩ = some (.int .i64 a0_0) := (blk_cell BK104.out 0).trans rfl; have hcz22_1 : w21.cell? ⟨gb104, 1, none⟩ = some (.int .i64 a0_1) := (blk_cell BK104.out 1).trans rfl; have hcz22_2 : w21.cell? ⟨gb104, 2, none⟩ = some (.int .i64 a0_2) := (blk_cell BK104.out 2).trans rfl; have hcz22_3 : w21.cell? ⟨gb104, 3, none⟩ = some (.int .i64 a0_3) := (blk_cell BK104.out 3).trans rfl; have hcz22_4 : w21.cell? ⟨gb104, 4, none⟩ = some (.int .i64 a0_4) := (blk_cell BK104.out 4).trans rfl; have hcz22_5 : w21.cell? ⟨gb104, 5, none⟩ = some (.int .i64 a0_5) := (blk_cell BK104.out 5).trans rfl; have hcz22_6 : w21.cell? ⟨gb104, 6, none⟩ = some (.string a0_6) := (blk_cell BK104.out 6).trans rfl; have hcz22_7 : w21.cell? ⟨gb104, 7, none⟩ = some (.slice A0_7 l0_7.length c0_7) := (blk_cell BK104.out 7).trans rfl; have hfz22_0 := blk_frozen BK104.out 0; have hfz22_1 := blk_frozen BK104.out 1; have hfz22_2 := blk_frozen BK104.out 2; have hfz22_3 := blk_frozen BK104.out 3; have hfz22_4 := blk_frozen BK104.out 4; have hfz22_5 := blk_frozen BK104.out 5; have hfz22_6 := blk_frozen BK104.out 6; have hfz22_7 := blk_frozen BK104.out 7) | ((with_reducible refine gate_dst (N := 34) rfl ?_); refine Kd.R_lit (Kd.int .i64) _ 3 ?hg (N := 34) ?hd (xs := ([wrap64 (a1 + 1)] : List Int)) (inner := [.int .i64 (wrap64 (a1 + 1))]) (ok := fun _ => True) (okp := fun _ => True) ?hr ?hp (fun _ hk => hk) trivial (Below.refl _ _) (Nat.le_refl _) (by simp) ?_; (case hd => rfl); (case hg => rfl); (case hr => first | (go_simp; done) | (go_simp; rfl)); (case hp => exact (Reps.one (show Kd.M (Kd.int .i64) _ _ _ (wrap64 (a1 + 1)) [.int .i64 (wrap64 (a1 + 1))] from rfl) (Reps.none _ _))); intro v115 w23 ho24 hb hg_ hnew_; clear hg_ hnew_; (first | rw [← Ny114.out] at ho24 | (simp only [Int.reduceToNat] at ho24; rw [← Ny114.out] at ho24)); have n0_ := Aside0.mk (Kd.R_lower ho24 (below_size (by repeat (first | (with_reducible first | exact HB.out | apply below_alloc | apply pw_below_drewN | apply below_drew1 | refine below_set ?_ GE104.out) | exact HB.out)))); have n1_ := Aside0.mk (blk_below (g := gb104) (o := .cells #[.int .i64 a0_0, .int .i64 a0_1, .int .i64 a0_2, .int .i64 a0_3, .int .i64 a0_4, .int .i64 a0_5, .string a0_6, .slice A0_7 l0_7.length c0_7] 39 (0, 0)) (by (with_reducible repeat (first | refine blk_drewN ?_ _ | refine blk_drew ?_ | refine blk_alloc ?_ _)); exact BK104.out) hb); have n2_ := Aside0.mk (below_step (by repeat (first | (with_reducible first | exact HB.out | apply below_alloc | apply pw_below_drewN | apply below_drew1 | refine below_set ?_ GE104.out) | exact HB.out)) hb); clear BK104; clear HB; have HO116 := n0_; have BK104 := n1_; have HB := n2_; clear n0_ n1_ n2_; clear hb ho24))
    go_ret
    exact ⟨_, by first | rfl | (simp [errW_none, errW_some] <;> rfl) | (simp [*, errW_none, errW_some] <;> rfl), by (with_reducible repeat (first | apply Kd.R_alloc | apply Kd.R_drewN | apply Kd.R_drew)); exact HO116.out, by repeat (first | (with_reducible first | exact HB.out | apply below_alloc | apply pw_below_drewN | apply below_drew1 | refine below_set ?_ GE104.out) | exact HB.out)⟩
def crosstreeref06_Ints.l0 : Nat → List Int → List Int → Int → Option (Bool)
 | 0, _, _, _ => none
 | k + 1, x0, x1, x5 => if x5 < (x0.length : Int) then (if 0 ≤ x5 then (if x5 < (x1.length : Int) then (if (rd x0 x5) = (rd x1 x5) then (crosstreeref06_Ints.l0 k x0 x1 (wrap64 (x5 + 1))) else (some false)) else (none)) else (none)) else (some true)
def crosstreeref06_Ints.f (k : Nat) (l0 : List Int) (l1 : List Int) : Option (Bool) := if (l0.length : Int) = (l1.length : Int) then (crosstreeref06_Ints.l0 k l0 l1 0) else (some false)
set_option maxHeartbeats 8000000 in
set_option maxRecDepth 100000 in
theorem crosstreeref06_Ints.calls (k : Nat) (A0 : Option Addr) (c0 : Nat) (l0 : List Int) (A1 : Option Addr) (c1 : Nat) (l1 : List Int) (r : Bool) (w : World) (hr0 : Kd.C (Kd.int .i64) w A0 l0.length l0) (hc0 : l0.length ≤ c0) (hr1 : Kd.C (Kd.int .i64) w A1 l1.length l1) (hc1 : l1.length ≤ c1) (h : crosstreeref06_Ints.f k l0 l1 = some r) :
  Calls Tryd.prog 12 #[.slice A0 l0.length c0, .slice A1 l1.length c1] w fun e w' => e = .returned (.bool r) ∧ Drawn0 w w' := by
 have HR0 := Aside0.mk hr0
 have HC0 := Aside0.mk hc0
 clear hr0 hc0
 have HR1 := Aside0.mk hr1
 have HC1 := Aside0.mk hc1
 clear hr1 hc1
 have H : (if (l0.length : Int) = (l1.length : Int) then (crosstreeref06_Ints.l0 k l0 l1 0) else (some false)) = some r := h
 clear h
 by_cases c3 : (l0.length : Int) = (l1.length : Int)
 ·rw [if_pos c3] at H
  have c3b0 : ((l0.length : Int) == (l1.length : Int)) = true := beq_iff_eq.mpr c3
  have c3b1 : ((l0.length : Int) != (l1.length : Int)) = false := bne_eq_false_iff_eq.mpr c3
  have c3b2 : (l0.length == l1.length) = true := by first | simpa using c3 | (simp at c3 ⊢; omega)
  clear c3
  have H' := Aside0.mk H
  clear H
  go_enter Tryd.func12, Tryd.ntmps12
  go_wp2
  repeat (go_quiet (fail); try go_wp2)
  go_loopg [5] k (fun kq v5 w' => ∃ (x5_1 : Int), v5 = .int .i64 x5_1 ∧ Aside0 (crosstreeref06_Ints.l0 kq l0 l1 x5_1 = some r) ∧ Aside0 (kq ≤ k) ∧ Drawn0 w w')
  case atStart => exact ⟨(0), (by first | rfl | (simp; done) | (simp [*]; done)), H', ⟨Nat.le_refl _⟩, by repeat (first | exact Drawn0.refl _ | apply Drawn0.step)⟩
  case round =>
   clear H'
   try clear c1
   try clear p2
   try clear c3
   try clear c3b0
   try clear c3b1
   try clear c3b2
   obtain ⟨x5_1, rfl, HA, HK1, ⟨m1, rfl⟩⟩ := hrel
   cases gk with
   | zero => exact absurd HA.out (by simp [crosstreeref06_Ints.l0])
   | succ k1 =>
    have H := HA.out
    clear HA
    simp only [crosstreeref06_Ints.l0] at H
    by_cases c4 : x5_1 < (l0.length : Int)
    ·rw [if_pos c4] at H
     have c4b0 : decide (x5_1 < (l0.length : Int)) = true := decide_eq_true c4
     clear c4
     by_cases c5 : 0 ≤ x5_1
     ·rw [if_pos c5] at H
      have c5b0 : decide (0 ≤ x5_1) = true := decide_eq_true c5
      clear c5
      by_cases c6 : x5_1 < (l1.length : Int)
      ·rw [if_pos c6] at H
       have c6b0 : decide (x5_1 < (l1.length : Int)) = true := decide_eq_true c6
       clear c6
       by_cases c7 : (rd l0 x5_1) = (rd l1 x5_1)
       ·rw [if_pos c7] at H
        have c7b0 : ((rd l0 x5_1) == (rd l1 x5_1)) = true := beq_iff_eq.mpr c7
        have c7b1 : ((rd l0 x5_1) != (rd l1 x5_1)) = false := bne_eq_false_iff_eq.mpr c7
        clear c7
        have H' := Aside0.mk H
        clear H
        have p117 : 0 ≤ (x5_1 : Int) := of_decide_eq_true (by first | (with_reducible assumption) | assumption)
        have q117 : x5_1 < (l0.length : Int) := of_decide_eq_true (by first | (with_reducible assumption) | assumption)
        obtain ⟨ad117, e117, hx117_0⟩ := Kd.at_int HR0.out x5_1 p117 q117
        cases e117
        replace p117 := eq_true p117
        replace q117 := eq_true q117
        have p118 : 0 ≤ (x5_1 : Int) := of_decide_eq_true (by first | (with_reducible assumption) | assumption)
        have q118 : x5_1 < (l1.length : Int) := of_decide_eq_true (by first | (with_reducible assumption) | assumption)
        obtain ⟨ad118, e118, hx118_0⟩ := Kd.at_int HR1.out x5_1 p118 q118
        cases e118
        replace p118 := eq_true p118
        replace q118 := eq_true q118
        go_wp2
        repeat (go_quiet (fail); try go_wp2)
        go_roundg k1
        case measure => have := HK1.out; omega
        case rel => exact ⟨(wrap64 (x5_1 + 1)), (by first | rfl | (simp; done) | (simp [*]; done)), H', ⟨by have := HK1.out; omega⟩, by repeat (first | exact Drawn0.refl _ | apply Drawn0.step)⟩
       ·rw [if_neg c7] at H
        have c7b0 : ((rd l0 x5_1) == (rd l1 x5_1)) = false := beq_eq_false_iff_ne.mpr c7
        have c7b1 : ((rd l0 x5_1) != (rd l1 x5_1)) = true := bne_iff_ne.mpr c7
        obtain rfl := Option.some.inj H
        have p117 : 0 ≤ (x5_1 : Int) := of_decide_eq_true (by first | (with_reducible assumption) | assumption)
        have q117 : x5_1 < (l0.length : Int) := of_decide_eq_true (by first | (with_reducible assumption) | assumption)
        obtain ⟨ad117, e117, hx117_0⟩ := Kd.at_int HR0.out x5_1 p117 q117
        cases e117
        replace p117 := eq_true p117
        replace q117 := eq_true q117
        have p118 : 0 ≤ (x5_1 : Int) := of_decide_eq_true (by first | (with_reducible assumption) | assumption)
        have q118 : x5_1 < (l1.length : Int) := of_decide_eq_true (by first | (with_reducible assumption) | assumption)
        obtain ⟨ad118, e118, hx118_0⟩ := Kd.at_int HR1.out x5_1 p118 q118
        cases e118
        replace p118 := eq_true p118
        replace q118 := eq_true q118
        go_wp2
        repeat (go_quiet (fail); try go_wp2)
        go_ret
        exact ⟨by first | rfl | (simp; done) | (simp [*]; done), by repeat (first | exact Drawn0.refl _ | apply Drawn0.step)⟩
      ·rw [if_neg c6] at H
       exact absurd H (by simp)
     ·rw [if_neg c5] at H
      exact absurd H (by simp)
    ·rw [if_neg c4] at H
     have c4b0 : decide (x5_1 < (l0.length : Int)) = false := decide_eq_false c4
     clear c4
     obtain rfl := Option.some.inj H
     go_wp2
     repeat (go_quiet (fail); try go_wp2)
     go_ret
     exact ⟨by first | rfl | (simp; done) | (simp [*]; done), by repeat (first | exact Drawn0.refl _ | apply Drawn0.step)⟩
 ·rw [if_neg c3] at H
  have c3b0 : ((l0.length : Int) == (l1.length : Int)) = false := beq_eq_false_iff_ne.mpr c3
  have c3b1 : ((l0.length : Int) != (l1.length : Int)) = true := bne_iff_ne.mpr c3
  have c3b2 : (l0.length == l1.length) = false := by first | simpa using c3 | (simp at c3 ⊢; omega)
  obtain rfl := Option.some.inj H
  go_enter Tryd.func12, Tryd.ntmps12
  go_wp2
  repeat (go_quiet (fail); try go_wp2)
  go_ret
  exact ⟨by first | rfl | (simp; done) | (simp [*]; done), by repeat (first | exact Drawn0.refl _ | apply Drawn0.step)⟩
def ir_kind.f (l0_0 : List (S48)) (l0_1 : List (S36)) (a0_2 : Int) (a1 : Int) : Option (Int) := if a1 < 0 then (some 0) else (if a1 ≥ (l0_0.length : Int) then (some 0) else (if 0 ≤ a1 then (if a1 < (l0_0.length : Int) then (some ((rd_T48 l0_0 a1).f0)) else (none)) else (none)))
set_option maxHeartbeats 8000000 in
set_option maxRecDepth 100000 in
theorem ir_kind.calls (A0_0 : Option Addr) (c0_0 : Nat) (l0_0 : List (S48)) (A0_1 : Option Addr) (c0_1 : Nat) (l0_1 : List (S36)) (a0_2 : Int) (a1 : Int) (r : Int) (w : World) (hr0_0 : Kd.C k48 w A0_0 l0_0.length l0_0) (hc0_0 : l0_0.length ≤ c0_0) (hr0_1 : Kd.C k36 w A0_1 l0_1.length l0_1) (hc0_1 : l0_1.length ≤ c0_1) (h : ir_kind.f l0_0 l0_1 a0_2 a1 = some r) :
  Calls Tryd.prog 18 #[.agg #[.slice A0_0 l0_0.length c0_0, .slice A0_1 l0_1.length c0_1, .int .i64 a0_2], .int .i64 a1] w fun e w' => e = .returned (.int .i64 r) ∧ Below w.heap.size w w' := by
 have hu25 := Tryd.underlying25
 have HR0_0 := Aside0.mk hr0_0
 have HC0_0 := Aside0.mk hc0_0
 clear hr0_0 hc0_0
 have HR0_1 := Aside0.mk hr0_1
 have HC0_1 := Aside0.mk hc0_1
 clear hr0_1 hc0_1
 have HB := Aside0.mk (Below.refl w.heap.size w)
 have H : (if a1 < 0 then (some 0) else (if a1 ≥ (l0_0.length : Int) then (some 0) else (if 0 ≤ a1 then (if a1 < (l0_0.length : Int) then (some ((rd_T48 l0_0 a1).f0)) else (none)) else (none)))) = some r := h
 clear h
 by_cases c3 : a1 < 0
 ·rw [if_pos c3] at H
  have c3b0 : decide (a1 < 0) = true := decide_eq_true c3
  clear c3
  obtain rfl := Option.some.inj H
  go_enter Tryd.func18, Tryd.ntmps18
  go_wp2_with (first | ((with_reducible refine gate_dst (N := 2) rfl ?_); (try (refine gate_guard (by rfl) ?_; dsimp only)); refine box_event ?hg (N := 2) ?hd (cs := #[.slice A0_0 l0_0.length c0_0, .slice A0_1 l0_1.length c0_1, .int .i64 a0_2]) (t := 25) ?hr ?_; (case hd => rfl); (case hg => rfl); (case hr => first | (go_simp; done) | (go_simp; rfl)); intro gb120 hg w4 hbox hb; have n0_ := Aside0.mk (below_step (by repeat (first | (with_reducible first | exact HB.out | apply below_alloc | apply pw_below_drewN | apply below_drew1) | exact HB.out)) hb); have n1_ := Aside0.mk (hbox); have n2_ := Aside0.mk ((by rw [hg]; exact (below_size (by repeat (first | (with_reducible first | exact HB.out | apply below_alloc | apply pw_below_drewN | apply below_drew1) | exact HB.out))) : w.heap.size ≤ gb120)); have n3_ := Aside0.mk ((by rw [hg]; exact (below_size (by repeat (first | (with_reducible first | exact HB.out | apply below_alloc | apply pw_below_drewN | apply below_drew1) | exact HB.out))) : w.heap.size ≤ gb120)); clear HB; have HB := n0_; have BK120 := n1_; have GW120 := n2_; have GE120 := n3_; clear n0_ n1_ n2_ n3_; clear hb hbox hg))
  go_ret
  exact ⟨by first | rfl | (simp [errW_none, errW_some] <;> rfl) | (simp [*, errW_none, errW_some] <;> rfl), by repeat (first | (with_reducible first | exact HB.out | apply below_alloc | apply pw_below_drewN | apply below_drew1 | refine below_set ?_ GE120.out) | exact HB.out)⟩
 ·rw [if_neg c3] at H
  have c3b0 : decide (a1 < 0) = false := decide_eq_false c3
  clear c3
  by_cases c5 : a1 ≥ (l0_0.length : Int)
  ·rw [if_pos c5] at H
   have c5b0 : decide ((l0_0.length : Int) ≤ a1) = true := decide_eq_true c5
   clear c5
   obtain rfl := Option.some.inj H
   go_enter Tryd.func18, Tryd.ntmps18
   go_wp2_with (first | ((with_reducible refine gate_dst (N := 2) rfl ?_); (try (refine gate_guard (by rfl) ?_; dsimp only)); refine box_event ?hg (N := 2) ?hd (cs := #[.slice A0_0 l0_0.length c0_0, .slice A0_1 l0_1.length c0_1, .int .i64 a0_2]) (t := 25) ?hr ?_; (case hd => rfl); (case hg => rfl); (case hr => first | (go_simp; done) | (go_simp; rfl)); intro gb120 hg w6 hbox hb; have n0_ := Aside0.mk (below_step (by repeat (first | (with_reducible first | exact HB.out | apply below_alloc | apply pw_below_drewN | apply below_drew1) | exact HB.out)) hb); have n1_ := Aside0.mk (hbox); have n2_ := Aside0.mk ((by rw [hg]; exact (below_size (by repeat (first | (with_reducible first | exact HB.out | apply below_alloc | apply pw_below_drewN | apply below_drew1) | exact HB.out))) : w.heap.size ≤ gb120)); have n3_ := Aside0.mk ((by rw [hg]; exact (below_size (by repeat (first | (with_reducible first | exact HB.out | apply below_alloc | apply pw_below_drewN | apply below_drew1) | exact HB.out))) : w.heap.size ≤ gb120)); clear HB; have HB := n0_; have BK120 := n1_; have GW120 := n2_; have GE120 := n3_; clear n0_ n1_ n2_ n3_; clear hb hbox hg; have hcz7_0 : w6.cell? ⟨gb120, 0, none⟩ = some (.slice A0_0 l0_0.length c0_0) := (blk_cell BK120.out 0).trans rfl; have hcz7_1 : w6.cell? ⟨gb120, 1, none⟩ = some (.slice A0_1 l0_1.length c0_1) := (blk_cell BK120.out 1).trans rfl; have hcz7_2 : w6.cell? ⟨gb120, 2, none⟩ = some (.int .i64 a0_2) := (blk_cell BK120.out 2).trans rfl; have hfz7_0 := blk_frozen BK120.out 0; have hfz7_1 := blk_frozen BK120.out 1; have hfz7_2 := blk_frozen BK120.out 2))
   go_ret
   exact ⟨by first | rfl | (simp [errW_none, errW_some] <;> rfl) | (simp [*, errW_none, errW_some] <;> rfl), by repeat (first | (with_reducible first | exact HB.out | apply below_alloc | apply pw_below_drewN | apply below_drew1 | refine below_set ?_ GE120.out) | exact HB.out)⟩
  ·rw [if_neg c5] at H
   have c5b0 : decide ((l0_0.length : Int) ≤ a1) = false := decide_eq_false c5
   clear c5
   by_cases c8 : 0 ≤ a1
   ·rw [if_pos c8] at H
    have c8b0 : decide (0 ≤ a1) = true := decide_eq_true c8
    clear c8
    by_cases c9 : a1 < (l0_0.length : Int)
    ·rw [if_pos c9] at H
     have c9b0 : decide (a1 < (l0_0.length : Int)) = true := decide_eq_true c9
     clear c9
     obtain rfl := Option.some.inj H
     go_enter Tryd.func18, Tryd.ntmps18
     go_wp2_with (first | ((with_reducible refine gate_dst (N := 2) rfl ?_); (try (refine gate_guard (by rfl) ?_; dsimp only)); refine box_event ?hg (N := 2) ?hd (cs := #[.slice A0_0 l0_0.length c0_0, .slice A0_1 l0_1.length c0_1, .int .i64 a0_2]) (t := 25) ?hr ?_; (case hd => rfl); (case hg => rfl); (case hr => first | (go_simp; done) | (go_simp; rfl)); intro gb120 hg w10 hbox hb; have n0_ := Aside0.mk (below_step (by repeat (first | (with_reducible first | exact HB.out | apply below_alloc | apply pw_below_drewN | apply below_drew1) | exact HB.out)) hb); have n1_ := Aside0.mk (hbox); have n2_ := Aside0.mk ((by rw [hg]; exact (below_size (by repeat (first | (with_reducible first | exact HB.out | apply below_alloc | apply pw_below_drewN | apply below_drew1) | exact HB.out))) : w.heap.size ≤ gb120)); have n3_ := Aside0.mk ((by rw [hg]; exact (below_size (by repeat (first | (with_reducible first | exact HB.out | apply below_alloc | apply pw_below_drewN | apply below_drew1) | exact HB.out))) : w.heap.size ≤ gb120)); clear HB; have HB := n0_; have BK120 := n1_; have GW120 := n2_; have GE120 := n3_; clear n0_ n1_ n2_ n3_; clear hb hbox hg; have hcz11_0 : w10.cell? ⟨gb120, 0, none⟩ = some (.slice A0_0 l0_0.length c0_0) := (blk_cell BK120.out 0).trans rfl; have hcz11_1 : w10.cell? ⟨gb120, 1, none⟩ = some (.slice A0_1 l0_1.length c0_1) := (blk_cell BK120.out 1).trans rfl; have hcz11_2 : w10.cell? ⟨gb120, 2, none⟩ = some (.int .i64 a0_2) := (blk_cell BK120.out 2).trans rfl; have hfz11_0 := blk_frozen BK120.out 0; have hfz11_1 := blk_frozen BK120.out 1; have hfz11_2 := blk_frozen BK120.out 2; have p121 : 0 ≤ (a1 : Int) := of_decide_eq_true (by first | (with_reducible assumption) | assumption); have q121 : a1 < (l0_0.length : Int) := of_decide_eq_true (by first | (with_reducible assumption) | assumption); obtain ⟨ad121, A121_7, c121_7, e121, hx121_0, hx121_1, hx121_2, hx121_3, hx121_4, hx121_5, hx121_6, hx121_7, hl121_7, hi121_7⟩ := at_T48 HR0_0.out a1 p121 q121; cases e121; replace hx121_0 := (HB.out.cell (World.block_lt_of_cell? w _ hx121_0)).trans hx121_0; replace hx121_1 := (HB.out.cell (World.block_lt_of_cell? w _ hx121_1)).trans hx121_1; replace hx121_2 := (HB.out.cell (World.block_lt_of_cell? w _ hx121_2)).trans hx121_2; replace hx121_3 := (HB.out.cell (World.block_lt_of_cell? w _ hx121_3)).trans hx121_3; replace hx121_4 := (HB.out.cell (World.block_lt_of_cell? w _ hx121_4)).trans hx121_4; replace hx121_5 := (HB.out.cell (World.block_lt_of_cell? w _ hx121_5)).trans hx121_5; replace hx121_6 := (HB.out.cell (World.block_lt_of_cell? w _ hx121_6)).trans hx121_6; replace hx121_7 := (HB.out.cell (World.block_lt_of_cell? w _ hx121_7)).trans hx121_7; have HR121_7 := Aside0.mk hi121_7; have HC121_7 := Aside0.mk hl121_7; clear hi121_7 hl121_7; replace p121 := eq_true p121; replace q121 := eq_true q121))
     go_ret
     exact ⟨by first | rfl | (simp [errW_none, errW_some] <;> rfl) | (simp [*, errW_none, errW_some] <;> rfl), by repeat (first | (with_reducible first | exact HB.out | apply below_alloc | apply pw_below_drewN | apply below_drew1 | refine below_set ?_ GE120.out) | exact HB.out)⟩
    ·rw [if_neg c9] at H
     exact absurd H (by simp)
   ·rw [if_neg c8] at H
    exact absurd H (by simp)
def slices_Index_string_string.l0 : Nat → List ByteArray → ByteArray → Int → Int → Option (Int)
 | 0, _, _, _, _ => none
 | k + 1, x0, x1, x7, x8 => if x8 < x7 then (if 0 ≤ x8 then (if x8 < (x0.length : Int) then (if x1.toList = (rdOf ByteArray.empty x0 x8).toList then (some x8) else (slices_Index_string_string.l0 k x0 x1 x7 (wrap64 (x8 + 1)))) else (none)) else (none)) else (some (-1))
def slices_Index_string_string.f (k : Nat) (l0 : List ByteArray) (a1 : ByteArray) : Option (Int) := slices_Index_string_string.l0 k l0 a1 (l0.length : Int) 0
set_option maxHeartbeats 8000000 in
set_option maxRecDepth 100000 in
theorem slices_Index_string_string.calls (k : Nat) (A0 : Option Addr) (c0 : Nat) (l0 : List ByteArray) (a1 : ByteArray) (r : Int) (w : World) (hr0 : Kd.C Kd.string w A0 l0.length l0) (hc0 : l0.length ≤ c0) (h : slices_Index_string_string.f k l0 a1 = some r) :
  Calls Tryd.prog 33 #[.slice A0 l0.length c0, .string a1] w fun e w' => e = .returned (.int .i64 r) ∧ Drawn0 w w' := by
 have HR0 := Aside0.mk hr0
 have HC0 := Aside0.mk hc0
 clear hr0 hc0
 have H : (slices_Index_string_string.l0 k l0 a1 (l0.length : Int) 0) = some r := h
 clear h
 have H' := Aside0.mk H
 clear H
 go_enter Tryd.func33, Tryd.ntmps33
 go_wp2
 go_loopg [8] k (fun kq v8 w' => ∃ (x8_1 : Int), v8 = .int .i64 x8_1 ∧ Aside0 (slices_Index_string_string.l0 kq l0 a1 (l0.length : Int) x8_1 = some r) ∧ Aside0 (kq ≤ k) ∧ Drawn0 w w')
 case atStart => exact ⟨(0), (by first | rfl | (simp; done) | (simp [*]; done)), H', ⟨Nat.le_refl _⟩, by repeat (first | exact Drawn0.refl _ | apply Drawn0.step)⟩
 case round =>
  clear H'
  try clear p2
  obtain ⟨x8_1, rfl, HA, HK1, ⟨m1, rfl⟩⟩ := hrel
  cases gk with
  | zero => exact absurd HA.out (by simp [slices_Index_string_string.l0])
  | succ k1 =>
   have H := HA.out
   clear HA
   simp only [slices_Index_string_string.l0] at H
   by_cases c3 : x8_1 < (l0.length : Int)
   ·rw [if_pos c3] at H
    have c3b0 : decide (x8_1 < (l0.length : Int)) = true := decide_eq_true c3
    clear c3
    by_cases c4 : 0 ≤ x8_1
    ·rw [if_pos c4] at H
     have c4b0 : decide (0 ≤ x8_1) = true := decide_eq_true c4
     clear c4
     by_cases c5 : x8_1 < (l0.length : Int)
     ·rw [if_pos c5] at H
      have c5b0 : decide (x8_1 < (l0.length : Int)) = true := decide_eq_true c5
      clear c5
      by_cases c6 : a1.toList = (rdOf ByteArray.empty l0 x8_1).toList
      ·rw [if_pos c6] at H
       have c6b0 : (a1.toList == (rdOf ByteArray.empty l0 x8_1).toList) = true := beq_iff_eq.mpr c6
       have c6b1 : (a1.toList != (rdOf ByteArray.empty l0 x8_1).toList) = false := bne_eq_false_iff_eq.mpr c6
       clear c6
       obtain rfl := Option.some.inj H
       have p122 : 0 ≤ (x8_1 : Int) := of_decide_eq_true (by first | (with_reducible assumption) | assumption)
       have q122 : x8_1 < (l0.length : Int) := of_decide_eq_true (by first | (with_reducible assumption) | assumption)
       obtain ⟨ad122, e122, hx122_0⟩ := Kd.at_string HR0.out x8_1 p122 q122
       cases e122
       replace p122 := eq_true p122
       replace q122 := eq_true q122
       go_wp2
       go_ret
       exact ⟨by first | rfl | (simp; done) | (simp [*]; done), by repeat (first | exact Drawn0.refl _ | apply Drawn0.step)⟩
      ·rw [if_neg c6] at H
       have c6b0 : (a1.toList == (rdOf ByteArray.empty l0 x8_1).toList) = false := beq_eq_false_iff_ne.mpr c6
       have c6b1 : (a1.toList != (rdOf ByteArray.empty l0 x8_1).toList) = true := bne_iff_ne.mpr c6
       have H' := Aside0.mk H
       clear H
       have p122 : 0 ≤ (x8_1 : Int) := of_decide_eq_true (by first | (with_reducible assumption) | assumption)
       have q122 : x8_1 < (l0.length : Int) := of_decide_eq_true (by first | (with_reducible assumption) | assumption)
       obtain ⟨ad122, e122, hx122_0⟩ := Kd.at_string HR0.out x8_1 p122 q122
       cases e122
       replace p122 := eq_true p122
       replace q122 := eq_true q122
       go_wp2
       go_roundg k1
       case measure => have := HK1.out; omega
       case rel => exact ⟨(wrap64 (x8_1 + 1)), (by first | rfl | (simp; done) | (simp [*]; done)), H', ⟨by have := HK1.out; omega⟩, by repeat (first | exact Drawn0.refl _ | apply Drawn0.step)⟩
     ·rw [if_neg c5] at H
      exact absurd H (by simp)
    ·rw [if_neg c4] at H
     exact absurd H (by simp)
   ·rw [if_neg c3] at H
    have c3b0 : decide (x8_1 < (l0.length : Int)) = false := decide_eq_false c3
    clear c3
    obtain rfl := Option.some.inj H
    go_wp2
    go_ret
    exact ⟨by first | rfl | (simp; done) | (simp [*]; done), by repeat (first | exact Drawn0.refl _ | apply Drawn0.step)⟩
def slices_Contains_string_string.f (k : Nat) (l0 : List ByteArray) (a1 : ByteArray) : Option (Bool) := (slices_Index_string_string.f k l0 a1).bind fun t123 => (some (decide (t123 ≥ 0)))
set_option maxHeartbeats 8000000 in
set_option maxRecDepth 100000 in
theorem slices_Contains_string_string.calls (k : Nat) (A0 : Option Addr) (c0 : Nat) (l0 : List ByteArray) (a1 : ByteArray) (r : Bool) (w : World) (hr0 : Kd.C Kd.string w A0 l0.length l0) (hc0 : l0.length ≤ c0) (h : slices_Contains_string_string.f k l0 a1 = some r) :
  Calls Tryd.prog 31 #[.slice A0 l0.length c0, .string a1] w fun e w' => e = .returned (.bool r) ∧ Drawn0 w w' := by
 have HR0 := Aside0.mk hr0
 have HC0 := Aside0.mk hc0
 clear hr0 hc0
 have H : ((slices_Index_string_string.f k l0 a1).bind fun t123 => (some (decide (t123 ≥ 0)))) = some r := h
 clear h
 replace H := Option.bind_eq_some_iff.mp H
 obtain ⟨t123, A30, H⟩ := H
 replace H : (some (decide (t123 ≥ 0))) = some r := H
 have A3 := Aside0.mk A30
 clear A30
 obtain rfl := Option.some.inj H
 go_enter Tryd.func31, Tryd.ntmps31
 go_wp2_with (first | ((with_reducible refine gate_callee (f := 33) rfl ?_); refine goesL_ (some 7) rfl rfl Tryd.func33 (by kernel_rfl) rfl #[.slice A0 l0.length c0, .string a1] rfl (by (try simp only [List.map_toArray, List.map_cons, List.map_nil]); first | done | rfl | (simp only [List.length_drop, List.length_take]; rfl)) ?_; (with_reducible refine (slices_Index_string_string.calls k _ _ l0 a1 t123 _ ?side1 ?side2 A3.out).mono ?_); (case side1 => repeat (first | exact HR0.out | (with_reducible refine Kd.C_alloc ?_ _) | (with_reducible refine Kd.C_drewN ?_ _) | (with_reducible refine Kd.C_drew ?_))); (case side2 => exact HC0.out); rintro e w' ⟨rfl, ⟨nd, rfl⟩⟩; refine ⟨_, rfl, ?_⟩))
 go_ret
 exact ⟨by first | rfl | (simp; done) | (simp [*]; done), by repeat (first | exact Drawn0.refl _ | apply Drawn0.step)⟩
end Go.Proofs.YtmiacdacebaagaaDoor.G
namespace Go.Proofs.YtmiacdacebaagaaDoor.G
open Go.RowKit Go.Proofs.YtmiacdacebaagaaDoorW.PrintWords Go.Proofs.YtmiacdacebaagaaDoorW.PrintLast Go.Proofs.YtmiacdacebaagaaDoorW.PrintMore
attribute [local go_sem] max2_int min2_int max_two min_two max_three min_three max_four min_four
set_option linter.unusedVariables false
set_option linter.unusedSimpArgs false
end Go.Proofs.YtmiacdacebaagaaDoor.G
namespace Go.Proofs.YtmiacdacebaagaaDoor.G
open Go.RowKit Go.Proofs.YtmiacdacebaagaaDoorW.PrintWords Go.Proofs.YtmiacdacebaagaaDoorW.PrintLast Go.Proofs.YtmiacdacebaagaaDoorW.PrintMore
attribute [local go_sem] max2_int min2_int max_two min_two max_three min_three max_four min_four
set_option linter.unusedVariables false
set_option linter.unusedSimpArgs false
end Go.Proofs.YtmiacdacebaagaaDoor.G
set_option linter.unusedVariables false
set_option linter.unusedSimpArgs false
namespace Go.Proofs.YtmiacdacebaagaaDoor.G
open Go.RowKit Go.Proofs.YtmiacdacebaagaaDoor.B Go.Proofs.YtmiacdacebaagaaDoorW.PrintWords Go.Proofs.YtmiacdacebaagaaDoorW.PrintLast Go.Proofs.YtmiacdacebaagaaDoorW.PrintMore
def wr (op : Int) : Bool := (decide (1 ≤ op) && decide (op ≤ 8)) || op == 13 || op == 15 || op == 16 || op == 20
theorem pre_ok (op : Int) : strings_HasPrefix.f (rowS op) ⟨#[61]⟩ = some (wr op) := by
  by_cases h : 1 ≤ op ∧ op ≤ 20
  · rcases ops_cases h.1 h.2 with rfl | rfl | rfl | rfl | rfl | rfl | rfl | rfl | rfl | rfl | rfl | rfl | rfl | rfl | rfl | rfl | rfl | rfl | rfl | rfl <;> (simp only [strings_HasPrefix.f, stringslite_HasPrefix.f, bytes_toList]; kernel_rfl)
  · have hs : rowS op = ⟨#[]⟩ := by unfold rowS; rw [if_pos (by omega)]
    have hw : wr op = false := by simp [wr]; omega
    rw [hs, hw]; rfl
set_option maxHeartbeats 1600000 in
theorem writes_calls (a0 a1 a2 a3 a4 a5 : Int) (s : ByteArray) (A : Option Addr) (n c : Nat) (w : World) :
    Calls Tryd.prog 10 #[.agg #[.int .i64 a0, .int .i64 a1, .int .i64 a2, .int .i64 a3, .int .i64 a4, .int .i64 a5, .string s, .slice A n c]] w fun e w' => e = .returned (.int .i64 (if wr a0 = true then a1 else -1)) ∧ Below w.heap.size w w' := by
  have HB := Aside0.mk (below_alloc (Below.refl w.heap.size w) (.cells #[.int .i64 a0, .int .i64 a1, .int .i64 a2, .int .i64 a3, .int .i64 a4, .int .i64 a5, .string s, .slice A n c] 39))
  have HX := Aside0.mk (blk_new w (.cells #[.int .i64 a0, .int .i64 a1, .int .i64 a2, .int .i64 a3, .int .i64 a4, .int .i64 a5, .string s, .slice A n c] 39))
  generalize hr : (if wr a0 = true then a1 else -1) = r
  have HR := Aside0.mk hr
  clear hr
  go_enter Tryd.func10, Tryd.ntmps10
  go_upto_region 1 with (fail)
  generalize w.alloc (.cells #[.int .i64 a0, .int .i64 a1, .int .i64 a2, .int .i64 a3, .int .i64 a4, .int .i64 a5, .string s, .slice A n c] 39) = W at HB HX ⊢
  have h0 : W.cell? ⟨w.heap.size, 0, none⟩ = some (.int .i64 a0) := (blk_cell HX.out 0).trans rfl
  go_wp2_with fail
  refine (row_calls a0 _).mono ?_
  rintro e w1 ⟨rfl, hb1⟩
  clear h0
  go_wp2_with fail
  refine (strings_HasPrefix.calls (rowS a0) ⟨#[61]⟩ (wr a0) _ (pre_ok a0)).mono ?_
  rintro e w2 ⟨rfl, hd⟩
  have HB2 := Aside0.mk (below_step (below_step HB.out hb1) hd.below)
  have h1 : w2.cell? ⟨w.heap.size, 1, none⟩ = some (.int .i64 a1) := (blk_cell (blk_below (blk_below HX.out hb1) hd.below) 1).trans rfl
  clear HB HX hb1 hd
  cases hw : wr a0 with
  | true =>
    go_wp2_with fail
    go_ret
    exact ⟨ret_int (by rw [← HR.out, hw]; rfl), HB2.out⟩
  | false =>
    go_wp2_with fail
    go_ret
    exact ⟨ret_int (by rw [← HR.out, hw]; rfl), HB2.out⟩
end Go.Proofs.YtmiacdacebaagaaDoor.G
set_option linter.unusedVariables false
set_option linter.unusedSimpArgs false
namespace Go.Proofs.YtmiacdacebaagaaDoor.G
open Go.RowKit Go.Proofs.YtmiacdacebaagaaDoor.B Go.Proofs.YtmiacdacebaagaaDoorW.PrintWords Go.Proofs.YtmiacdacebaagaaDoorW.PrintLast Go.Proofs.YtmiacdacebaagaaDoorW.PrintMore
def stepR (a b c : Int) (args : List Int) (xs : List Int) (ch : UInt8) : List Int :=
  if ch = 65 then xs ++ [a] else if ch = 66 then xs ++ [b] else if ch = 67 then xs ++ [c] else if ch = 42 then xs ++ args else if ch = 63 then (if a = -1 then xs else xs ++ [a]) else xs
def readsS (a b c : Int) (args : List Int) (bs : List UInt8) : List Int := bs.foldl (stepR a b c args) []
theorem reads_step {a b c : Int} {args : List Int} {s : ByteArray} {pos : Nat} (h : pos < s.size) :
    readsS a b c args (s.data.toList.take (pos + 1)) = stepR a b c args (readsS a b c args (s.data.toList.take pos)) (s[pos]'h) := by
  have h' : pos < s.data.toList.length := by rw [Array.length_toList]; exact h
  rw [List.take_succ_eq_append_getElem h', readsS, List.foldl_append]
  rfl
def Good (s : ByteArray) : Prop := s.size ≤ 3 ∧ ∀ i, (h : i < s.size) → ((s[i]'h) = 61 ∨ (s[i]'h) = 65 ∨ (s[i]'h) = 66 ∨ (s[i]'h) = 67 ∨ (s[i]'h) = 63) ∨ ((s[i]'h) = 42 ∧ i + 1 = s.size)
instance (s : ByteArray) : Decidable (Good s) := by unfold Good; infer_instance
theorem good_row (op : Int) : Good (rowS op) := by
  by_cases h : 1 ≤ op ∧ op ≤ 20
  · rcases ops_cases h.1 h.2 with rfl | rfl | rfl | rfl | rfl | rfl | rfl | rfl | rfl | rfl | rfl | rfl | rfl | rfl | rfl | rfl | rfl | rfl | rfl | rfl <;> decide +kernel
  · have hs : rowS op = ⟨#[]⟩ := by unfold rowS; rw [if_pos (by omega)]
    rw [hs]
    decide +kernel
theorem R_iterAt {w : World} {it base : Nat} {v : Value} {xs : List Int} (h : Kd.R (Kd.int .i64) 3 w base (fun k => it < k) v xs) (s : ByteArray) (pos : Nat) : Kd.R (Kd.int .i64) 3 (w.iterAt it s pos) base (fun k => it < k) v xs :=
  Kd.R_move h (fun k hk => Lib.iterAt_other w it k s pos (by omega))
set_option maxRecDepth 100000 in
set_option maxHeartbeats 8000000 in
theorem reads_calls (a0 a1 a2 a3 a4 a5 : Int) (s6 : ByteArray) (A : Option Addr) (c : Nat) (l : List Int) (w : World) (hC : Kd.C (Kd.int .i64) w A l.length l) (hl : l.length * 8 ≤ 140737488351232) :
    Calls Tryd.prog 9 #[.agg #[.int .i64 a0, .int .i64 a1, .int .i64 a2, .int .i64 a3, .int .i64 a4, .int .i64 a5, .string s6, .slice A l.length c]] w fun e w' => ∃ v, e = .returned v ∧ Kd.R (Kd.int .i64) 3 w' w.heap.size (fun _ => True) v (readsS a1 a2 a3 l (rowS a0).data.toList) ∧ Below w.heap.size w w' := by
  have HL := Aside0.mk hl
  have HC := Aside0.mk hC
  clear hl hC
  have HB := Aside0.mk (below_alloc (Below.refl w.heap.size w) (.cells #[.int .i64 a0, .int .i64 a1, .int .i64 a2, .int .i64 a3, .int .i64 a4, .int .i64 a5, .string s6, .slice A l.length c] 39))
  have HX := Aside0.mk (blk_new w (.cells #[.int .i64 a0, .int .i64 a1, .int .i64 a2, .int .i64 a3, .int .i64 a4, .int .i64 a5, .string s6, .slice A l.length c] 39))
  go_enter Tryd.func9, Tryd.ntmps9
  go_upto_region 1 with (fail)
  generalize w.alloc (.cells #[.int .i64 a0, .int .i64 a1, .int .i64 a2, .int .i64 a3, .int .i64 a4, .int .i64 a5, .string s6, .slice A l.length c] 39) = W at HB HX ⊢
  have h0 : W.cell? ⟨w.heap.size, 0, none⟩ = some (.int .i64 a0) := (blk_cell HX.out 0).trans rfl
  go_upto_region 2 with (first | (go_at_call 16; refine (row_calls a0 _).mono ?_; rintro e w1 ⟨rfl, hb1⟩))
  have HG := Aside0.mk (good_row a0)
  generalize hs : rowS a0 = s at HG ⊢
  have HS := Aside0.mk hs
  clear h0 hs
  go_upto_block 0 with (fail)
  have HIT := Aside0.mk (World.iter_heap w1 s 0)
  have HXI := Aside0.mk (show (w1.iter s 0).heap[w.heap.size]? = some (.cells #[.int .i64 a0, .int .i64 a1, .int .i64 a2, .int .i64 a3, .int .i64 a4, .int .i64 a5, .string s6, .slice A l.length c] 39 (0, 0)) from blk_alloc (blk_below HX.out hb1) _)
  have HBI := Aside0.mk (show Below w.heap.size w (w1.iter s 0) from below_alloc (below_step HB.out hb1) _)
  have HSZ := Aside0.mk (show w1.heap.size + 1 ≤ (w1.iter s 0).heap.size by simp [World.iter])
  have HLO := Aside0.mk (show w.heap.size < w1.heap.size from Nat.lt_of_lt_of_le (blk_lt HX.out) hb1.size)
  clear HX HB hb1
  generalize w1.iter s 0 = wi at HIT HXI HBI HSZ ⊢
  generalize w1.heap.size = it at HIT HSZ HLO ⊢
  go_wp2_with fail
  go_loopw [5] (fun v wx => ∃ (pos : Nat) (xs : List Int), pos ≤ s.size ∧ Hid (Kd.R (Kd.int .i64) 3 wx (it + 1) (fun k => it < k) v xs) ∧ Hid (wx.heap[it]? = some (.stringIter s pos)) ∧ Hid (wx.heap[w.heap.size]? = some (.cells #[.int .i64 a0, .int .i64 a1, .int .i64 a2, .int .i64 a3, .int .i64 a4, .int .i64 a5, .string s6, .slice A l.length c] 39 (0, 0))) ∧ Hid (Below w.heap.size w wx) ∧ Hid (it + 1 ≤ wx.heap.size) ∧ Hid (xs = readsS a1 a2 a3 l (s.data.toList.take pos)) ∧ Hid (pos < s.size → xs.length ≤ pos)) (fun _ wx => s.size - wx.iterPos it)
  case atStart => exact ⟨0, [], Nat.zero_le _, Kd.R_nil _ _ _ _ _, HIT.out, HXI.out, HBI.out, HSZ.out, rfl, fun _ => Nat.le_refl _⟩
  case round =>
    clear HIT HXI HBI HSZ
    obtain ⟨pos, xs, hp, hR, hit, hx, hb, hsz, hxs, hxl⟩ := hrel
    have HHIT := Aside0.mk hit.out
    by_cases hlt : pos < s.size
    · have hs3 := HG.out.1
      have hnx0 := HG.out.2 pos hlt
      have HPOS := Aside0.mk (Go.iterPos_of hit.out)
      rcases hnx0 with (hch | hch | hch | hch | hch) | ⟨hch, hend⟩
      · have hnx := fun ty => Lib.run_next_ascii_at (P := Tryd.prog) _ it s pos ty hit.out hlt (by rw [hch]; decide)
        have hchn : (s[pos]'hlt).toNat = 61 := by rw [hch]; rfl
        rw [hchn] at hnx
        clear hchn
        go_wp2_with fail
        have hits := Lib.iterAt_heap wr it s pos (pos + 1) HHIT.out
        go_roundw
        case rel => exact ⟨pos + 1, xs, by omega, R_iterAt hR.out s (pos + 1), hits, (Lib.iterAt_other wr it w.heap.size s (pos + 1) (by have := HLO.out; omega)).trans hx.out, Lib.below_iterAt hb.out (by have := HLO.out; omega) s (pos + 1), by rw [Lib.iterAt_size]; exact hsz.out, (show xs = readsS a1 a2 a3 l (s.data.toList.take (pos + 1)) by rw [reads_step hlt, ← hxs.out, hch]; rfl), fun h => by have := hxl.out hlt; omega⟩
        case measure => rw [HPOS.out, Go.iterPos_of hits]; omega
      · have hnx := fun ty => Lib.run_next_ascii_at (P := Tryd.prog) _ it s pos ty hit.out hlt (by rw [hch]; decide)
        have hchn : (s[pos]'hlt).toNat = 65 := by rw [hch]; rfl
        rw [hchn] at hnx
        clear hchn
        have hcx : (World.iterAt wr it s (pos + 1)).cell? ⟨w.heap.size, 1, none⟩ = some (.int .i64 a1) := (blk_cell ((Lib.iterAt_other wr it w.heap.size s (pos + 1) (by have := HLO.out; omega)).trans hx.out) 1).trans rfl
        have hxl3 : xs.length ≤ 3 := by have := hxl.out hlt; omega
        go_wp2_with (first | (at_builtin; refine Kd.R_append (Kd.int .i64) (w0 := World.iterAt wr it s (pos + 1)) (it + 1) rfl _ _ 33 3 (.int .i64 0) 8 rfl Tryd.underlying33 info3 rfl (by decide) (by decide) _ xs a1 [.int .i64 a1] (fun k => it < k) (fun _ => False) rfl rfl rfl (fun _ h => h.elim) ?aF ?aO ?aB ?aS ?aL ?_; (case aF => intro k hk; rw [Lib.iterAt_size] at hk; have := hsz.out; omega); (case aO => exact R_iterAt hR.out s (pos + 1)); (case aB => exact Below.refl _ _); (case aS => rw [Lib.iterAt_size]; exact hsz.out); (case aL => omega); intro v1 w1 hR1 hB1 hg1 hat1; have HR1 := Aside0.mk hR1; have HB1 := Aside0.mk hB1; clear hR1 hB1 hg1 hat1))
        have hits : w1.heap[it]? = some (.stringIter s (pos + 1)) := (HB1.out.block it (by omega)).trans (Lib.iterAt_heap wr it s pos (pos + 1) HHIT.out)
        go_roundw
        case rel => exact ⟨pos + 1, xs ++ [a1], by omega, HR1.out, hits, (HB1.out.block _ (by have := HLO.out; omega)).trans ((Lib.iterAt_other wr it w.heap.size s (pos + 1) (by have := HLO.out; omega)).trans hx.out), (Lib.below_iterAt hb.out (by have := HLO.out; omega) s (pos + 1)).trans (HB1.out.mono (by have := HLO.out; omega)), Nat.le_trans (by rw [Lib.iterAt_size]; exact hsz.out) HB1.out.size, (show xs ++ [a1] = readsS a1 a2 a3 l (s.data.toList.take (pos + 1)) by rw [reads_step hlt, ← hxs.out, hch]; rfl), fun h => by have := hxl.out hlt; rw [List.length_append, List.length_singleton]; omega⟩
        case measure => rw [HPOS.out, Go.iterPos_of hits]; omega
      · have hnx := fun ty => Lib.run_next_ascii_at (P := Tryd.prog) _ it s pos ty hit.out hlt (by rw [hch]; decide)
        have hchn : (s[pos]'hlt).toNat = 66 := by rw [hch]; rfl
        rw [hchn] at hnx
        clear hchn
        have hcx : (World.iterAt wr it s (pos + 1)).cell? ⟨w.heap.size, 2, none⟩ = some (.int .i64 a2) := (blk_cell ((Lib.iterAt_other wr it w.heap.size s (pos + 1) (by have := HLO.out; omega)).trans hx.out) 2).trans rfl
        have hxl3 : xs.length ≤ 3 := by have := hxl.out hlt; omega
        go_wp2_with (first | (at_builtin; refine Kd.R_append (Kd.int .i64) (w0 := World.iterAt wr it s (pos + 1)) (it + 1) rfl _ _ 33 3 (.int .i64 0) 8 rfl Tryd.underlying33 info3 rfl (by decide) (by decide) _ xs a2 [.int .i64 a2] (fun k => it < k) (fun _ => False) rfl rfl rfl (fun _ h => h.elim) ?aF ?aO ?aB ?aS ?aL ?_; (case aF => intro k hk; rw [Lib.iterAt_size] at hk; have := hsz.out; omega); (case aO => exact R_iterAt hR.out s (pos + 1)); (case aB => exact Below.refl _ _); (case aS => rw [Lib.iterAt_size]; exact hsz.out); (case aL => omega); intro v1 w1 hR1 hB1 hg1 hat1; have HR1 := Aside0.mk hR1; have HB1 := Aside0.mk hB1; clear hR1 hB1 hg1 hat1))
        have hits : w1.heap[it]? = some (.stringIter s (pos + 1)) := (HB1.out.block it (by omega)).trans (Lib.iterAt_heap wr it s pos (pos + 1) HHIT.out)
        go_roundw
        case rel => exact ⟨pos + 1, xs ++ [a2], by omega, HR1.out, hits, (HB1.out.block _ (by have := HLO.out; omega)).trans ((Lib.iterAt_other wr it w.heap.size s (pos + 1) (by have := HLO.out; omega)).trans hx.out), (Lib.below_iterAt hb.out (by have := HLO.out; omega) s (pos + 1)).trans (HB1.out.mono (by have := HLO.out; omega)), Nat.le_trans (by rw [Lib.iterAt_size]; exact hsz.out) HB1.out.size, (show xs ++ [a2] = readsS a1 a2 a3 l (s.data.toList.take (pos + 1)) by rw [reads_step hlt, ← hxs.out, hch]; rfl), fun h => by have := hxl.out hlt; rw [List.length_append, List.length_singleton]; omega⟩
        case measure => rw [HPOS.out, Go.iterPos_of hits]; omega
      · have hnx := fun ty => Lib.run_next_ascii_at (P := Tryd.prog) _ it s pos ty hit.out hlt (by rw [hch]; decide)
        have hchn : (s[pos]'hlt).toNat = 67 := by rw [hch]; rfl
        rw [hchn] at hnx
        clear hchn
        have hcx : (World.iterAt wr it s (pos + 1)).cell? ⟨w.heap.size, 3, none⟩ = some (.int .i64 a3) := (blk_cell ((Lib.iterAt_other wr it w.heap.size s (pos + 1) (by have := HLO.out; omega)).trans hx.out) 3).trans rfl
        have hxl3 : xs.length ≤ 3 := by have := hxl.out hlt; omega
        go_wp2_with (first | (at_builtin; refine Kd.R_append (Kd.int .i64) (w0 := World.iterAt wr it s (pos + 1)) (it + 1) rfl _ _ 33 3 (.int .i64 0) 8 rfl Tryd.underlying33 info3 rfl (by decide) (by decide) _ xs a3 [.int .i64 a3] (fun k => it < k) (fun _ => False) rfl rfl rfl (fun _ h => h.elim) ?aF ?aO ?aB ?aS ?aL ?_; (case aF => intro k hk; rw [Lib.iterAt_size] at hk; have := hsz.out; omega); (case aO => exact R_iterAt hR.out s (pos + 1)); (case aB => exact Below.refl _ _); (case aS => rw [Lib.iterAt_size]; exact hsz.out); (case aL => omega); intro v1 w1 hR1 hB1 hg1 hat1; have HR1 := Aside0.mk hR1; have HB1 := Aside0.mk hB1; clear hR1 hB1 hg1 hat1))
        have hits : w1.heap[it]? = some (.stringIter s (pos + 1)) := (HB1.out.block it (by omega)).trans (Lib.iterAt_heap wr it s pos (pos + 1) HHIT.out)
        go_roundw
        case rel => exact ⟨pos + 1, xs ++ [a3], by omega, HR1.out, hits, (HB1.out.block _ (by have := HLO.out; omega)).trans ((Lib.iterAt_other wr it w.heap.size s (pos + 1) (by have := HLO.out; omega)).trans hx.out), (Lib.below_iterAt hb.out (by have := HLO.out; omega) s (pos + 1)).trans (HB1.out.mono (by have := HLO.out; omega)), Nat.le_trans (by rw [Lib.iterAt_size]; exact hsz.out) HB1.out.size, (show xs ++ [a3] = readsS a1 a2 a3 l (s.data.toList.take (pos + 1)) by rw [reads_step hlt, ← hxs.out, hch]; rfl), fun h => by have := hxl.out hlt; rw [List.length_append, List.length_singleton]; omega⟩
        case measure => rw [HPOS.out, Go.iterPos_of hits]; omega
      · have hnx := fun ty => Lib.run_next_ascii_at (P := Tryd.prog) _ it s pos ty hit.out hlt (by rw [hch]; decide)
        have hchn : (s[pos]'hlt).toNat = 63 := by rw [hch]; rfl
        rw [hchn] at hnx
        clear hchn
        have hcx : (World.iterAt wr it s (pos + 1)).cell? ⟨w.heap.size, 1, none⟩ = some (.int .i64 a1) := (blk_cell ((Lib.iterAt_other wr it w.heap.size s (pos + 1) (by have := HLO.out; omega)).trans hx.out) 1).trans rfl
        by_cases hm1 : a1 = -1
        case pos =>
          have hm1b : (a1 != -1) = false := bne_eq_false_iff_eq.mpr hm1
          go_wp2_with fail
          have hits := Lib.iterAt_heap wr it s pos (pos + 1) HHIT.out
          go_roundw
          case rel => exact ⟨pos + 1, xs, by omega, R_iterAt hR.out s (pos + 1), hits, (Lib.iterAt_other wr it w.heap.size s (pos + 1) (by have := HLO.out; omega)).trans hx.out, Lib.below_iterAt hb.out (by have := HLO.out; omega) s (pos + 1), by rw [Lib.iterAt_size]; exact hsz.out, (show xs = readsS a1 a2 a3 l (s.data.toList.take (pos + 1)) by rw [reads_step hlt, ← hxs.out, hch]; simp [stepR, hm1]), fun h => by have := hxl.out hlt; omega⟩
          case measure => rw [HPOS.out, Go.iterPos_of hits]; omega
        have hm1b : (a1 != -1) = true := bne_iff_ne.mpr hm1
        have hcx : (World.iterAt wr it s (pos + 1)).cell? ⟨w.heap.size, 1, none⟩ = some (.int .i64 a1) := (blk_cell ((Lib.iterAt_other wr it w.heap.size s (pos + 1) (by have := HLO.out; omega)).trans hx.out) 1).trans rfl
        have hxl3 : xs.length ≤ 3 := by have := hxl.out hlt; omega
        go_wp2_with (first | (at_builtin; refine Kd.R_append (Kd.int .i64) (w0 := World.iterAt wr it s (pos + 1)) (it + 1) rfl _ _ 33 3 (.int .i64 0) 8 rfl Tryd.underlying33 info3 rfl (by decide) (by decide) _ xs a1 [.int .i64 a1] (fun k => it < k) (fun _ => False) rfl rfl rfl (fun _ h => h.elim) ?aF ?aO ?aB ?aS ?aL ?_; (case aF => intro k hk; rw [Lib.iterAt_size] at hk; have := hsz.out; omega); (case aO => exact R_iterAt hR.out s (pos + 1)); (case aB => exact Below.refl _ _); (case aS => rw [Lib.iterAt_size]; exact hsz.out); (case aL => omega); intro v1 w1 hR1 hB1 hg1 hat1; have HR1 := Aside0.mk hR1; have HB1 := Aside0.mk hB1; clear hR1 hB1 hg1 hat1))
        have hits : w1.heap[it]? = some (.stringIter s (pos + 1)) := (HB1.out.block it (by omega)).trans (Lib.iterAt_heap wr it s pos (pos + 1) HHIT.out)
        go_roundw
        case rel => exact ⟨pos + 1, xs ++ [a1], by omega, HR1.out, hits, (HB1.out.block _ (by have := HLO.out; omega)).trans ((Lib.iterAt_other wr it w.heap.size s (pos + 1) (by have := HLO.out; omega)).trans hx.out), (Lib.below_iterAt hb.out (by have := HLO.out; omega) s (pos + 1)).trans (HB1.out.mono (by have := HLO.out; omega)), Nat.le_trans (by rw [Lib.iterAt_size]; exact hsz.out) HB1.out.size, (show xs ++ [a1] = readsS a1 a2 a3 l (s.data.toList.take (pos + 1)) by rw [reads_step hlt, ← hxs.out, hch]; simp [stepR, hm1]), fun h => by have := hxl.out hlt; rw [List.length_append, List.length_singleton]; omega⟩
        case measure => rw [HPOS.out, Go.iterPos_of hits]; omega
      · have hnx := fun ty => Lib.run_next_ascii_at (P := Tryd.prog) _ it s pos ty hit.out hlt (by rw [hch]; decide)
        have hchn : (s[pos]'hlt).toNat = 42 := by rw [hch]; rfl
        rw [hchn] at hnx
        clear hchn
        have HEND := Aside0.mk hend
        clear hend
        have hcx : (World.iterAt wr it s (pos + 1)).cell? ⟨w.heap.size, 7, none⟩ = some (.slice A l.length c) := (blk_cell ((Lib.iterAt_other wr it w.heap.size s (pos + 1) (by have := HLO.out; omega)).trans hx.out) 7).trans rfl
        have hxl3 : xs.length ≤ 3 := by have := hxl.out hlt; omega
        go_wp2_with (first | (at_builtin; refine Kd.R_append_row (Value.int .i64) 0 (h1 := fun _ => rfl) (w0 := World.iterAt wr it s (pos + 1)) (it + 1) rfl _ _ 33 3 (.int .i64 0) 8 rfl Tryd.underlying33 info3 rfl (by decide) _ xs l A l.length c (fun k => it < k) rfl rfl ?aF ?aO ?aR ?aB ?aS ?aL ?_; (case aF => intro k hk; rw [Lib.iterAt_size] at hk; have := hsz.out; omega); (case aO => exact R_iterAt hR.out s (pos + 1)); (case aR => exact Kd.C_below HC.out (Lib.below_iterAt hb.out (by have := HLO.out; omega) s (pos + 1))); (case aB => exact Below.refl _ _); (case aS => rw [Lib.iterAt_size]; exact hsz.out); (case aL => have := HL.out; omega); intro v1 w1 hR1 hB1 hg1 hat1; have HR1 := Aside0.mk hR1; have HB1 := Aside0.mk hB1; clear hR1 hB1 hg1 hat1))
        have hits : w1.heap[it]? = some (.stringIter s (pos + 1)) := (HB1.out.block it (by omega)).trans (Lib.iterAt_heap wr it s pos (pos + 1) HHIT.out)
        go_roundw
        case rel => exact ⟨pos + 1, xs ++ l, by omega, HR1.out, hits, (HB1.out.block _ (by have := HLO.out; omega)).trans ((Lib.iterAt_other wr it w.heap.size s (pos + 1) (by have := HLO.out; omega)).trans hx.out), (Lib.below_iterAt hb.out (by have := HLO.out; omega) s (pos + 1)).trans (HB1.out.mono (by have := HLO.out; omega)), Nat.le_trans (by rw [Lib.iterAt_size]; exact hsz.out) HB1.out.size, by rw [reads_step hlt, ← hxs.out, hch]; rfl, fun h => by have := HEND.out; omega⟩
        case measure => rw [HPOS.out, Go.iterPos_of hits]; omega
    · obtain rfl : pos = s.size := by omega
      have hnx := fun ty => Lib.run_next_end_at (P := Tryd.prog) _ it s s.size ty hit.out (by omega)
      go_wp2_with fail
      go_ret
      refine ⟨_, rfl, ?_, hb.out⟩
      have e : xs = readsS a1 a2 a3 l (rowS a0).data.toList := by
        rw [hxs.out, HS.out, List.take_of_length_le (by rw [Array.length_toList]; exact Nat.le_refl _)]
      rw [← e]
      exact Kd.R_lower (Kd.R_mono hR.out (fun _ _ => trivial)) (by have := HLO.out; omega)
end Go.Proofs.YtmiacdacebaagaaDoor.G
namespace Go.Proofs.YtmiacdacebaagaaDoor.G
open Go.RowKit Go.Proofs.YtmiacdacebaagaaDoorW.PrintWords Go.Proofs.YtmiacdacebaagaaDoorW.PrintLast Go.Proofs.YtmiacdacebaagaaDoorW.PrintMore
attribute [local go_sem] max2_int min2_int max_two min_two max_three min_three max_four min_four
set_option linter.unusedVariables false
set_option linter.unusedSimpArgs false
end Go.Proofs.YtmiacdacebaagaaDoor.G
set_option linter.unusedVariables false
set_option linter.unusedSimpArgs false
namespace Go.Proofs.YtmiacdacebaagaaDoor.G
open Go.RowKit Go.Proofs.YtmiacdacebaagaaDoor.B Go.Proofs.YtmiacdacebaagaaDoorW.PrintWords Go.Proofs.YtmiacdacebaagaaDoorW.PrintLast Go.Proofs.YtmiacdacebaagaaDoorW.PrintMore
theorem ints_l0 (xs : List Int) (hm : xs.length ≤ 9223372036854775807) : ∀ (d i k : Nat), xs.length - i = d → i ≤ xs.length → d < k → crosstreeref06_Ints.l0 k xs xs i = some true := by
  intro d
  induction d with
  | zero =>
    intro i k h hi hk
    obtain ⟨k, rfl⟩ : ∃ m, k = m + 1 := ⟨k - 1, by omega⟩
    simp only [crosstreeref06_Ints.l0]
    rw [if_neg (by omega)]
  | succ d ih =>
    intro i k h hi hk
    obtain ⟨k, rfl⟩ : ∃ m, k = m + 1 := ⟨k - 1, by omega⟩
    simp only [crosstreeref06_Ints.l0]
    rw [if_pos (by omega), if_pos (by omega), if_pos (by omega)]
    simp only [if_true]
    rw [show wrap64 ((i : Int) + 1) = ((i + 1 : Nat) : Int) by unfold wrap64; omega]
    exact ih (i + 1) k (by omega) (by omega) (by omega)
theorem ints_same (xs : List Int) (hm : xs.length ≤ 9223372036854775807) : crosstreeref06_Ints.f (xs.length + 1) xs xs = some true := by
  unfold crosstreeref06_Ints.f
  rw [if_pos rfl]
  exact ints_l0 xs hm xs.length 0 _ (by omega) (Nat.zero_le _) (by omega)
theorem ints_calls (xs : List Int) (A B : Option Addr) (c d : Nat) (w : World) (hA : Kd.C (Kd.int .i64) w A xs.length xs) (hc : xs.length ≤ c) (hB : Kd.C (Kd.int .i64) w B xs.length xs) (hd : xs.length ≤ d) :
    Calls Tryd.prog 12 #[.slice A xs.length c, .slice B xs.length d] w fun e w' => e = .returned (.bool true) ∧ Below w.heap.size w w' :=
  (crosstreeref06_Ints.calls _ A c xs B d xs true w hA hc hB hd (ints_same xs hA.2.1)).mono fun _ _ ⟨h1, h2⟩ => ⟨h1, h2.below⟩
theorem C_lit {w : World} {g : Nat} (xs : List Int) (hb : w.heap[g]? = some (.cells (nums .i64 xs).toArray 3 (0, 0))) (hm : xs.length ≤ 9223372036854775807) : Kd.C (Kd.int .i64) w (some ⟨g, 0, none⟩) xs.length xs := by
  refine ⟨rfl, hm, fun _ => ⟨_, rfl, fun j p hj => ⟨[.int .i64 p], rfl, rfl, fun i u hu => ?_⟩⟩⟩
  match i, hu with
  | 0, hu =>
    obtain rfl : Value.int .i64 p = u := by simpa using hu
    show w.cell? ((⟨g, 0, none⟩ : Addr).add (j * 1 + 0)) = _
    rw [add_plain, blk_cell hb]
    simp [nums, hj]
end Go.Proofs.YtmiacdacebaagaaDoor.G
set_option linter.unusedVariables false
set_option linter.unusedSimpArgs false
namespace Go.Proofs.YtmiacdacebaagaaDoor.G
open Go.RowKit Go.Proofs.YtmiacdacebaagaaDoor.B Go.Proofs.YtmiacdacebaagaaDoorW.PrintWords Go.Proofs.YtmiacdacebaagaaDoorW.PrintLast Go.Proofs.YtmiacdacebaagaaDoorW.PrintMore
theorem cell8 {W : World} {g t : Nat} {a b c d e f h i : Value} (hb : W.heap[g]? = some (.cells #[a, b, c, d, e, f, h, i] t (0, 0))) :
    W.cell? ⟨g, 0, none⟩ = some a ∧ W.cell? ⟨g, 1, none⟩ = some b ∧ W.cell? ⟨g, 2, none⟩ = some c ∧ W.cell? ⟨g, 3, none⟩ = some d ∧ W.cell? ⟨g, 4, none⟩ = some e ∧ W.cell? ⟨g, 5, none⟩ = some f ∧ W.cell? ⟨g, 6, none⟩ = some h ∧ W.cell? ⟨g, 7, none⟩ = some i :=
  ⟨(blk_cell hb 0).trans rfl, (blk_cell hb 1).trans rfl, (blk_cell hb 2).trans rfl, (blk_cell hb 3).trans rfl, (blk_cell hb 4).trans rfl, (blk_cell hb 5).trans rfl, (blk_cell hb 6).trans rfl, (blk_cell hb 7).trans rfl⟩
theorem reads_shown : readsS 3 4 0 [] (rowS 9).data.toList = [3, 4] := by simp [rowS, readsS, stepR]
theorem next_calls (a0 a1 a2 a3 a4 a5 : Int) (s : ByteArray) (A : Option Addr) (c : Nat) (l : List Int) (pc : Int) (w : World) (hC : Kd.C (Kd.int .i64) w A l.length l) (hc : l.length ≤ c) (r : List Int) (h : ir_Next.f a0 a1 a2 a3 a4 a5 s l pc = some r) :
    Calls Tryd.prog 11 #[.agg #[.int .i64 a0, .int .i64 a1, .int .i64 a2, .int .i64 a3, .int .i64 a4, .int .i64 a5, .string s, .slice A l.length c], .int .i64 pc] w fun e w' => ∃ A1 c1, e = .returned (.slice A1 r.length c1) ∧ r.length ≤ c1 ∧ Kd.C (Kd.int .i64) w' A1 r.length r ∧ Below w.heap.size w w' :=
  (ir_Next.calls a0 a1 a2 a3 a4 a5 s A c l pc r w hC hc h).mono fun _ _ ⟨v, h1, h2, h3⟩ => by
    obtain ⟨A1, c1, rfl, h4, h5⟩ := Kd.R_reads h2
    exact ⟨A1, c1, h1, h4, h5, h3⟩
theorem readsC (a0 a1 a2 a3 a4 a5 : Int) (s : ByteArray) (A : Option Addr) (c : Nat) (l : List Int) (w : World) (hC : Kd.C (Kd.int .i64) w A l.length l) (hl : l.length * 8 ≤ 140737488351232) (r : List Int) (hr : readsS a1 a2 a3 l (rowS a0).data.toList = r) :
    Calls Tryd.prog 9 #[.agg #[.int .i64 a0, .int .i64 a1, .int .i64 a2, .int .i64 a3, .int .i64 a4, .int .i64 a5, .string s, .slice A l.length c]] w fun e w' => ∃ A1 c1, e = .returned (.slice A1 r.length c1) ∧ r.length ≤ c1 ∧ Kd.C (Kd.int .i64) w' A1 r.length r ∧ Below w.heap.size w w' :=
  (reads_calls a0 a1 a2 a3 a4 a5 s A c l w hC hl).mono fun _ _ ⟨v, h1, h2, h3⟩ => by
    rw [hr] at h2
    obtain ⟨A1, c1, rfl, h4, h5⟩ := Kd.R_reads h2
    exact ⟨A1, c1, h1, h4, h5, h3⟩
theorem shown_calls (w : World) : Calls Tryd.prog 6 #[] w fun e w' => e = .returned (.bool true) ∧ Below w.heap.size w w' := by
  have HX := Aside0.mk (blk_new w (.cells #[.int .i64 9, .int .i64 3, .int .i64 4, .int .i64 0, .int .i64 8, .int .i64 0, .string ⟨#[]⟩, .slice none 0 0] 39))
  have HB := Aside0.mk (below_alloc (Below.refl w.heap.size w) (.cells #[.int .i64 9, .int .i64 3, .int .i64 4, .int .i64 0, .int .i64 8, .int .i64 0, .string ⟨#[]⟩, .slice none 0 0] 39))
  go_enter Tryd.func6, Tryd.ntmps6
  go_upto_region 2 with (fail)
  generalize w.alloc (.cells #[.int .i64 9, .int .i64 3, .int .i64 4, .int .i64 0, .int .i64 8, .int .i64 0, .string ⟨#[]⟩, .slice none 0 0] 39) = W at HB HX ⊢
  have hx := cell8 HX.out
  go_wp2_with fail
  refine (readsC 9 3 4 0 8 0 ⟨#[]⟩ none 0 [] W (Kd.C_nil _ _) (by simp) [3, 4] reads_shown).mono ?_
  rintro e w1 ⟨A1, c1, rfl, hc1, hC1, hb1⟩
  have HC1 := Aside0.mk hC1
  have HL1 := Aside0.mk hc1
  have HB1 := Aside0.mk (below_step HB.out hb1)
  replace HX := Aside0.mk (blk_below HX.out hb1)
  clear hC1 hc1 hb1 HB hx
  go_wp2_with fail
  refine (ints_calls [3, 4] A1 _ c1 2 _ (Kd.C_below HC1.out (below_alloc (Below.refl _ _) _)) HL1.out (C_lit [3, 4] (blk_new w1 (.cells (nums .i64 [3, 4]).toArray 3)) (by simp)) (Nat.le_refl _)).mono ?_
  rintro e w2 ⟨rfl, hb2⟩
  have hb12 := below_step (below_alloc (Below.refl w1.heap.size w1) (.cells #[.int .i64 3, .int .i64 4] 3)) hb2
  have HB2 := Aside0.mk (below_step HB1.out hb12)
  have hx := cell8 (blk_below HX.out hb12)
  clear HC1 HL1 HB1 HX hb2 hb12
  go_wp2_with fail
  refine (writes_calls 9 3 4 0 8 0 ⟨#[]⟩ none 0 0 w2).mono ?_
  rw [show (if wr 9 = true then (3 : Int) else -1) = -1 from rfl]
  rintro e w3 ⟨rfl, hb3⟩
  have HB3 := Aside0.mk (below_step HB2.out hb3)
  clear hx HB2 hb3
  go_wp2_with fail
  refine (next_calls 18 0 0 0 0 7 ⟨#[]⟩ none 0 [] 2 w3 (Kd.C_nil _ _) (Nat.le_refl _) [3, 7] (by unfold ir_Next.f; simp [wrap64])).mono ?_
  rintro e w4 ⟨A4, c4, rfl, hc4, hC4, hb4⟩
  have HC4 := Aside0.mk hC4
  have HL4 := Aside0.mk hc4
  have HB4 := Aside0.mk (below_step HB3.out hb4)
  clear HB3 hb4 hC4 hc4
  go_wp2_with fail
  refine (ints_calls [3, 7] A4 _ c4 2 _ (Kd.C_below HC4.out (below_alloc (Below.refl _ _) _)) HL4.out (C_lit [3, 7] (blk_new w4 (.cells (nums .i64 [3, 7]).toArray 3)) (by simp)) (Nat.le_refl _)).mono ?_
  rintro e w5 ⟨rfl, hb5⟩
  have HB5 := Aside0.mk (below_step HB4.out (below_step (below_alloc (Below.refl w4.heap.size w4) (.cells #[.int .i64 3, .int .i64 7] 3)) hb5))
  clear HC4 HL4 HB4 hb5
  go_wp2_with fail
  go_ret
  exact ⟨rfl, HB5.out⟩
end Go.Proofs.YtmiacdacebaagaaDoor.G
namespace Go.Proofs.YtmiacdacebaagaaDoor.G
open Go.RowKit Go.Proofs.YtmiacdacebaagaaDoorW.PrintWords Go.Proofs.YtmiacdacebaagaaDoorW.PrintLast Go.Proofs.YtmiacdacebaagaaDoorW.PrintMore
attribute [local go_sem] max2_int min2_int max_two min_two max_three min_three max_four min_four
set_option linter.unusedVariables false
set_option linter.unusedSimpArgs false
def crosstreeref08_Next.f (a0_0 : Int) (a0_1 : Int) (a0_2 : Int) (a0_3 : Int) (a0_4 : Int) (a0_5 : Int) (a0_6 : ByteArray) (l0_7 : List Int) (a1 : Int) : Option (List Int) := if a0_0 = 19 then (some ([] : List Int)) else (if a0_0 = 17 then (some (([a0_5] : List Int))) else (if a0_0 = 18 then (if a0_5 = (wrap64 (a1 + 1)) then (some (([wrap64 (a1 + 1)] : List Int))) else (some (([wrap64 (a1 + 1), a0_5] : List Int)))) else (some (([wrap64 (a1 + 1)] : List Int)))))
end Go.Proofs.YtmiacdacebaagaaDoor.G
namespace Go.Proofs
open Go.Shelf
def Tryd.lays157_ren : Go.Shelf.Ren := ⟨fun | 157 => 32 | 229 => 34 | 199 => 35 | 261 => 36 | 311 => 37 | 312 => 38 | n => n, fun | 9 => 9 | 31 => 64 | 3 => 3 | 5 => 5 | 4 => 4 | 119 => 68 | 0 => 0 | 40 => 70 | 152 => 71 | 21 => 21 | 154 => 73 | 51 => 74 | 141 => 76 | 196 => 80 | 193 => 77 | 198 => 83 | 49 => 81 | 194 => 78 | 201 => 86 | 226 => 88 | 46 => 89 | 227 => 90 | n => n, fun | 0 => 0 | 6 => 1 | n => n⟩
theorem Tryd.lays157 : Go.Proofs.Lays.n157 Tryd.prog Tryd.lays157_ren := {
  mixed := by kernel_rfl
  f157 := Tryd.func32.trans (congrArg some (by kernel_rfl))
  f199 := Tryd.func35.trans (congrArg some (by kernel_rfl))
  f229 := Tryd.func34.trans (congrArg some (by kernel_rfl))
  f261 := Tryd.func36.trans (congrArg some (by kernel_rfl))
  f311 := Tryd.func37.trans (congrArg some (by kernel_rfl))
  f312 := Tryd.func38.trans (congrArg some (by kernel_rfl))
  t0 := Tryd.underlying0
  a0 := Tryd.isAgg0
  z0 := Tryd.sizeOf0
  v0 := Tryd.zeroValue0
  t3 := Tryd.underlying3
  a3 := Tryd.isAgg3
  z3 := Tryd.sizeOf3
  v3 := Tryd.zeroValue3
  t4 := Tryd.underlying4
  a4 := Tryd.isAgg4
  z4 := Tryd.sizeOf4
  v4 := Tryd.zeroValue4
  t5 := Tryd.underlying5
  a5 := Tryd.isAgg5
  z5 := Tryd.sizeOf5
  v5 := Tryd.zeroValue5
  t9 := Tryd.underlying9
  a9 := Tryd.isAgg9
  z9 := Tryd.sizeOf9
  v9 := Tryd.zeroValue9
  t21 := Tryd.underlying21
  a21 := Tryd.isAgg21
  z21 := Tryd.sizeOf21
  v21 := Tryd.zeroValue21
  t31 := Tryd.underlying64
  a31 := Tryd.isAgg64
  z31 := Tryd.sizeOf64
  v31 := Tryd.zeroValue64
  t40 := Tryd.underlying70
  a40 := Tryd.isAgg70
  z40 := Tryd.sizeOf70
  v40 := Tryd.zeroValue70
  t46 := Tryd.underlying89
  a46 := Tryd.isAgg89
  z46 := Tryd.sizeOf89
  v46 := Tryd.zeroValue89
  t49 := Tryd.underlying81
  a49 := Tryd.isAgg81
  z49 := Tryd.sizeOf81
  v49 := Tryd.zeroValue81
  t51 := Tryd.underlying74
  a51 := Tryd.isAgg74
  z51 := Tryd.sizeOf74
  v51 := Tryd.zeroValue74
  t119 := Tryd.underlying68
  a119 := Tryd.isAgg68
  z119 := Tryd.sizeOf68
  t141 := Tryd.underlying76
  a141 := Tryd.isAgg76
  z141 := Tryd.sizeOf76
  v141 := Tryd.zeroValue76
  t152 := Tryd.underlying71
  a152 := Tryd.isAgg71
  z152 := Tryd.sizeOf71
  v152 := Tryd.zeroValue71
  t154 := Tryd.underlying73
  a154 := Tryd.isAgg73
  z154 := Tryd.sizeOf73
  v154 := Tryd.zeroValue73
  t193 := Tryd.underlying77
  a193 := Tryd.isAgg77
  z193 := Tryd.sizeOf77
  v193 := Tryd.zeroValue77
  t194 := Tryd.underlying78
  a194 := Tryd.isAgg78
  z194 := Tryd.sizeOf78
  v194 := Tryd.zeroValue78
  t196 := Tryd.underlying80
  a196 := Tryd.isAgg80
  z196 := Tryd.sizeOf80
  v196 := Tryd.zeroValue80
  t198 := Tryd.underlying83
  a198 := Tryd.isAgg83
  z198 := Tryd.sizeOf83
  v198 := Tryd.zeroValue83
  t201 := Tryd.underlying86
  a201 := Tryd.isAgg86
  z201 := Tryd.sizeOf86
  v201 := Tryd.zeroValue86
  t226 := Tryd.underlying88
  a226 := Tryd.isAgg88
  z226 := Tryd.sizeOf88
  v226 := Tryd.zeroValue88
  t227 := Tryd.underlying90
  a227 := Tryd.isAgg90
  z227 := Tryd.sizeOf90
  v227 := Tryd.zeroValue90
  g0 := by kernel_rfl
  g6 := by kernel_rfl }
open Go.RowKit Go.Lib in
theorem Tryd.strings_Fields (s : ByteArray) (w : World) (hs : s.size < 4294967281) (hascii : ∀ (j : Nat) b, s.data.toList[j]? = some b → b.toNat < 128) (htab : Lib.TabIs Tryd.prog w "strings.asciiSpace" .u8 Lib.asciiSpaceTab) :
    Calls Tryd.prog 32 #[.string s] w fun e w' =>
      e = .returned (.slice (some ⟨w.heap.size, 0, none⟩) (Lib.fields s.data.toList).length (Lib.fields s.data.toList).length) ∧ w' = w.alloc (.cells ((Lib.fields s.data.toList).map fun l => Value.string ⟨l.toArray⟩).toArray 9) := Any.strings_Fields Tryd.lays157 (by kernel_rfl) (by kernel_rfl) s w hs hascii htab
end Go.Proofs
set_option linter.unusedVariables false
set_option linter.unusedSimpArgs false
namespace Go.Proofs.YtmiacdacebaagaaDoor.G
open Go.RowKit Go.Proofs.YtmiacdacebaagaaDoor.B Go.Proofs.YtmiacdacebaagaaDoorW.PrintWords Go.Proofs.YtmiacdacebaagaaDoorW.PrintLast Go.Proofs.YtmiacdacebaagaaDoorW.PrintMore
theorem w64 {x : Int} (h0 : -1000000000000000000 ≤ x) (h1 : x ≤ 1000000000000000000) : wrap64 x = x := by unfold wrap64; omega
theorem idx_l0 (l : List ByteArray) (s : ByteArray) (hl : l.length ≤ 1000) : ∀ (k i : Nat), i ≤ l.length → l.length - i < k → ∃ r : Int, slices_Index_string_string.l0 k l s (l.length : Int) (i : Int) = some r ∧ decide (r ≥ 0) = decide (s.toList ∈ (l.drop i).map ByteArray.toList) := by
  intro k
  induction k with
  | zero => intro i h1 h2; omega
  | succ k ih =>
    intro i h1 h2
    unfold slices_Index_string_string.l0
    by_cases hlt : i < l.length
    · have hr : rdOf ByteArray.empty l (i : Int) = l[i] := by unfold rdOf; rw [Int.toNat_natCast, List.getD_eq_getElem?_getD, List.getElem?_eq_getElem hlt]; rfl
      rw [if_pos (by omega), if_pos (by omega), if_pos (by omega), hr, List.drop_eq_getElem_cons hlt, List.map_cons]
      by_cases he : s.toList = l[i].toList
      · rw [if_pos he, ← he]
        exact ⟨_, rfl, by simp⟩
      · rw [if_neg he, w64 (x := (i : Int) + 1) (by omega) (by omega), show (i : Int) + 1 = ((i + 1 : Nat) : Int) by omega]
        obtain ⟨r, h3, h4⟩ := ih (i + 1) (by omega) (by omega)
        refine ⟨r, h3, h4.trans ?_⟩
        rw [decide_eq_decide, List.mem_cons]
        exact ⟨.inr, fun h => h.resolve_left he⟩
    · rw [if_neg (by omega), List.drop_eq_nil_of_le (by omega)]
      exact ⟨_, rfl, by simp⟩
theorem contains_f (l : List ByteArray) (s : ByteArray) (hl : l.length ≤ 1000) : slices_Contains_string_string.f 2000 l s = some (decide (s.toList ∈ l.map ByteArray.toList)) := by
  unfold slices_Contains_string_string.f slices_Index_string_string.f
  obtain ⟨r, h1, h2⟩ := idx_l0 l s hl 2000 0 (Nat.zero_le _) (by omega)
  rw [show ((0 : Nat) : Int) = 0 from rfl] at h1
  rw [h1]
  simp only [Option.bind_some]
  rw [h2, List.drop_zero]
theorem contains_c {W : World} {A : Option Addr} {c : Nat} {l : List ByteArray} (hC : Kd.C Kd.string W A l.length l) (hc : l.length ≤ c) (hl : l.length ≤ 1000) (s : ByteArray) :
    Calls Tryd.prog 31 #[.slice A l.length c, .string s] W fun e w' => e = .returned (.bool (decide (s.toList ∈ l.map ByteArray.toList))) ∧ Below W.heap.size W w' :=
  (slices_Contains_string_string.calls 2000 A c l s _ W hC hc (contains_f l s hl)).mono fun e w' ⟨he, hd⟩ => ⟨he, hd.below⟩
def signB : List (List UInt8) := [[43], [45], [42], [47], [37], [38], [124], [94], [60, 60], [62, 62], [61, 61], [33, 61], [60], [60, 61], [62], [62, 61]]
theorem fields_signs : Lib.fields (⟨#[43, 32, 45, 32, 42, 32, 47, 32, 37, 32, 38, 32, 124, 32, 94, 32, 60, 60, 32, 62, 62, 32, 61, 61, 32, 33, 61, 32, 60, 32, 60, 61, 32, 62, 32, 62, 61]⟩ : ByteArray).data.toList = signB := by rfl
def Tab (W : World) : Prop := Lib.TabIs Tryd.prog W "strings.asciiSpace" .u8 Lib.asciiSpaceTab
theorem Tab.below {W W' : World} (h : Tab W) (hb : Below W.heap.size W W') : Tab W' := Lib.tabBelow_of_tabIs h _ hb
def signT : List ByteArray := signB.map fun l => ⟨l.toArray⟩
theorem signT_list : signT.map ByteArray.toList = signB := by
  unfold signT
  rw [List.map_map]
  exact (List.map_congr_left (fun l _ => by show (⟨l.toArray⟩ : ByteArray).toList = l; rw [bytes_toList])).trans (List.map_id _)
theorem C_strs {w : World} {g : Nat} (xs : List ByteArray) (hb : w.heap[g]? = some (.cells (xs.map Value.string).toArray 9 (0, 0))) (hm : xs.length ≤ 9223372036854775807) : Kd.C Kd.string w (some ⟨g, 0, none⟩) xs.length xs := by
  refine ⟨rfl, hm, fun _ => ⟨_, rfl, fun j p hj => ⟨[.string p], rfl, rfl, fun i u hu => ?_⟩⟩⟩
  match i, hu with
  | 0, hu =>
    obtain rfl : Value.string p = u := by simpa using hu
    show w.cell? ((⟨g, 0, none⟩ : Addr).add (j * 1 + 0)) = _
    rw [add_plain, blk_cell hb]
    simp [hj]
theorem ascii_signs : ∀ (j : Nat) (b : UInt8), (⟨#[43, 32, 45, 32, 42, 32, 47, 32, 37, 32, 38, 32, 124, 32, 94, 32, 60, 60, 32, 62, 62, 32, 61, 61, 32, 33, 61, 32, 60, 32, 60, 61, 32, 62, 32, 62, 61]⟩ : ByteArray).data.toList[j]? = some b → b.toNat < 128 := by
  intro j b h
  have hm := List.mem_of_getElem? h
  have key : ∀ b ∈ (⟨#[43, 32, 45, 32, 42, 32, 47, 32, 37, 32, 38, 32, 124, 32, 94, 32, 60, 60, 32, 62, 62, 32, 61, 61, 32, 33, 61, 32, 60, 32, 60, 61, 32, 62, 32, 62, 61]⟩ : ByteArray).data.toList, b.toNat < 128 := by decide
  exact key b hm
theorem fields_c (W : World) (hg : Tab W) : Calls Tryd.prog 32 #[.string ⟨#[43, 32, 45, 32, 42, 32, 47, 32, 37, 32, 38, 32, 124, 32, 94, 32, 60, 60, 32, 62, 62, 32, 61, 61, 32, 33, 61, 32, 60, 32, 60, 61, 32, 62, 32, 62, 61]⟩] W fun e w' => ∃ g, e = .returned (.slice (some ⟨g, 0, none⟩) 16 16) ∧ Kd.C Kd.string w' (some ⟨g, 0, none⟩) signT.length signT ∧ Below W.heap.size W w' := by
  refine (Tryd.strings_Fields ⟨#[43, 32, 45, 32, 42, 32, 47, 32, 37, 32, 38, 32, 124, 32, 94, 32, 60, 60, 32, 62, 62, 32, 61, 61, 32, 33, 61, 32, 60, 32, 60, 61, 32, 62, 32, 62, 61]⟩ W (by decide) ascii_signs hg).mono ?_
  rintro e w' ⟨rfl, rfl⟩
  rw [fields_signs]
  refine ⟨W.heap.size, rfl, C_strs signT ?_ (by decide), below_alloc (Below.refl _ _) _⟩
  have := blk_new W (.cells (signB.map fun l => Value.string ⟨l.toArray⟩).toArray 9)
  rw [this]
  unfold signT
  rw [List.map_map]
  rfl
end Go.Proofs.YtmiacdacebaagaaDoor.G
set_option linter.unusedVariables false
set_option linter.unusedSimpArgs false
namespace Go.Proofs.YtmiacdacebaagaaDoor.G
open Go.RowKit Go.Proofs.YtmiacdacebaagaaDoor.B Go.Proofs.YtmiacdacebaagaaDoorW.PrintWords Go.Proofs.YtmiacdacebaagaaDoorW.PrintLast Go.Proofs.YtmiacdacebaagaaDoorW.PrintMore
structure PV where
 sites : List S48
 fns : List S36
 main : Int
 A0 : Option Addr
 c0 : Nat
 A1 : Option Addr
 c1 : Nat
structure RdP (W : World) (p : PV) : Prop where
 sites : Kd.C k48 W p.A0 p.sites.length p.sites
 sc : p.sites.length ≤ p.c0
 fns : Kd.C k36 W p.A1 p.fns.length p.fns
 fc : p.fns.length ≤ p.c1
theorem RdP.below {W W' : World} {p : PV} (h : RdP W p) (hb : Below W.heap.size W W') : RdP W' p := ⟨Kd.C_below h.sites hb, h.sc, Kd.C_below h.fns hb, h.fc⟩
def kindS (sites : List S48) (n : Int) : Int := if n < 0 ∨ (sites.length : Int) ≤ n then 0 else (rd_T48 sites n).f0
theorem kind_f (sites : List S48) (fns : List S36) (m n : Int) : ir_kind.f sites fns m n = some (kindS sites n) := by
 unfold ir_kind.f kindS
 by_cases h1 : n < 0
 ·rw [if_pos h1, if_pos (.inl h1)]
 ·rw [if_neg h1]
  by_cases h2 : (sites.length : Int) ≤ n
  ·rw [if_pos h2, if_pos (.inr h2)]
  ·rw [if_neg h2, if_pos (by omega), if_pos (by omega), if_neg (by omega)]
theorem kind_c {W : World} {p : PV} (h : RdP W p) (n : Int) : Calls Tryd.prog 18 #[.agg #[.slice p.A0 p.sites.length p.c0, .slice p.A1 p.fns.length p.c1, .int .i64 p.main], .int .i64 n] W fun e w' => e = .returned (.int .i64 (kindS p.sites n)) ∧ Below W.heap.size W w' :=
 ir_kind.calls p.A0 p.c0 p.sites p.A1 p.c1 p.fns p.main n _ W h.sites h.sc h.fns h.fc (kind_f _ _ _ _)
def fitsS (p : PV) (i : S39) : Bool :=
 if i.f0 = 2 then kindS p.sites i.f2 != 0
 else if i.f0 = 5 then decide (i.f6.toList ∈ signB)
 else if i.f0 = 6 then (i.f6.toList == [45]) || (i.f6.toList == [126])
 else if i.f0 = 7 ∨ i.f0 = 8 ∨ i.f0 = 9 then (i.f4 == 1) || ((i.f4 == 4) || (i.f4 == 8))
 else if i.f0 = 10 then decide (0 ≤ i.f5) && decide (i.f5 ≤ 4096)
 else if i.f0 = 13 then decide (0 ≤ i.f5) && (decide (i.f5 < p.sites.length) && (kindS p.sites i.f5 == 3))
 else if i.f0 = 15 then decide (0 ≤ i.f5) && (decide (i.f5 < p.fns.length) && ((i.f7.length : Int) == (rd_T36 p.fns i.f5).f2))
 else if i.f0 = 16 then decide (i.f7.length ≤ 6)
 else true
theorem wpStill_off {P : Program} {ops : Array Oper} {w : World} {Q : Act → Prop} {a : Act} {o : Oper} {rest : List Oper} (h : Region.wanted o (yielded ops a.tmps) = false) (hK : wpStill P ops w Q rest (a.put o.dst undef)) : wpStill P ops w Q (o :: rest) a := by
 unfold wpStill
 rw [if_neg (by rw [h]; simp)]
 exact hK
theorem wpStill_on {P : Program} {ops : Array Oper} {w : World} {Q : Act → Prop} {a : Act} {o : Oper} {rest : List Oper} (hw : Region.wanted o (yielded ops a.tmps) = true) (h : ∀ K : Act → Prop, (∀ a, wpStill P ops w Q rest a → K a) → o.still P a w K) : wpStill P ops w Q (o :: rest) a := by
 unfold wpStill
 rw [if_pos hw]
 exact h _ (fun _ h => h)
set_option maxRecDepth 100000 in
set_option maxHeartbeats 8000000 in
theorem fits_c (p : PV) (op a b c wd n : Int) (sg : ByteArray) (l : List Int) (A : Option Addr) (d : Nat) (w : World) (h : RdP w p) (hg : Tab w) :
  Calls Tryd.prog 28 #[.agg #[.slice p.A0 p.sites.length p.c0, .slice p.A1 p.fns.length p.c1, .int .i64 p.main], .agg #[.int .i64 op, .int .i64 a, .int .i64 b, .int .i64 c, .int .i64 wd, .int .i64 n, .string sg, .slice A l.length d]] w
   fun e w' => e = .returned (.bool (fitsS p ⟨op, a, b, c, wd, n, sg, l⟩)) ∧ Below w.heap.size w w' := by
 have HP := Aside0.mk h
 have HG := Aside0.mk hg
 clear h hg
 go_enter Tryd.func28, Tryd.ntmps28
 go_upto_region 1 with (fail)
 have HX := Aside0.mk (blk_alloc (blk_at_ (W := w) (n := w.heap.size) (.cells #[.slice p.A0 p.sites.length p.c0, .slice p.A1 p.fns.length p.c1, .int .i64 p.main] 25) rfl) (.cells #[.int .i64 op, .int .i64 a, .int .i64 b, .int .i64 c, .int .i64 wd, .int .i64 n, .string sg, .slice A l.length d] 39))
 have HY := Aside0.mk (blk_at_ (W := w.alloc (.cells #[.slice p.A0 p.sites.length p.c0, .slice p.A1 p.fns.length p.c1, .int .i64 p.main] 25)) (n := w.heap.size + 1) (.cells #[.int .i64 op, .int .i64 a, .int .i64 b, .int .i64 c, .int .i64 wd, .int .i64 n, .string sg, .slice A l.length d] 39) (by simp))
 have HB := Aside0.mk (show Below w.heap.size w ((w.alloc (.cells #[.slice p.A0 p.sites.length p.c0, .slice p.A1 p.fns.length p.c1, .int .i64 p.main] 25)).alloc (.cells #[.int .i64 op, .int .i64 a, .int .i64 b, .int .i64 c, .int .i64 wd, .int .i64 n, .string sg, .slice A l.length d] 39)) from below_alloc (below_alloc (Below.refl _ _) _) _)
 generalize (w.alloc (.cells #[.slice p.A0 p.sites.length p.c0, .slice p.A1 p.fns.length p.c1, .int .i64 p.main] 25)).alloc (.cells #[.int .i64 op, .int .i64 a, .int .i64 b, .int .i64 c, .int .i64 wd, .int .i64 n, .string sg, .slice A l.length d] 39) = W at HX HY HB ⊢
 obtain ⟨x0, x1, x2⟩ := cell3 HX.out
 obtain ⟨y0, y1, y2, y3, y4, y5, y6, y7⟩ := cell8 HY.out
 have HPW := Aside0.mk (HP.out.below HB.out)
 have HGW := Aside0.mk (HG.out.below HB.out)
 by_cases o2 : op = 2
 ·subst o2
  go_wp2_with (go_at_call 18; with_reducible refine (kind_c HPW.out _).mono ?_; rintro e w1 ⟨rfl, hk⟩; have HB1 := Aside0.mk (below_step HB.out hk); clear hk)
  go_ret
  exact ⟨rfl, HB1.out⟩
 have n2 : (op == 2) = false := beq_eq_false_iff_ne.mpr o2
 by_cases o5 : op = 5
 ·subst o5
  clear n2
  have HK := Aside0.mk (fun (W2 : World) (hb : Below W.heap.size W W2) => And.intro (show W2.cell? ⟨w.heap.size + 1, 6, none⟩ = some (.string sg) from (blk_cell (blk_below HY.out hb) 6).trans rfl) hb)
  go_upto_region 5 with (fail)
  refine wp_region_held_drew (S := fun w' => w'.cell? ⟨w.heap.size + 1, 6, none⟩ = some (.string sg) ∧ Below W.heap.size W w') (by kernel_rfl) ⟨y6, below_drew (Below.refl _ _)⟩ (fun hHeld => ?_)
  refine wpAnyH_take (i := 1) (oi := { dst := (some 17), op := (Op.fieldAddr 39 (Operand.tmp 3) 6), type := 0, pos := "ir.go:80", after := #[], guard := none }) (v := ?_) rfl (by kernel_rfl) (by kernel_rfl) (by kernel_rfl) (fun _ _ _ h => h) (Or.inl ⟨by rfl, ?_⟩) hHeld ?_
  rotate_left
  ·intro w hSw; (try dsimp only at hSw); go_simp; try with_reducible rfl
  try simp only [Act.put, List.setIfInBounds_toArray, List.set_cons_zero, List.set_cons_succ]
  refine wpAnyH_take (i := 2) (oi := { dst := (some 18), op := (Op.load 9 (Operand.tmp 17)), type := 9, pos := "ir.go:80", after := #[{ on := 1, ground := Ground.data }], guard := none }) (v := ?_) rfl (by kernel_rfl) (by kernel_rfl) (by kernel_rfl) (fun _ _ _ h => h) (Or.inl ⟨by rfl, ?_⟩) hHeld ?_
  rotate_left
  ·intro w hSw; (try dsimp only at hSw); go_simp; try with_reducible rfl
  try simp only [Act.put, List.setIfInBounds_toArray, List.set_cons_zero, List.set_cons_succ]
  refine wpAnyH_ready (rs := [0]) (by kernel_rfl) (by simp) ?_
  refine AllReadyH.cons (o := { dst := (some 16), op := (Op.call { callee := (Callee.value (Operand.func 32)), args := #[(Operand.const (Value.string { data := #[43, 32, 45, 32, 42, 32, 47, 32, 37, 32, 38, 32, 124, 32, 94, 32, 60, 60, 32, 62, 62, 32, 61, 61, 32, 33, 61, 32, 60, 32, 60, 61, 32, 62, 32, 62, 61] }))], argTypes := #[9] }), type := 64, pos := "ir.go:80", after := #[], guard := none }) rfl (fun K hK => ?_) AllReadyH.nil
  go_simp
  refine (fields_c _ (HGW.out.below hHeld.2)).mono ?_
  rintro e w2 ⟨gA, rfl, hCA, hb2⟩
  have HCA := Aside0.mk hCA
  clear hCA
  go_wp2_with fail
  refine hK.out _ _ (HK.out _ (below_step hHeld.2 hb2)) (fun hHeld => ?_)
  clear hK K
  try simp only [Act.put, List.setIfInBounds_toArray, List.set_cons_zero, List.set_cons_succ]
  refine wpAnyH_ready (rs := [3]) (by kernel_rfl) (by simp) ?_
  refine AllReadyH.cons (o := { dst := (some 19), op := (Op.call { callee := (Callee.value (Operand.func 31)), args := #[(Operand.tmp 16), (Operand.tmp 18)], argTypes := #[64, 9] }), type := 4, pos := "ir.go:80", after := #[{ on := 0, ground := Ground.data }, { on := 2, ground := Ground.data }, { on := 0, ground := Ground.chain }], guard := none }) rfl (fun K hK => ?_) AllReadyH.nil
  go_simp
  refine (contains_c HCA.out (by decide) (by decide) sg).mono ?_
  rintro e w3 ⟨rfl, hb2⟩
  rw [signT_list]
  go_wp2_with fail
  refine hK.out _ _ (HK.out _ (below_step hHeld.2 hb2)) (fun hHeld => ?_)
  clear hK K
  try simp only [Act.put, List.setIfInBounds_toArray, List.set_cons_zero, List.set_cons_succ]
  refine wpAnyH_take (i := 4) (oi := { dst := (some 4), op := (Op.assign (Operand.tmp 19)), type := 4, pos := "ir.go:80", after := #[{ on := 3, ground := Ground.data }, { on := 3, ground := Ground.chain }, { on := 0, ground := Ground.phase }, { on := 1, ground := Ground.phase }, { on := 2, ground := Ground.phase }, { on := 3, ground := Ground.phase }], guard := none }) (v := ?_) rfl (by kernel_rfl) (by kernel_rfl) (by kernel_rfl) (fun _ _ _ h => h) (Or.inl ⟨by rfl, ?_⟩) hHeld ?_
  rotate_left
  ·intro w hSw; (try dsimp only at hSw); go_simp; try with_reducible rfl
  try simp only [Act.put, List.setIfInBounds_toArray, List.set_cons_zero, List.set_cons_succ]
  refine wpAnyH_done (by kernel_rfl) ?_ _
  have HBd := Aside0.mk (below_step HB.out hHeld.2)
  clear hHeld
  go_wp2_with fail
  go_ret
  exact ⟨by simp [fitsS], HBd.out⟩
 have n5 : (op == 5) = false := beq_eq_false_iff_ne.mpr o5
 by_cases o6 : op = 6
 ·subst o6
  clear n2 n5
  cases r1 : (sg.toList == [45]) with
  | true =>
   go_wp2_with fail
   go_ret
   exact ⟨by simp [fitsS, r1], HB.out⟩
  | false =>
   go_wp2_with fail
   go_ret
   exact ⟨by simp [fitsS, r1], HB.out⟩
 have n6 : (op == 6) = false := beq_eq_false_iff_ne.mpr o6
 by_cases o7 : op = 7 ∨ op = 8 ∨ op = 9
 ·have hf : fitsS p ⟨op, a, b, c, wd, n, sg, l⟩ = ((wd == 1) || ((wd == 4) || (wd == 8))) := by unfold fitsS; simp [o2, o5, o6, o7]
  have HF := Aside0.mk hf
  clear o2 o5 o6 hf
  rcases o7 with o | o | o
  all_goals
   subst o
   clear n2 n5 n6
   cases r1 : (wd == 1) with
   | true =>
    go_wp2_with fail
    go_ret
    refine ⟨?_, HB.out⟩
    rw [HF.out, r1]
    rfl
   | false =>
    cases r2 : (wd == 4) with
    | true =>
     go_wp2_with fail
     go_ret
     refine ⟨?_, HB.out⟩
     rw [HF.out, r1, r2]
     rfl
    | false =>
     go_wp2_with fail
     go_ret
     refine ⟨?_, HB.out⟩
     rw [HF.out, r1, r2]
     rfl
 have n7 : (op == 7) = false := beq_eq_false_iff_ne.mpr (fun h => o7 (.inl h))
 have n8 : (op == 8) = false := beq_eq_false_iff_ne.mpr (fun h => o7 (.inr (.inl h)))
 have n9 : (op == 9) = false := beq_eq_false_iff_ne.mpr (fun h => o7 (.inr (.inr h)))
 by_cases o10 : op = 10
 ·have hf : fitsS p ⟨op, a, b, c, wd, n, sg, l⟩ = (decide (0 ≤ n) && decide (n ≤ 4096)) := by unfold fitsS; simp [o10]
  have HF := Aside0.mk hf
  clear o2 o5 o6 o7 hf
  subst o10
  clear n2 n5 n6 n7 n8 n9
  by_cases r1 : 0 ≤ n
  ·go_wp2_with fail
   go_ret
   refine ⟨?_, HB.out⟩
   rw [HF.out, decide_eq_true r1]
   rfl
  ·have hd := decide_eq_false r1
   go_wp2_with fail
   go_ret
   refine ⟨?_, HB.out⟩
   rw [HF.out, hd]
   rfl
 have n10 : (op == 10) = false := beq_eq_false_iff_ne.mpr o10
 by_cases o13 : op = 13
 ·have hf : fitsS p ⟨op, a, b, c, wd, n, sg, l⟩ = (decide (0 ≤ n) && (decide (n < p.sites.length) && (kindS p.sites n == 3))) := by unfold fitsS; simp [o13]
  have HF := Aside0.mk hf
  clear o2 o5 o6 o7 o10 hf
  subst o13
  clear n2 n5 n6 n7 n8 n9 n10
  by_cases r1 : 0 ≤ n
  ·by_cases r2 : n < (p.sites.length : Int)
   ·have hd1 := decide_eq_true r1
    have hd2 := decide_eq_true r2
    go_wp2_with (go_at_call 18; with_reducible refine (kind_c HPW.out _).mono ?_; rintro e w1 ⟨rfl, hk⟩; have HB1 := Aside0.mk (below_step HB.out hk); clear hk)
    go_ret
    refine ⟨?_, HB1.out⟩
    rw [HF.out, hd1, hd2]
    rfl
   ·have hd1 := decide_eq_true r1
    have hd2 := decide_eq_false r2
    go_wp2_with fail
    go_ret
    refine ⟨?_, HB.out⟩
    rw [HF.out, hd1, hd2]
    rfl
  ·have hd := decide_eq_false r1
   go_wp2_with fail
   go_ret
   refine ⟨?_, HB.out⟩
   rw [HF.out, hd]
   rfl
 have n13 : (op == 13) = false := beq_eq_false_iff_ne.mpr o13
 by_cases o15 : op = 15
 ·have hf : fitsS p ⟨op, a, b, c, wd, n, sg, l⟩ = (decide (0 ≤ n) && (decide (n < p.fns.length) && ((l.length : Int) == (rd_T36 p.fns n).f2))) := by unfold fitsS; simp [o15]
  have HF := Aside0.mk hf
  clear o2 o5 o6 o7 o10 o13 hf
  subst o15
  clear n2 n5 n6 n7 n8 n9 n10 n13
  by_cases r1 : 0 ≤ n
  ·by_cases r2 : n < (p.fns.length : Int)
   ·obtain ⟨ad, A3, c3, A4, c4, hA, z0, z1, z2, _⟩ := at_T36 HPW.out.fns n r1 r2
    have hd1 := decide_eq_true r1
    have hd2 := decide_eq_true r2
    rw [hA] at x1 ⊢
    go_upto_region 17 with (fail)
    go_still (by kernel_rfl)
    change Exit.then _ _ _ _ W.drew
    have HBd := Aside0.mk (below_drew HB.out)
    generalize W.drew = Wd at HBd ⊢
    go_wp2_with fail
    go_ret
    refine ⟨?_, HBd.out⟩
    rw [HF.out, hd1, hd2]
    rfl
   ·have hd1 := decide_eq_true r1
    have HD : Aside0 (decide (n < (p.fns.length : Int)) = false) := Aside0.mk (decide_eq_false r2)
    clear r2
    go_upto_region 17 with (fail)
    refine wp_region_still_lit rfl (by kernel_rfl) ?_
    iterate 10 (refine wpStill_on (by rfl) (fun K hK => ?_); go_simp; refine hK _ ?_; clear hK K)
    (refine wpStill_on (by rfl) (fun K hK => ?_); go_simp; (try rw [if_neg (of_decide_eq_false HD.out)]); (try go_simp); refine hK _ ?_; clear hK K)
    (refine wpStill_on (by rfl) (fun K hK => ?_); go_simp; refine hK _ ?_; clear hK K)
    iterate 11 (refine wpStill_off (by simp [Region.wanted, yielded, HD.out]) ?_; simp only [Act.put, List.setIfInBounds_toArray, List.set_cons_succ, List.set_cons_zero])
    (refine wpStill_on (by rfl) (fun K hK => ?_); go_simp; (try rw [if_neg (of_decide_eq_false HD.out)]); (try go_simp); refine hK _ ?_; clear hK K)
    (refine wpStill_on (by rfl) (fun K hK => ?_); go_simp; refine hK _ ?_; clear hK K)
    refine wpStill_nil ?_
    change Exit.then _ _ _ _ W.drew
    have HBd := Aside0.mk (below_drew HB.out)
    generalize W.drew = Wd at HBd ⊢
    go_wp2_with fail
    go_ret
    refine ⟨?_, HBd.out⟩
    rw [HF.out, hd1, HD.out]
    rfl
  ·have HD : Aside0 (decide (0 ≤ n) = false) := Aside0.mk (decide_eq_false r1)
   clear r1
   go_upto_region 17 with (fail)
   refine wp_region_still_lit rfl (by kernel_rfl) ?_
   iterate 4 (refine wpStill_on (by rfl) (fun K hK => ?_); go_simp; refine hK _ ?_; clear hK K)
   iterate 6 (refine wpStill_off (by simp [Region.wanted, yielded, HD.out]) ?_; simp only [Act.put, List.setIfInBounds_toArray, List.set_cons_succ, List.set_cons_zero])
   (refine wpStill_on (by rfl) (fun K hK => ?_); go_simp; refine hK _ ?_; clear hK K)
   (refine wpStill_on (by rfl) (fun K hK => ?_); go_simp; refine hK _ ?_; clear hK K)
   iterate 11 (refine wpStill_off (by simp [Region.wanted, yielded, if_neg (of_decide_eq_false HD.out)]) ?_; simp only [Act.put, List.setIfInBounds_toArray, List.set_cons_succ, List.set_cons_zero])
   (refine wpStill_on (by rfl) (fun K hK => ?_); go_simp; (try rw [if_neg (of_decide_eq_false HD.out)]); (try go_simp); refine hK _ ?_; clear hK K)
   (refine wpStill_on (by rfl) (fun K hK => ?_); go_simp; refine hK _ ?_; clear hK K)
   refine wpStill_nil ?_
   change Exit.then _ _ _ _ W.drew
   have HBd := Aside0.mk (below_drew HB.out)
   generalize W.drew = Wd at HBd ⊢
   go_wp2_with fail
   go_ret
   refine ⟨?_, HBd.out⟩
   rw [HF.out, HD.out]
   rfl
 have n15 : (op == 15) = false := beq_eq_false_iff_ne.mpr o15
 by_cases o16 : op = 16
 ·have hf : fitsS p ⟨op, a, b, c, wd, n, sg, l⟩ = decide (l.length ≤ 6) := by unfold fitsS; simp [o16]
  have HF := Aside0.mk hf
  clear o2 o5 o6 o7 o10 o13 o15 hf
  subst o16
  clear n2 n5 n6 n7 n8 n9 n10 n13 n15
  by_cases r1 : l.length ≤ 6
  ·have hd := decide_eq_true r1
   have hd2 : (l.length : Int) ≤ 6 := by omega
   go_wp2_with fail
   go_ret
   refine ⟨?_, HB.out⟩
   rw [HF.out, hd]
   first | rfl | simp [hd2]
  ·have hd := decide_eq_false r1
   have hd2 : ¬ (l.length : Int) ≤ 6 := by omega
   go_wp2_with fail
   go_ret
   refine ⟨?_, HB.out⟩
   rw [HF.out, hd]
   first | rfl | simp [hd2]
 ·have hf : fitsS p ⟨op, a, b, c, wd, n, sg, l⟩ = true := by unfold fitsS; simp [o2, o5, o6, o7, o10, o13, o15, o16]
  have HF := Aside0.mk hf
  have n16 : (op == 16) = false := beq_eq_false_iff_ne.mpr o16
  clear o2 o5 o6 o7 o10 o13 o15 o16 hf
  go_wp2_with fail
  go_ret
  refine ⟨?_, HB.out⟩
  rw [HF.out]
  rfl
end Go.Proofs.YtmiacdacebaagaaDoor.G
set_option linter.unusedVariables false
set_option linter.unusedSimpArgs false
namespace Go.Proofs.YtmiacdacebaagaaDoor.G
open Go.RowKit Go.Proofs.YtmiacdacebaagaaDoor.B Go.Proofs.YtmiacdacebaagaaDoorW.PrintWords Go.Proofs.YtmiacdacebaagaaDoorW.PrintLast Go.Proofs.YtmiacdacebaagaaDoorW.PrintMore
theorem bad_c {W : World} {g : Nat} {regs : Int} (h : W.cell? ⟨g, 1, none⟩ = some (.int .i64 regs)) (r : Int) :
    Calls Tryd.prog 25 #[.int .i64 r, .pointer (some ⟨g, 0, none⟩)] W fun e w' => e = .returned (.bool (decide (r < 0) || decide (regs ≤ r))) ∧ Below W.heap.size W w' := by
  have HB := Aside0.mk (Below.refl W.heap.size W)
  by_cases h1 : r < 0
  · have h2 := decide_eq_true h1
    have HD := Aside0.mk h2
    go_enter Tryd.func25, Tryd.ntmps25
    go_wp2_with fail
    go_ret
    refine ⟨?_, HB.out⟩
    rw [HD.out]
    rfl
  · have h2 := decide_eq_false h1
    have HD := Aside0.mk h2
    go_enter Tryd.func25, Tryd.ntmps25
    go_wp2_with fail
    go_ret
    refine ⟨?_, HB.out⟩
    first | rfl | (rw [HD.out]; rfl)
theorem leads_c {W : World} {g : Nat} {A : Option Addr} {n c : Nat} (h : W.cell? ⟨g, 4, none⟩ = some (.slice A n c)) (r : Int) :
    Calls Tryd.prog 26 #[.int .i64 r, .pointer (some ⟨g, 0, none⟩)] W fun e w' => e = .returned (.bool (decide (r < 0) || decide ((n : Int) ≤ r))) ∧ Below W.heap.size W w' := by
  have HB := Aside0.mk (Below.refl W.heap.size W)
  by_cases h1 : r < 0
  · have h2 := decide_eq_true h1
    have HD := Aside0.mk h2
    go_enter Tryd.func26, Tryd.ntmps26
    go_wp2_with fail
    go_ret
    refine ⟨?_, HB.out⟩
    rw [HD.out]
    rfl
  · have h2 := decide_eq_false h1
    have HD := Aside0.mk h2
    go_enter Tryd.func26, Tryd.ntmps26
    go_wp2_with fail
    go_ret
    refine ⟨?_, HB.out⟩
    first | rfl | (rw [HD.out]; rfl)
end Go.Proofs.YtmiacdacebaagaaDoor.G
set_option linter.unusedVariables false
set_option linter.unusedSimpArgs false
namespace Go.Proofs.YtmiacdacebaagaaDoor.G
open Go.RowKit Go.Proofs.YtmiacdacebaagaaDoor.B Go.Proofs.YtmiacdacebaagaaDoorW.PrintWords Go.Proofs.YtmiacdacebaagaaDoorW.PrintLast Go.Proofs.YtmiacdacebaagaaDoorW.PrintMore
set_option maxHeartbeats 4000000 in
theorem index25 (p1 : Value) (p : Int → Bool) {A : Option Addr} {c : Nat} {l : List Int} (w : World) (hC : Kd.C (Kd.int .i64) w A l.length l) (hl : l.length ≤ 9000000000000000000)
    (hf : ∀ (W : World) (r : Int), Below w.heap.size w W → Calls Tryd.prog 25 #[.int .i64 r, p1] W fun e w' => e = .returned (.bool (p r)) ∧ Below W.heap.size W w') :
    Calls Tryd.prog 30 #[.slice A l.length c, .func (.func 25) #[] #[p1]] w fun e w' => (∃ i : Int, e = .returned (.int .i64 i) ∧ decide (0 ≤ i) = l.any p) ∧ Below w.heap.size w w' := by
  have HF := Aside0.mk hf
  have HC := Aside0.mk hC
  clear hf hC
  go_enter Tryd.func30, Tryd.ntmps30
  go_upto_block 0 with (fail)
  go_wp2_with fail
  go_loopw [8] (fun iv wx => ∃ (i : Nat), i ≤ l.length ∧ iv = .int .i64 (i : Int) ∧ Hid (l.any p = (l.drop i).any p) ∧ Hid (Below w.heap.size w wx)) (fun iv _ => l.length - (intOf iv).toNat)
  case atStart => exact ⟨0, Nat.zero_le _, rfl, rfl, Below.refl _ _⟩
  case round =>
    obtain ⟨i, hi, rfl, hp, hB⟩ := hrel
    have HP := Aside0.mk (show l.any p = (l.drop i).any p from hp)
    have HB : Aside0 (Below w.heap.size w wr) := Aside0.mk hB
    clear hp hB
    by_cases hlt : (i : Int) < (l.length : Int)
    · have hi1 : i < l.length := by omega
      obtain ⟨ad, hA, z0⟩ := Kd.at_int (Kd.C_below HC.out HB.out) (i : Int) (Int.natCast_nonneg i) hlt
      subst hA
      obtain ⟨x, hx⟩ : ∃ x, l[i]? = some x := ⟨_, List.getElem?_eq_getElem hi1⟩
      have hr : rd l (i : Int) = x := by
        unfold rd
        rw [Int.toNat_natCast, List.getD_eq_getElem?_getD, hx]
        rfl
      rw [hr, Int.toNat_natCast] at z0
      have HD : Aside0 ((l.drop i).any p = (p x || (l.drop (i + 1)).any p)) := Aside0.mk (by
        rw [List.drop_eq_getElem_cons hi1, List.any_cons]
        have : l[i] = x := by rw [List.getElem?_eq_getElem hi1] at hx; injection hx
        rw [this])
      have hwi : IntKind.i64.wrap ((i : Int) + 1) = (i : Int) + 1 := by rw [IntKind.wrap_i64]; omega
      clear hx hr
      cases hpx : p x with
      | true =>
        have HPX := Aside0.mk hpx
        clear hpx
        go_wp2_with (go_at_call 25; with_reducible refine (HF.out _ x HB.out).mono ?_; rintro e w1 ⟨rfl, hk⟩; rw [HPX.out]; replace HB := Aside0.mk (below_step HB.out hk); clear hk)
        go_ret
        exact ⟨⟨_, rfl, by rw [HP.out, HD.out, HPX.out]; simp⟩, HB.out⟩
      | false =>
        have HPX := Aside0.mk hpx
        clear hpx
        go_wp2_with (go_at_call 25; with_reducible refine (HF.out _ x HB.out).mono ?_; rintro e w1 ⟨rfl, hk⟩; rw [HPX.out]; replace HB := Aside0.mk (below_step HB.out hk); clear hk)
        go_roundw
        case rel => exact ⟨i + 1, by omega, by go_num, by show _ = _; rw [HP.out, HD.out, HPX.out]; rfl, HB.out⟩
        case measure => simp [intOf]; omega
    · have hn : Aside0 (l.any p = false) := Aside0.mk (by rw [HP.out, List.drop_eq_nil_of_le (by omega)]; rfl)
      go_wp2_with fail
      go_ret
      exact ⟨⟨_, rfl, by rw [hn.out]; rfl⟩, HB.out⟩
theorem contains25 (p1 : Value) (p : Int → Bool) {A : Option Addr} {c : Nat} {l : List Int} (w : World) (hC : Kd.C (Kd.int .i64) w A l.length l) (hl : l.length ≤ 9000000000000000000)
    (hf : ∀ (W : World) (r : Int), Below w.heap.size w W → Calls Tryd.prog 25 #[.int .i64 r, p1] W fun e w' => e = .returned (.bool (p r)) ∧ Below W.heap.size W w') :
    Calls Tryd.prog 27 #[.slice A l.length c, .func (.func 25) #[] #[p1]] w fun e w' => e = .returned (.bool (l.any p)) ∧ Below w.heap.size w w' := by
  have HI := Aside0.mk (index25 p1 p (c := c) w hC hl hf)
  clear hf hC
  go_enter Tryd.func27, Tryd.ntmps27
  go_wp2_with (go_at_call 30; with_reducible refine HI.out.mono ?_; rintro e w1 ⟨⟨i, rfl, hi⟩, hk⟩; have HB := Aside0.mk hk; have HII := Aside0.mk hi; clear hk hi)
  go_ret
  refine ⟨?_, HB.out⟩
  rw [← HII.out]
  rfl
set_option maxHeartbeats 4000000 in
theorem index26 (p1 : Value) (p : Int → Bool) {A : Option Addr} {c : Nat} {l : List Int} (w : World) (hC : Kd.C (Kd.int .i64) w A l.length l) (hl : l.length ≤ 9000000000000000000)
    (hf : ∀ (W : World) (r : Int), Below w.heap.size w W → Calls Tryd.prog 26 #[.int .i64 r, p1] W fun e w' => e = .returned (.bool (p r)) ∧ Below W.heap.size W w') :
    Calls Tryd.prog 30 #[.slice A l.length c, .func (.func 26) #[] #[p1]] w fun e w' => (∃ i : Int, e = .returned (.int .i64 i) ∧ decide (0 ≤ i) = l.any p) ∧ Below w.heap.size w w' := by
  have HF := Aside0.mk hf
  have HC := Aside0.mk hC
  clear hf hC
  go_enter Tryd.func30, Tryd.ntmps30
  go_upto_block 0 with (fail)
  go_wp2_with fail
  go_loopw [8] (fun iv wx => ∃ (i : Nat), i ≤ l.length ∧ iv = .int .i64 (i : Int) ∧ Hid (l.any p = (l.drop i).any p) ∧ Hid (Below w.heap.size w wx)) (fun iv _ => l.length - (intOf iv).toNat)
  case atStart => exact ⟨0, Nat.zero_le _, rfl, rfl, Below.refl _ _⟩
  case round =>
    obtain ⟨i, hi, rfl, hp, hB⟩ := hrel
    have HP := Aside0.mk (show l.any p = (l.drop i).any p from hp)
    have HB : Aside0 (Below w.heap.size w wr) := Aside0.mk hB
    clear hp hB
    by_cases hlt : (i : Int) < (l.length : Int)
    · have hi1 : i < l.length := by omega
      obtain ⟨ad, hA, z0⟩ := Kd.at_int (Kd.C_below HC.out HB.out) (i : Int) (Int.natCast_nonneg i) hlt
      subst hA
      obtain ⟨x, hx⟩ : ∃ x, l[i]? = some x := ⟨_, List.getElem?_eq_getElem hi1⟩
      have hr : rd l (i : Int) = x := by
        unfold rd
        rw [Int.toNat_natCast, List.getD_eq_getElem?_getD, hx]
        rfl
      rw [hr, Int.toNat_natCast] at z0
      have HD : Aside0 ((l.drop i).any p = (p x || (l.drop (i + 1)).any p)) := Aside0.mk (by
        rw [List.drop_eq_getElem_cons hi1, List.any_cons]
        have : l[i] = x := by rw [List.getElem?_eq_getElem hi1] at hx; injection hx
        rw [this])
      have hwi : IntKind.i64.wrap ((i : Int) + 1) = (i : Int) + 1 := by rw [IntKind.wrap_i64]; omega
      clear hx hr
      cases hpx : p x with
      | true =>
        have HPX := Aside0.mk hpx
        clear hpx
        go_wp2_with (go_at_call 26; with_reducible refine (HF.out _ x HB.out).mono ?_; rintro e w1 ⟨rfl, hk⟩; rw [HPX.out]; replace HB := Aside0.mk (below_step HB.out hk); clear hk)
        go_ret
        exact ⟨⟨_, rfl, by rw [HP.out, HD.out, HPX.out]; simp⟩, HB.out⟩
      | false =>
        have HPX := Aside0.mk hpx
        clear hpx
        go_wp2_with (go_at_call 26; with_reducible refine (HF.out _ x HB.out).mono ?_; rintro e w1 ⟨rfl, hk⟩; rw [HPX.out]; replace HB := Aside0.mk (below_step HB.out hk); clear hk)
        go_roundw
        case rel => exact ⟨i + 1, by omega, by go_num, by show _ = _; rw [HP.out, HD.out, HPX.out]; rfl, HB.out⟩
        case measure => simp [intOf]; omega
    · have hn : Aside0 (l.any p = false) := Aside0.mk (by rw [HP.out, List.drop_eq_nil_of_le (by omega)]; rfl)
      go_wp2_with fail
      go_ret
      exact ⟨⟨_, rfl, by rw [hn.out]; rfl⟩, HB.out⟩
theorem contains26 (p1 : Value) (p : Int → Bool) {A : Option Addr} {c : Nat} {l : List Int} (w : World) (hC : Kd.C (Kd.int .i64) w A l.length l) (hl : l.length ≤ 9000000000000000000)
    (hf : ∀ (W : World) (r : Int), Below w.heap.size w W → Calls Tryd.prog 26 #[.int .i64 r, p1] W fun e w' => e = .returned (.bool (p r)) ∧ Below W.heap.size W w') :
    Calls Tryd.prog 27 #[.slice A l.length c, .func (.func 26) #[] #[p1]] w fun e w' => e = .returned (.bool (l.any p)) ∧ Below w.heap.size w w' := by
  have HI := Aside0.mk (index26 p1 p (c := c) w hC hl hf)
  clear hf hC
  go_enter Tryd.func27, Tryd.ntmps27
  go_wp2_with (go_at_call 30; with_reducible refine HI.out.mono ?_; rintro e w1 ⟨⟨i, rfl, hi⟩, hk⟩; have HB := Aside0.mk hk; have HII := Aside0.mk hi; clear hk hi)
  go_ret
  refine ⟨?_, HB.out⟩
  rw [← HII.out]
  rfl
end Go.Proofs.YtmiacdacebaagaaDoor.G
namespace Go.Proofs.YtmiacdacebaagaaDoor.G
open Go.RowKit Go.Proofs.YtmiacdacebaagaaDoorW.PrintWords Go.Proofs.YtmiacdacebaagaaDoorW.PrintLast Go.Proofs.YtmiacdacebaagaaDoorW.PrintMore
attribute [local go_sem] max2_int min2_int max_two min_two max_three min_three max_four min_four
set_option linter.unusedVariables false
set_option linter.unusedSimpArgs false
end Go.Proofs.YtmiacdacebaagaaDoor.G
set_option linter.unusedVariables false
set_option linter.unusedSimpArgs false
namespace Go.Proofs.YtmiacdacebaagaaDoor.G
open Go.RowKit Go.Proofs.YtmiacdacebaagaaDoor.B Go.Proofs.YtmiacdacebaagaaDoorW.PrintWords Go.Proofs.YtmiacdacebaagaaDoorW.PrintLast Go.Proofs.YtmiacdacebaagaaDoorW.PrintMore
def badR (m r : Int) : Bool := decide (r < 0) || decide (m ≤ r)
def nextS (i : S39) (pc : Int) : List Int := if i.f0 = 19 then [] else if i.f0 = 17 then [i.f5] else if i.f0 = 18 then (if i.f5 = wrap64 (pc + 1) then [wrap64 (pc + 1)] else [wrap64 (pc + 1), i.f5]) else [wrap64 (pc + 1)]
def readsI (i : S39) : List Int := readsS i.f1 i.f2 i.f3 i.f7 (rowS i.f0).data.toList
def wrongA (p : PV) (f : S36) (i : S39) : Bool := (readsI i).any (badR f.f1) || (wr i.f0 && badR f.f1 i.f1) || !fitsS p i
def wrongB (f : S36) (i : S39) (pc : Int) : Bool := ((i.f0 == 17 || i.f0 == 18) && badR f.f4.length i.f5) || (nextS i pc).any (badR f.f4.length)
def insnS (p : PV) (f : S36) (pc : Int) : Int :=
  if (rd_T39 f.f4 pc).f0 < 1 ∨ 20 < (rd_T39 f.f4 pc).f0 then 1 else if wrongA p f (rd_T39 f.f4 pc) = true then 8 else if wrongB f (rd_T39 f.f4 pc) pc = true then 8 else 0
def badSize (f : S36) : Bool := decide (4000 < f.f4.length) || (f.f4.length == 0 || (decide (4000 < f.f1) || (decide (f.f1 < f.f2) || decide (f.f2 < 0))))
def localOk (p : PV) (n s : Int) : Bool := kindS p.sites s == 2 && (rd_T48 p.sites s).f2 == n
def codeS (p : PV) (f : S36) : Nat → Nat → Int × Int
  | 0, _ => (0, 0)
  | d + 1, pc => if insnS p f pc = 0 then codeS p f d (pc + 1) else ((pc : Int), insnS p f pc)
def fnS (p : PV) (n : Int) : Int × Int :=
  if badSize (rd_T36 p.fns n) = true then (0, 5) else if (rd_T36 p.fns n).f3.all (localOk p n) = true then codeS p (rd_T36 p.fns n) (rd_T36 p.fns n).f4.length 0 else (0, 8)
def fnsS (p : PV) : Nat → Nat → Int × Int × Int
  | 0, _ => (0, 0, 0)
  | d + 1, n => if (fnS p n).2 = 0 then fnsS p d (n + 1) else ((n : Int), (fnS p n).1, (fnS p n).2)
def sitesS (p : PV) : Nat → Nat → Bool
  | 0, _ => true
  | d + 1, n => if ((rd_T48 p.sites n).f0 == 4) = decide ((n : Int) < p.fns.length) then sitesS p d (n + 1) else false
def chkS (p : PV) : Int × Int × Int :=
  if 200 < p.fns.length ∨ 600 < p.sites.length then (0, 0, 5)
  else if p.main < 0 ∨ (p.fns.length : Int) ≤ p.main ∨ p.sites.length < p.fns.length then (0, 0, 8)
  else if sitesS p p.sites.length 0 = true then fnsS p p.fns.length 0 else (0, 0, 8)
theorem rd_at (l : List Int) (i : Nat) (h : i < l.length) : rd l (i : Int) = l[i] := by
  unfold rd
  rw [Int.toNat_natCast, List.getD_eq_getElem?_getD, List.getElem?_eq_getElem h]
  rfl
theorem refNext_ok (i : S39) (pc : Int) : crosstreeref08_Next.f i.f0 i.f1 i.f2 i.f3 i.f4 i.f5 i.f6 i.f7 pc = some (nextS i pc) := by
  unfold crosstreeref08_Next.f nextS
  split
  · rfl
  split
  · rfl
  split
  · split <;> rfl
  · rfl
theorem next_len (i : S39) (pc : Int) : (nextS i pc).length ≤ 2 := by
  unfold nextS
  repeat' split
  all_goals simp
theorem readsS_len (op a b c : Int) (l : List Int) : (readsS a b c l (rowS op).data.toList).length ≤ l.length + 3 := by
  by_cases h : 1 ≤ op ∧ op ≤ 20
  · rcases ops_cases h.1 h.2 with rfl | rfl | rfl | rfl | rfl | rfl | rfl | rfl | rfl | rfl | rfl | rfl | rfl | rfl | rfl | rfl | rfl | rfl | rfl | rfl
    all_goals by_cases e : a = -1
    all_goals simp [rowS, readsS, stepR, e]
  · have hs : rowS op = ⟨#[]⟩ := by unfold rowS; rw [if_pos (by omega)]
    rw [hs]
    simp [readsS]
theorem reads_len (i : S39) : (readsI i).length ≤ i.f7.length + 3 := readsS_len _ _ _ _ _
end Go.Proofs.YtmiacdacebaagaaDoor.G
set_option linter.unusedVariables false
set_option linter.unusedSimpArgs false
namespace Go.Proofs.YtmiacdacebaagaaDoor.G
open Go.RowKit Go.Proofs.YtmiacdacebaagaaDoor.B Go.Proofs.YtmiacdacebaagaaDoorW.PrintWords Go.Proofs.YtmiacdacebaagaaDoorW.PrintLast Go.Proofs.YtmiacdacebaagaaDoorW.PrintMore
theorem cell5 {W : World} {g t : Nat} {a b c d e : Value} (h : W.heap[g]? = some (.cells #[a, b, c, d, e] t (0, 0))) :
  W.cell? ⟨g, 0, none⟩ = some a ∧ W.cell? ⟨g, 1, none⟩ = some b ∧ W.cell? ⟨g, 2, none⟩ = some c ∧ W.cell? ⟨g, 3, none⟩ = some d ∧ W.cell? ⟨g, 4, none⟩ = some e :=
 ⟨(blk_cell h 0).trans rfl, (blk_cell h 1).trans rfl, (blk_cell h 2).trans rfl, (blk_cell h 3).trans rfl, (blk_cell h 4).trans rfl⟩
theorem next_c (i : S39) (A : Option Addr) (c : Nat) (pc : Int) (w : World) (hC : Kd.C (Kd.int .i64) w A i.f7.length i.f7) (hc : i.f7.length ≤ c) :
  Calls Tryd.prog 11 #[.agg #[.int .i64 i.f0, .int .i64 i.f1, .int .i64 i.f2, .int .i64 i.f3, .int .i64 i.f4, .int .i64 i.f5, .string i.f6, .slice A i.f7.length c], .int .i64 pc] w fun e w' => ∃ A1 c1, e = .returned (.slice A1 (nextS i pc).length c1) ∧ (nextS i pc).length ≤ c1 ∧ Kd.C (Kd.int .i64) w' A1 (nextS i pc).length (nextS i pc) ∧ Below w.heap.size w w' :=
 next_calls i.f0 i.f1 i.f2 i.f3 i.f4 i.f5 i.f6 A c i.f7 pc w hC hc (nextS i pc) (refNext_ok i pc)
theorem readsI_c (i : S39) (A : Option Addr) (c : Nat) (w : World) (hC : Kd.C (Kd.int .i64) w A i.f7.length i.f7) (hl : i.f7.length * 8 ≤ 140737488351232) :
  Calls Tryd.prog 9 #[.agg #[.int .i64 i.f0, .int .i64 i.f1, .int .i64 i.f2, .int .i64 i.f3, .int .i64 i.f4, .int .i64 i.f5, .string i.f6, .slice A i.f7.length c]] w fun e w' => ∃ A1 c1, e = .returned (.slice A1 (readsI i).length c1) ∧ (readsI i).length ≤ c1 ∧ Kd.C (Kd.int .i64) w' A1 (readsI i).length (readsI i) ∧ Below w.heap.size w w' :=
 readsC i.f0 i.f1 i.f2 i.f3 i.f4 i.f5 i.f6 A c i.f7 w hC hl (readsI i) rfl
theorem fitsI_c (p : PV) (i : S39) (A : Option Addr) (c : Nat) (w : World) (h : RdP w p) (hg : Tab w) :
  Calls Tryd.prog 28 #[.agg #[.slice p.A0 p.sites.length p.c0, .slice p.A1 p.fns.length p.c1, .int .i64 p.main], .agg #[.int .i64 i.f0, .int .i64 i.f1, .int .i64 i.f2, .int .i64 i.f3, .int .i64 i.f4, .int .i64 i.f5, .string i.f6, .slice A i.f7.length c]] w
   fun e w' => e = .returned (.bool (fitsS p i)) ∧ Below w.heap.size w w' :=
 fits_c p i.f0 i.f1 i.f2 i.f3 i.f4 i.f5 i.f6 i.f7 A c w h hg
theorem range_ok {op : Int} (h : (decide (1 ≤ op) && decide (op ≤ 20)) = true) : ¬ (op < 1 ∨ 20 < op) := by
 simp at h
 omega
theorem range_no {op : Int} (h : (decide (1 ≤ op) && decide (op ≤ 20)) = false) : op < 1 ∨ 20 < op := by
 simp at h
 omega
set_option maxRecDepth 100000 in
set_option maxHeartbeats 8000000 in
theorem insn_c (p : PV) (f : S36) (A3 A4 : Option Addr) (c3 c4 : Nat) (pc : Int) (w : World) (h : RdP w p) (hg : Tab w) (hC : Kd.C k39 w A4 f.f4.length f.f4) (h0 : 0 ≤ pc) (h1 : pc < (f.f4.length : Int))
  (hl : (rd_T39 f.f4 pc).f7.length * 8 ≤ 140737488351232) :
  Calls Tryd.prog 19 #[.agg #[.slice p.A0 p.sites.length p.c0, .slice p.A1 p.fns.length p.c1, .int .i64 p.main], .agg #[.string f.f0, .int .i64 f.f1, .int .i64 f.f2, .slice A3 f.f3.length c3, .slice A4 f.f4.length c4], .int .i64 pc] w
   fun e w' => e = .returned (.int .i64 (insnS p f pc)) ∧ Below w.heap.size w w' := by
 have HP := Aside0.mk h
 have HG := Aside0.mk hg
 have HC := Aside0.mk hC
 clear h hg hC
 go_enter Tryd.func19, Tryd.ntmps19
 go_upto_region 1 with (fail)
 have HX := Aside0.mk (blk_alloc (blk_at_ (W := w) (n := w.heap.size) (.cells #[.slice p.A0 p.sites.length p.c0, .slice p.A1 p.fns.length p.c1, .int .i64 p.main] 25) rfl) (.cells #[.string f.f0, .int .i64 f.f1, .int .i64 f.f2, .slice A3 f.f3.length c3, .slice A4 f.f4.length c4] 36))
 have HY := Aside0.mk (blk_at_ (W := w.alloc (.cells #[.slice p.A0 p.sites.length p.c0, .slice p.A1 p.fns.length p.c1, .int .i64 p.main] 25)) (n := w.heap.size + 1) (.cells #[.string f.f0, .int .i64 f.f1, .int .i64 f.f2, .slice A3 f.f3.length c3, .slice A4 f.f4.length c4] 36) (by simp))
 have HB := Aside0.mk (show Below w.heap.size w ((w.alloc (.cells #[.slice p.A0 p.sites.length p.c0, .slice p.A1 p.fns.length p.c1, .int .i64 p.main] 25)).alloc (.cells #[.string f.f0, .int .i64 f.f1, .int .i64 f.f2, .slice A3 f.f3.length c3, .slice A4 f.f4.length c4] 36)) from below_alloc (below_alloc (Below.refl _ _) _) _)
 generalize (w.alloc (.cells #[.slice p.A0 p.sites.length p.c0, .slice p.A1 p.fns.length p.c1, .int .i64 p.main] 25)).alloc (.cells #[.string f.f0, .int .i64 f.f1, .int .i64 f.f2, .slice A3 f.f3.length c3, .slice A4 f.f4.length c4] 36) = W at HX HY HB ⊢
 have y4 : W.cell? ⟨w.heap.size + 1, 4, none⟩ = some (.slice A4 f.f4.length c4) := (blk_cell HY.out 4).trans rfl
 obtain ⟨ad, A7, c7, hA, z0, z1, z2, z3, z4, z5, z6, z7, hl7, hC7⟩ := at_T39 (Kd.C_below HC.out HB.out) pc h0 h1
 subst hA
 have HS : Aside0 (insnS p f pc = (if (rd_T39 f.f4 pc).f0 < 1 ∨ 20 < (rd_T39 f.f4 pc).f0 then 1 else if wrongA p f (rd_T39 f.f4 pc) = true then 8 else if wrongB f (rd_T39 f.f4 pc) pc = true then 8 else 0)) := Aside0.mk rfl
 generalize rd_T39 f.f4 pc = i at z0 z1 z2 z3 z4 z5 z6 z7 hl7 hC7 hl HS
 have HL := Aside0.mk hl
 have hC7' := Kd.C_below hC7 (below_alloc (Below.refl W.heap.size W) (.cells #[.int .i64 i.f0, .int .i64 i.f1, .int .i64 i.f2, .int .i64 i.f3, .int .i64 i.f4, .int .i64 i.f5, .string i.f6, .slice A7 i.f7.length c7] 39))
 have HC7 := Aside0.mk hC7'
 have HL7 := Aside0.mk hl7
 clear hC7 hC7' hl7 hl
 go_upto_region 2 with (fail)
 clear y4 z0 z1 z2 z3 z4 z5 z6 z7
 have HZ := Aside0.mk (blk_new W (.cells #[.int .i64 i.f0, .int .i64 i.f1, .int .i64 i.f2, .int .i64 i.f3, .int .i64 i.f4, .int .i64 i.f5, .string i.f6, .slice A7 i.f7.length c7] 39))
 replace HX := Aside0.mk (blk_alloc HX.out (.cells #[.int .i64 i.f0, .int .i64 i.f1, .int .i64 i.f2, .int .i64 i.f3, .int .i64 i.f4, .int .i64 i.f5, .string i.f6, .slice A7 i.f7.length c7] 39))
 replace HY := Aside0.mk (blk_alloc HY.out (.cells #[.int .i64 i.f0, .int .i64 i.f1, .int .i64 i.f2, .int .i64 i.f3, .int .i64 i.f4, .int .i64 i.f5, .string i.f6, .slice A7 i.f7.length c7] 39))
 replace HB := Aside0.mk (below_alloc HB.out (.cells #[.int .i64 i.f0, .int .i64 i.f1, .int .i64 i.f2, .int .i64 i.f3, .int .i64 i.f4, .int .i64 i.f5, .string i.f6, .slice A7 i.f7.length c7] 39))
 generalize W.alloc (.cells #[.int .i64 i.f0, .int .i64 i.f1, .int .i64 i.f2, .int .i64 i.f3, .int .i64 i.f4, .int .i64 i.f5, .string i.f6, .slice A7 i.f7.length c7] 39) = V at HX HY HZ HB HC7 ⊢
 generalize W.heap.size = gz at HZ ⊢
 generalize w.heap.size + 1 = gy at HY ⊢
 obtain ⟨x0, x1, x2⟩ := cell3 HX.out
 obtain ⟨y0, y1, y2, y3, y4⟩ := cell5 HY.out
 obtain ⟨z0, z1, z2, z3, z4, z5, z6, z7⟩ := cell8 HZ.out
 go_wp2_with fail
 refine (row_calls i.f0 _).mono ?_
 rintro e w1 ⟨rfl, hk⟩
 clear x0 x1 x2 y0 y1 y2 y3 y4 z0 z1 z2 z3 z4 z5 z6 z7
 replace HX := Aside0.mk (blk_below HX.out hk)
 replace HY := Aside0.mk (blk_below HY.out hk)
 replace HZ := Aside0.mk (blk_below HZ.out hk)
 replace HC7 := Aside0.mk (Kd.C_below HC7.out hk)
 replace HB := Aside0.mk (below_step HB.out hk)
 clear hk
 obtain ⟨x0, x1, x2⟩ := cell3 HX.out
 obtain ⟨y0, y1, y2, y3, y4⟩ := cell5 HY.out
 obtain ⟨z0, z1, z2, z3, z4, z5, z6, z7⟩ := cell8 HZ.out
 cases hr : (decide (1 ≤ i.f0) && decide (i.f0 ≤ 20)) with
 | false =>
  replace HS := Aside0.mk (HS.out.trans (if_pos (range_no hr)))
  clear hr
  go_wp2_with fail
  go_ret
  exact ⟨ret_int HS.out.symm, HB.out⟩
 | true =>
  replace HS := Aside0.mk (HS.out.trans (if_neg (range_ok hr)))
  clear hr
  go_wp2_with fail
  refine (readsI_c i A7 c7 _ HC7.out HL.out).mono ?_
  rintro e w2 ⟨A1, c1, rfl, hc1, hC1, hk⟩
  have HC1 := Aside0.mk hC1
  clear hC1 hc1
  clear x0 x1 x2 y0 y1 y2 y3 y4 z0 z1 z2 z3 z4 z5 z6 z7
  replace HX := Aside0.mk (blk_below HX.out hk)
  replace HY := Aside0.mk (blk_below HY.out hk)
  replace HZ := Aside0.mk (blk_below HZ.out hk)
  replace HC7 := Aside0.mk (Kd.C_below HC7.out hk)
  replace HB := Aside0.mk (below_step HB.out hk)
  clear hk
  obtain ⟨x0, x1, x2⟩ := cell3 HX.out
  obtain ⟨y0, y1, y2, y3, y4⟩ := cell5 HY.out
  obtain ⟨z0, z1, z2, z3, z4, z5, z6, z7⟩ := cell8 HZ.out
  go_wp2_with fail
  refine (contains25 (.pointer (some ⟨gy, 0, none⟩)) (badR f.f1) _ HC1.out (by have := reads_len i; have := HL.out; omega) (fun W2 r hb => bad_c (pw_cell_below hb (cell5 HY.out).2.1) r)).mono ?_
  rintro e w3 ⟨rfl, hk⟩
  clear x0 x1 x2 y0 y1 y2 y3 y4 z0 z1 z2 z3 z4 z5 z6 z7
  replace HX := Aside0.mk (blk_below HX.out hk)
  replace HY := Aside0.mk (blk_below HY.out hk)
  replace HZ := Aside0.mk (blk_below HZ.out hk)
  replace HC7 := Aside0.mk (Kd.C_below HC7.out hk)
  replace HB := Aside0.mk (below_step HB.out hk)
  clear hk
  obtain ⟨x0, x1, x2⟩ := cell3 HX.out
  obtain ⟨y0, y1, y2, y3, y4⟩ := cell5 HY.out
  obtain ⟨z0, z1, z2, z3, z4, z5, z6, z7⟩ := cell8 HZ.out
  clear HC1
  cases hb1 : (readsI i).any (badR f.f1) with
  | true =>
   have hA : wrongA p f i = true := by unfold wrongA; rw [hb1]; simp
   replace HS := Aside0.mk (HS.out.trans (if_pos hA))
   clear hA hb1
   go_wp2_with fail
   go_ret
   exact ⟨ret_int HS.out.symm, HB.out⟩
  | false =>
   replace HS := Aside0.mk (HS.out.trans (show (if wrongA p f i = true then (8 : Int) else if wrongB f i pc = true then 8 else 0) = (if ((wr i.f0 && badR f.f1 i.f1) || !fitsS p i) = true then (8 : Int) else if wrongB f i pc = true then 8 else 0) by unfold wrongA; rw [hb1, Bool.false_or]))
   clear hb1
   go_wp2_with fail
   refine (strings_HasPrefix.calls (rowS i.f0) ⟨#[61]⟩ (wr i.f0) _ (pre_ok i.f0)).mono ?_
   rintro e w4 ⟨rfl, hd⟩
   have hk := hd.below
   clear hd
   clear x0 x1 x2 y0 y1 y2 y3 y4 z0 z1 z2 z3 z4 z5 z6 z7
   replace HX := Aside0.mk (blk_below HX.out hk)
   replace HY := Aside0.mk (blk_below HY.out hk)
   replace HZ := Aside0.mk (blk_below HZ.out hk)
   replace HC7 := Aside0.mk (Kd.C_below HC7.out hk)
   replace HB := Aside0.mk (below_step HB.out hk)
   clear hk
   obtain ⟨x0, x1, x2⟩ := cell3 HX.out
   obtain ⟨y0, y1, y2, y3, y4⟩ := cell5 HY.out
   obtain ⟨z0, z1, z2, z3, z4, z5, z6, z7⟩ := cell8 HZ.out
   cases hw : wr i.f0 with
   | true =>
    rw [hw] at HS
    clear hw
    go_wp2_with fail
    refine (bad_c y1 i.f1).mono ?_
    rintro e w5 ⟨rfl, hk⟩
    clear x0 x1 x2 y0 y1 y2 y3 y4 z0 z1 z2 z3 z4 z5 z6 z7
    replace HX := Aside0.mk (blk_below HX.out hk)
    replace HY := Aside0.mk (blk_below HY.out hk)
    replace HZ := Aside0.mk (blk_below HZ.out hk)
    replace HC7 := Aside0.mk (Kd.C_below HC7.out hk)
    replace HB := Aside0.mk (below_step HB.out hk)
    clear hk
    obtain ⟨x0, x1, x2⟩ := cell3 HX.out
    obtain ⟨y0, y1, y2, y3, y4⟩ := cell5 HY.out
    obtain ⟨z0, z1, z2, z3, z4, z5, z6, z7⟩ := cell8 HZ.out
    cases hb2 : badR f.f1 i.f1 with
    | true =>
     replace HS := Aside0.mk (HS.out.trans (if_pos (by rw [hb2]; rfl)))
     have hb2' : (decide (i.f1 < 0) || decide (f.f1 ≤ i.f1)) = true := hb2
     clear hb2
     go_wp2_with fail
     go_ret
     exact ⟨ret_int HS.out.symm, HB.out⟩
    | false =>
     replace HS := Aside0.mk (HS.out.trans (by rw [hb2]; rfl : (if ((true && badR f.f1 i.f1) || !fitsS p i) = true then (8 : Int) else if wrongB f i pc = true then 8 else 0) = (if (!fitsS p i) = true then (8 : Int) else if wrongB f i pc = true then 8 else 0)))
     have hb2' : (decide (i.f1 < 0) || decide (f.f1 ≤ i.f1)) = false := hb2
     clear hb2
     go_wp2_with fail
     refine (fitsI_c p i A7 c7 _ (HP.out.below HB.out) (HG.out.below HB.out)).mono ?_
     rintro e w6 ⟨rfl, hk⟩
     clear x0 x1 x2 y0 y1 y2 y3 y4 z0 z1 z2 z3 z4 z5 z6 z7
     replace HX := Aside0.mk (blk_below HX.out hk)
     replace HY := Aside0.mk (blk_below HY.out hk)
     replace HZ := Aside0.mk (blk_below HZ.out hk)
     replace HC7 := Aside0.mk (Kd.C_below HC7.out hk)
     replace HB := Aside0.mk (below_step HB.out hk)
     clear hk
     obtain ⟨x0, x1, x2⟩ := cell3 HX.out
     obtain ⟨y0, y1, y2, y3, y4⟩ := cell5 HY.out
     obtain ⟨z0, z1, z2, z3, z4, z5, z6, z7⟩ := cell8 HZ.out
     cases hf : fitsS p i with
     | false =>
      replace HS := Aside0.mk (HS.out.trans (if_pos (by rw [hf]; rfl)))
      clear hf
      go_wp2_with fail
      go_ret
      exact ⟨ret_int HS.out.symm, HB.out⟩
     | true =>
      replace HS := Aside0.mk (HS.out.trans (if_neg (by rw [hf]; simp)))
      clear hf
      clear HP HG HL
      cases e17 : (i.f0 == 17) with
      | true =>
       by_cases r1 : i.f5 < 0
       ·have hW : wrongB f i pc = true := by unfold wrongB badR; rw [e17]; simp [r1]
        replace HS := Aside0.mk (HS.out.trans (if_pos hW))
        have hd := decide_eq_true r1
        clear hW
        go_wp2_with fail
        go_ret
        exact ⟨ret_int HS.out.symm, HB.out⟩
       ·have hd := decide_eq_false r1
        by_cases r2 : (f.f4.length : Int) ≤ i.f5
        ·have hW : wrongB f i pc = true := by unfold wrongB badR; rw [e17]; simp [r2]
         replace HS := Aside0.mk (HS.out.trans (if_pos hW))
         have hd2 := decide_eq_true r2
         clear hW
         go_wp2_with fail
         go_ret
         exact ⟨ret_int HS.out.symm, HB.out⟩
        ·have hW : wrongB f i pc = (nextS i pc).any (badR f.f4.length) := by unfold wrongB badR; rw [e17, hd, decide_eq_false r2]; simp
         rw [hW] at HS
         have hd2 := decide_eq_false r2
         clear hW
         go_wp2_with fail
         refine (next_c i A7 c7 pc _ HC7.out HL7.out).mono ?_
         rintro e w7 ⟨A2, c2, rfl, hc2, hC2, hk⟩
         have HC2 := Aside0.mk hC2
         clear hC2 hc2
         clear x0 x1 x2 y0 y1 y2 y3 y4 z0 z1 z2 z3 z4 z5 z6 z7
         replace HX := Aside0.mk (blk_below HX.out hk)
         replace HY := Aside0.mk (blk_below HY.out hk)
         replace HZ := Aside0.mk (blk_below HZ.out hk)
         replace HC7 := Aside0.mk (Kd.C_below HC7.out hk)
         replace HB := Aside0.mk (below_step HB.out hk)
         clear hk
         obtain ⟨x0, x1, x2⟩ := cell3 HX.out
         obtain ⟨y0, y1, y2, y3, y4⟩ := cell5 HY.out
         obtain ⟨z0, z1, z2, z3, z4, z5, z6, z7⟩ := cell8 HZ.out
         go_wp2_with fail
         refine (contains26 (.pointer (some ⟨gy, 0, none⟩)) (badR f.f4.length) _ HC2.out (by have := next_len i pc; omega) (fun W2 r hb => leads_c (pw_cell_below hb (cell5 HY.out).2.2.2.2) r)).mono ?_
         rintro e w8 ⟨rfl, hk⟩
         clear x0 x1 x2 y0 y1 y2 y3 y4 z0 z1 z2 z3 z4 z5 z6 z7
         replace HX := Aside0.mk (blk_below HX.out hk)
         replace HY := Aside0.mk (blk_below HY.out hk)
         replace HZ := Aside0.mk (blk_below HZ.out hk)
         replace HC7 := Aside0.mk (Kd.C_below HC7.out hk)
         replace HB := Aside0.mk (below_step HB.out hk)
         clear hk
         obtain ⟨x0, x1, x2⟩ := cell3 HX.out
         obtain ⟨y0, y1, y2, y3, y4⟩ := cell5 HY.out
         obtain ⟨z0, z1, z2, z3, z4, z5, z6, z7⟩ := cell8 HZ.out
         clear HC2
         cases hb5 : (nextS i pc).any (badR f.f4.length) with
         | true =>
          rw [hb5] at HS
          replace HS := Aside0.mk (HS.out.trans (if_pos rfl))
          clear hb5
          go_wp2_with fail
          go_ret
          exact ⟨ret_int HS.out.symm, HB.out⟩
         | false =>
          rw [hb5] at HS
          replace HS := Aside0.mk (HS.out.trans (if_neg (by simp)))
          clear hb5
          go_wp2_with fail
          go_ret
          exact ⟨ret_int HS.out.symm, HB.out⟩
      | false =>
       cases e18 : (i.f0 == 18) with
       | true =>
        by_cases r1 : i.f5 < 0
        ·have hW : wrongB f i pc = true := by unfold wrongB badR; rw [e17, e18]; simp [r1]
         replace HS := Aside0.mk (HS.out.trans (if_pos hW))
         have hd := decide_eq_true r1
         clear hW
         go_wp2_with fail
         go_ret
         exact ⟨ret_int HS.out.symm, HB.out⟩
        ·have hd := decide_eq_false r1
         by_cases r2 : (f.f4.length : Int) ≤ i.f5
         ·have hW : wrongB f i pc = true := by unfold wrongB badR; rw [e17, e18]; simp [r2]
          replace HS := Aside0.mk (HS.out.trans (if_pos hW))
          have hd2 := decide_eq_true r2
          clear hW
          go_wp2_with fail
          go_ret
          exact ⟨ret_int HS.out.symm, HB.out⟩
         ·have hW : wrongB f i pc = (nextS i pc).any (badR f.f4.length) := by unfold wrongB badR; rw [e17, e18, hd, decide_eq_false r2]; simp
          rw [hW] at HS
          have hd2 := decide_eq_false r2
          clear hW
          go_wp2_with fail
          refine (next_c i A7 c7 pc _ HC7.out HL7.out).mono ?_
          rintro e w7 ⟨A2, c2, rfl, hc2, hC2, hk⟩
          have HC2 := Aside0.mk hC2
          clear hC2 hc2
          clear x0 x1 x2 y0 y1 y2 y3 y4 z0 z1 z2 z3 z4 z5 z6 z7
          replace HX := Aside0.mk (blk_below HX.out hk)
          replace HY := Aside0.mk (blk_below HY.out hk)
          replace HZ := Aside0.mk (blk_below HZ.out hk)
          replace HC7 := Aside0.mk (Kd.C_below HC7.out hk)
          replace HB := Aside0.mk (below_step HB.out hk)
          clear hk
          obtain ⟨x0, x1, x2⟩ := cell3 HX.out
          obtain ⟨y0, y1, y2, y3, y4⟩ := cell5 HY.out
          obtain ⟨z0, z1, z2, z3, z4, z5, z6, z7⟩ := cell8 HZ.out
          go_wp2_with fail
          refine (contains26 (.pointer (some ⟨gy, 0, none⟩)) (badR f.f4.length) _ HC2.out (by have := next_len i pc; omega) (fun W2 r hb => leads_c (pw_cell_below hb (cell5 HY.out).2.2.2.2) r)).mono ?_
          rintro e w8 ⟨rfl, hk⟩
          clear x0 x1 x2 y0 y1 y2 y3 y4 z0 z1 z2 z3 z4 z5 z6 z7
          replace HX := Aside0.mk (blk_below HX.out hk)
          replace HY := Aside0.mk (blk_below HY.out hk)
          replace HZ := Aside0.mk (blk_below HZ.out hk)
          replace HC7 := Aside0.mk (Kd.C_below HC7.out hk)
          replace HB := Aside0.mk (below_step HB.out hk)
          clear hk
          obtain ⟨x0, x1, x2⟩ := cell3 HX.out
          obtain ⟨y0, y1, y2, y3, y4⟩ := cell5 HY.out
          obtain ⟨z0, z1, z2, z3, z4, z5, z6, z7⟩ := cell8 HZ.out
          clear HC2
          cases hb5 : (nextS i pc).any (badR f.f4.length) with
          | true =>
           rw [hb5] at HS
           replace HS := Aside0.mk (HS.out.trans (if_pos rfl))
           clear hb5
           go_wp2_with fail
           go_ret
           exact ⟨ret_int HS.out.symm, HB.out⟩
          | false =>
           rw [hb5] at HS
           replace HS := Aside0.mk (HS.out.trans (if_neg (by simp)))
           clear hb5
           go_wp2_with fail
           go_ret
           exact ⟨ret_int HS.out.symm, HB.out⟩
       | false =>
        have hW : wrongB f i pc = (nextS i pc).any (badR f.f4.length) := by unfold wrongB; rw [e17, e18]; simp
        rw [hW] at HS
        clear hW
        go_wp2_with fail
        refine (next_c i A7 c7 pc _ HC7.out HL7.out).mono ?_
        rintro e w7 ⟨A2, c2, rfl, hc2, hC2, hk⟩
        have HC2 := Aside0.mk hC2
        clear hC2 hc2
        clear x0 x1 x2 y0 y1 y2 y3 y4 z0 z1 z2 z3 z4 z5 z6 z7
        replace HX := Aside0.mk (blk_below HX.out hk)
        replace HY := Aside0.mk (blk_below HY.out hk)
        replace HZ := Aside0.mk (blk_below HZ.out hk)
        replace HC7 := Aside0.mk (Kd.C_below HC7.out hk)
        replace HB := Aside0.mk (below_step HB.out hk)
        clear hk
        obtain ⟨x0, x1, x2⟩ := cell3 HX.out
        obtain ⟨y0, y1, y2, y3, y4⟩ := cell5 HY.out
        obtain ⟨z0, z1, z2, z3, z4, z5, z6, z7⟩ := cell8 HZ.out
        go_wp2_with fail
        refine (contains26 (.pointer (some ⟨gy, 0, none⟩)) (badR f.f4.length) _ HC2.out (by have := next_len i pc; omega) (fun W2 r hb => leads_c (pw_cell_below hb (cell5 HY.out).2.2.2.2) r)).mono ?_
        rintro e w8 ⟨rfl, hk⟩
        clear x0 x1 x2 y0 y1 y2 y3 y4 z0 z1 z2 z3 z4 z5 z6 z7
        replace HX := Aside0.mk (blk_below HX.out hk)
        replace HY := Aside0.mk (blk_below HY.out hk)
        replace HZ := Aside0.mk (blk_below HZ.out hk)
        replace HC7 := Aside0.mk (Kd.C_below HC7.out hk)
        replace HB := Aside0.mk (below_step HB.out hk)
        clear hk
        obtain ⟨x0, x1, x2⟩ := cell3 HX.out
        obtain ⟨y0, y1, y2, y3, y4⟩ := cell5 HY.out
        obtain ⟨z0, z1, z2, z3, z4, z5, z6, z7⟩ := cell8 HZ.out
        clear HC2
        cases hb5 : (nextS i pc).any (badR f.f4.length) with
        | true =>
         rw [hb5] at HS
         replace HS := Aside0.mk (HS.out.trans (if_pos rfl))
         clear hb5
         go_wp2_with fail
         go_ret
         exact ⟨ret_int HS.out.symm, HB.out⟩
        | false =>
         rw [hb5] at HS
         replace HS := Aside0.mk (HS.out.trans (if_neg (by simp)))
         clear hb5
         go_wp2_with fail
         go_ret
         exact ⟨ret_int HS.out.symm, HB.out⟩
   | false =>
    rw [hw] at HS
    replace HS := Aside0.mk (HS.out.trans (by rfl : (if ((false && badR f.f1 i.f1) || !fitsS p i) = true then (8 : Int) else if wrongB f i pc = true then 8 else 0) = (if (!fitsS p i) = true then (8 : Int) else if wrongB f i pc = true then 8 else 0)))
    clear hw
    go_wp2_with fail
    refine (fitsI_c p i A7 c7 _ (HP.out.below HB.out) (HG.out.below HB.out)).mono ?_
    rintro e w6 ⟨rfl, hk⟩
    clear x0 x1 x2 y0 y1 y2 y3 y4 z0 z1 z2 z3 z4 z5 z6 z7
    replace HX := Aside0.mk (blk_below HX.out hk)
    replace HY := Aside0.mk (blk_below HY.out hk)
    replace HZ := Aside0.mk (blk_below HZ.out hk)
    replace HC7 := Aside0.mk (Kd.C_below HC7.out hk)
    replace HB := Aside0.mk (below_step HB.out hk)
    clear hk
    obtain ⟨x0, x1, x2⟩ := cell3 HX.out
    obtain ⟨y0, y1, y2, y3, y4⟩ := cell5 HY.out
    obtain ⟨z0, z1, z2, z3, z4, z5, z6, z7⟩ := cell8 HZ.out
    cases hf : fitsS p i with
    | false =>
     replace HS := Aside0.mk (HS.out.trans (if_pos (by rw [hf]; rfl)))
     clear hf
     go_wp2_with fail
     go_ret
     exact ⟨ret_int HS.out.symm, HB.out⟩
    | true =>
     replace HS := Aside0.mk (HS.out.trans (if_neg (by rw [hf]; simp)))
     clear hf
     clear HP HG HL
     cases e17 : (i.f0 == 17) with
     | true =>
      by_cases r1 : i.f5 < 0
      ·have hW : wrongB f i pc = true := by unfold wrongB badR; rw [e17]; simp [r1]
       replace HS := Aside0.mk (HS.out.trans (if_pos hW))
       have hd := decide_eq_true r1
       clear hW
       go_wp2_with fail
       go_ret
       exact ⟨ret_int HS.out.symm, HB.out⟩
      ·have hd := decide_eq_false r1
       by_cases r2 : (f.f4.length : Int) ≤ i.f5
       ·have hW : wrongB f i pc = true := by unfold wrongB badR; rw [e17]; simp [r2]
        replace HS := Aside0.mk (HS.out.trans (if_pos hW))
        have hd2 := decide_eq_true r2
        clear hW
        go_wp2_with fail
        go_ret
        exact ⟨ret_int HS.out.symm, HB.out⟩
       ·have hW : wrongB f i pc = (nextS i pc).any (badR f.f4.length) := by unfold wrongB badR; rw [e17, hd, decide_eq_false r2]; simp
        rw [hW] at HS
        have hd2 := decide_eq_false r2
        clear hW
        go_wp2_with fail
        refine (next_c i A7 c7 pc _ HC7.out HL7.out).mono ?_
        rintro e w7 ⟨A2, c2, rfl, hc2, hC2, hk⟩
        have HC2 := Aside0.mk hC2
        clear hC2 hc2
        clear x0 x1 x2 y0 y1 y2 y3 y4 z0 z1 z2 z3 z4 z5 z6 z7
        replace HX := Aside0.mk (blk_below HX.out hk)
        replace HY := Aside0.mk (blk_below HY.out hk)
        replace HZ := Aside0.mk (blk_below HZ.out hk)
        replace HC7 := Aside0.mk (Kd.C_below HC7.out hk)
        replace HB := Aside0.mk (below_step HB.out hk)
        clear hk
        obtain ⟨x0, x1, x2⟩ := cell3 HX.out
        obtain ⟨y0, y1, y2, y3, y4⟩ := cell5 HY.out
        obtain ⟨z0, z1, z2, z3, z4, z5, z6, z7⟩ := cell8 HZ.out
        go_wp2_with fail
        refine (contains26 (.pointer (some ⟨gy, 0, none⟩)) (badR f.f4.length) _ HC2.out (by have := next_len i pc; omega) (fun W2 r hb => leads_c (pw_cell_below hb (cell5 HY.out).2.2.2.2) r)).mono ?_
        rintro e w8 ⟨rfl, hk⟩
        clear x0 x1 x2 y0 y1 y2 y3 y4 z0 z1 z2 z3 z4 z5 z6 z7
        replace HX := Aside0.mk (blk_below HX.out hk)
        replace HY := Aside0.mk (blk_below HY.out hk)
        replace HZ := Aside0.mk (blk_below HZ.out hk)
        replace HC7 := Aside0.mk (Kd.C_below HC7.out hk)
        replace HB := Aside0.mk (below_step HB.out hk)
        clear hk
        obtain ⟨x0, x1, x2⟩ := cell3 HX.out
        obtain ⟨y0, y1, y2, y3, y4⟩ := cell5 HY.out
        obtain ⟨z0, z1, z2, z3, z4, z5, z6, z7⟩ := cell8 HZ.out
        clear HC2
        cases hb5 : (nextS i pc).any (badR f.f4.length) with
        | true =>
         rw [hb5] at HS
         replace HS := Aside0.mk (HS.out.trans (if_pos rfl))
         clear hb5
         go_wp2_with fail
         go_ret
         exact ⟨ret_int HS.out.symm, HB.out⟩
        | false =>
         rw [hb5] at HS
         replace HS := Aside0.mk (HS.out.trans (if_neg (by simp)))
         clear hb5
         go_wp2_with fail
         go_ret
         exact ⟨ret_int HS.out.symm, HB.out⟩
     | false =>
      cases e18 : (i.f0 == 18) with
      | true =>
       by_cases r1 : i.f5 < 0
       ·have hW : wrongB f i pc = true := by unfold wrongB badR; rw [e17, e18]; simp [r1]
        replace HS := Aside0.mk (HS.out.trans (if_pos hW))
        have hd := decide_eq_true r1
        clear hW
        go_wp2_with fail
        go_ret
        exact ⟨ret_int HS.out.symm, HB.out⟩
       ·have hd := decide_eq_false r1
        by_cases r2 : (f.f4.length : Int) ≤ i.f5
        ·have hW : wrongB f i pc = true := by unfold wrongB badR; rw [e17, e18]; simp [r2]
         replace HS := Aside0.mk (HS.out.trans (if_pos hW))
         have hd2 := decide_eq_true r2
         clear hW
         go_wp2_with fail
         go_ret
         exact ⟨ret_int HS.out.symm, HB.out⟩
        ·have hW : wrongB f i pc = (nextS i pc).any (badR f.f4.length) := by unfold wrongB badR; rw [e17, e18, hd, decide_eq_false r2]; simp
         rw [hW] at HS
         have hd2 := decide_eq_false r2
         clear hW
         go_wp2_with fail
         refine (next_c i A7 c7 pc _ HC7.out HL7.out).mono ?_
         rintro e w7 ⟨A2, c2, rfl, hc2, hC2, hk⟩
         have HC2 := Aside0.mk hC2
         clear hC2 hc2
         clear x0 x1 x2 y0 y1 y2 y3 y4 z0 z1 z2 z3 z4 z5 z6 z7
         replace HX := Aside0.mk (blk_below HX.out hk)
         replace HY := Aside0.mk (blk_below HY.out hk)
         replace HZ := Aside0.mk (blk_below HZ.out hk)
         replace HC7 := Aside0.mk (Kd.C_below HC7.out hk)
         replace HB := Aside0.mk (below_step HB.out hk)
         clear hk
         obtain ⟨x0, x1, x2⟩ := cell3 HX.out
         obtain ⟨y0, y1, y2, y3, y4⟩ := cell5 HY.out
         obtain ⟨z0, z1, z2, z3, z4, z5, z6, z7⟩ := cell8 HZ.out
         go_wp2_with fail
         refine (contains26 (.pointer (some ⟨gy, 0, none⟩)) (badR f.f4.length) _ HC2.out (by have := next_len i pc; omega) (fun W2 r hb => leads_c (pw_cell_below hb (cell5 HY.out).2.2.2.2) r)).mono ?_
         rintro e w8 ⟨rfl, hk⟩
         clear x0 x1 x2 y0 y1 y2 y3 y4 z0 z1 z2 z3 z4 z5 z6 z7
         replace HX := Aside0.mk (blk_below HX.out hk)
         replace HY := Aside0.mk (blk_below HY.out hk)
         replace HZ := Aside0.mk (blk_below HZ.out hk)
         replace HC7 := Aside0.mk (Kd.C_below HC7.out hk)
         replace HB := Aside0.mk (below_step HB.out hk)
         clear hk
         obtain ⟨x0, x1, x2⟩ := cell3 HX.out
         obtain ⟨y0, y1, y2, y3, y4⟩ := cell5 HY.out
         obtain ⟨z0, z1, z2, z3, z4, z5, z6, z7⟩ := cell8 HZ.out
         clear HC2
         cases hb5 : (nextS i pc).any (badR f.f4.length) with
         | true =>
          rw [hb5] at HS
          replace HS := Aside0.mk (HS.out.trans (if_pos rfl))
          clear hb5
          go_wp2_with fail
          go_ret
          exact ⟨ret_int HS.out.symm, HB.out⟩
         | false =>
          rw [hb5] at HS
          replace HS := Aside0.mk (HS.out.trans (if_neg (by simp)))
          clear hb5
          go_wp2_with fail
          go_ret
          exact ⟨ret_int HS.out.symm, HB.out⟩
      | false =>
       have hW : wrongB f i pc = (nextS i pc).any (badR f.f4.length) := by unfold wrongB; rw [e17, e18]; simp
       rw [hW] at HS
       clear hW
       go_wp2_with fail
       refine (next_c i A7 c7 pc _ HC7.out HL7.out).mono ?_
       rintro e w7 ⟨A2, c2, rfl, hc2, hC2, hk⟩
       have HC2 := Aside0.mk hC2
       clear hC2 hc2
       clear x0 x1 x2 y0 y1 y2 y3 y4 z0 z1 z2 z3 z4 z5 z6 z7
       replace HX := Aside0.mk (blk_below HX.out hk)
       replace HY := Aside0.mk (blk_below HY.out hk)
       replace HZ := Aside0.mk (blk_below HZ.out hk)
       replace HC7 := Aside0.mk (Kd.C_below HC7.out hk)
       replace HB := Aside0.mk (below_step HB.out hk)
       clear hk
       obtain ⟨x0, x1, x2⟩ := cell3 HX.out
       obtain ⟨y0, y1, y2, y3, y4⟩ := cell5 HY.out
       obtain ⟨z0, z1, z2, z3, z4, z5, z6, z7⟩ := cell8 HZ.out
       go_wp2_with fail
       refine (contains26 (.pointer (some ⟨gy, 0, none⟩)) (badR f.f4.length) _ HC2.out (by have := next_len i pc; omega) (fun W2 r hb => leads_c (pw_cell_below hb (cell5 HY.out).2.2.2.2) r)).mono ?_
       rintro e w8 ⟨rfl, hk⟩
       clear x0 x1 x2 y0 y1 y2 y3 y4 z0 z1 z2 z3 z4 z5 z6 z7
       replace HX := Aside0.mk (blk_below HX.out hk)
       replace HY := Aside0.mk (blk_below HY.out hk)
       replace HZ := Aside0.mk (blk_below HZ.out hk)
       replace HC7 := Aside0.mk (Kd.C_below HC7.out hk)
       replace HB := Aside0.mk (below_step HB.out hk)
       clear hk
       obtain ⟨x0, x1, x2⟩ := cell3 HX.out
       obtain ⟨y0, y1, y2, y3, y4⟩ := cell5 HY.out
       obtain ⟨z0, z1, z2, z3, z4, z5, z6, z7⟩ := cell8 HZ.out
       clear HC2
       cases hb5 : (nextS i pc).any (badR f.f4.length) with
       | true =>
        rw [hb5] at HS
        replace HS := Aside0.mk (HS.out.trans (if_pos rfl))
        clear hb5
        go_wp2_with fail
        go_ret
        exact ⟨ret_int HS.out.symm, HB.out⟩
       | false =>
        rw [hb5] at HS
        replace HS := Aside0.mk (HS.out.trans (if_neg (by simp)))
        clear hb5
        go_wp2_with fail
        go_ret
        exact ⟨ret_int HS.out.symm, HB.out⟩
end Go.Proofs.YtmiacdacebaagaaDoor.G
namespace Go.Proofs.YtmiacdacebaagaaDoor.G
open Go.RowKit Go.Proofs.YtmiacdacebaagaaDoorW.PrintWords Go.Proofs.YtmiacdacebaagaaDoorW.PrintLast Go.Proofs.YtmiacdacebaagaaDoorW.PrintMore
attribute [local go_sem] max2_int min2_int max_two min_two max_three min_three max_four min_four
set_option linter.unusedVariables false
set_option linter.unusedSimpArgs false
end Go.Proofs.YtmiacdacebaagaaDoor.G
set_option linter.unusedVariables false
set_option linter.unusedSimpArgs false
namespace Go.Proofs.YtmiacdacebaagaaDoor.G
open Go.RowKit Go.Proofs.YtmiacdacebaagaaDoor.B Go.Proofs.YtmiacdacebaagaaDoorW.PrintWords Go.Proofs.YtmiacdacebaagaaDoorW.PrintLast Go.Proofs.YtmiacdacebaagaaDoorW.PrintMore
def WfF (f : S36) : Prop := f.f3.length * 8 ≤ 140737488351232 ∧ ∀ i ∈ f.f4, i.f7.length * 8 ≤ 140737488351232
def WfP (p : PV) : Prop := ∀ f ∈ p.fns, WfF f
theorem rd36_mem (l : List S36) (n : Nat) (h : n < l.length) : rd_T36 l (n : Int) = l[n] := by
  unfold rd_T36
  rw [Int.toNat_natCast, List.getD_eq_getElem?_getD, List.getElem?_eq_getElem h]
  rfl
theorem rd39_mem (l : List S39) (n : Nat) (h : n < l.length) : rd_T39 l (n : Int) = l[n] := by
  unfold rd_T39
  rw [Int.toNat_natCast, List.getD_eq_getElem?_getD, List.getElem?_eq_getElem h]
  rfl
theorem badSize_iff (f : S36) : badSize f = true ↔ 4000 < f.f4.length ∨ f.f4.length = 0 ∨ 4000 < f.f1 ∨ f.f1 < f.f2 ∨ f.f2 < 0 := by
  simp only [badSize, Bool.or_eq_true, decide_eq_true_eq, beq_iff_eq]
theorem badSize_not (f : S36) : badSize f = false ↔ f.f4.length ≤ 4000 ∧ f.f4.length ≠ 0 ∧ f.f1 ≤ 4000 ∧ f.f2 ≤ f.f1 ∧ 0 ≤ f.f2 := by
  rw [← Bool.not_eq_true, badSize_iff]
  omega
end Go.Proofs.YtmiacdacebaagaaDoor.G
set_option linter.unusedVariables false
set_option linter.unusedSimpArgs false
namespace Go.Proofs.YtmiacdacebaagaaDoor.G
open Go.RowKit Go.Proofs.YtmiacdacebaagaaDoor.B Go.Proofs.YtmiacdacebaagaaDoorW.PrintWords Go.Proofs.YtmiacdacebaagaaDoorW.PrintLast Go.Proofs.YtmiacdacebaagaaDoorW.PrintMore
theorem codeS_step (p : PV) (f : S36) {d pc : Nat} (h : insnS p f pc = 0) : codeS p f (d + 1) pc = codeS p f d (pc + 1) := by
 rw [codeS, if_pos h]
theorem codeS_stop (p : PV) (f : S36) {d pc : Nat} (h : insnS p f pc ≠ 0) : codeS p f (d + 1) pc = ((pc : Int), insnS p f pc) := by
 rw [codeS, if_neg h]
theorem kindS_in {sites : List S48} {s : Int} (h : kindS sites s = 2) : 0 ≤ s ∧ s < (sites.length : Int) := by
 unfold kindS at h
 split at h
 ·omega
 ·omega
set_option maxRecDepth 100000 in
set_option maxHeartbeats 8000000 in
theorem fn_c (p : PV) (n : Int) (w : World) (h : RdP w p) (hg : Tab w) (h0 : 0 ≤ n) (h1 : n < (p.fns.length : Int)) (hwf : WfF (rd_T36 p.fns n)) :
  Calls Tryd.prog 13 #[.agg #[.slice p.A0 p.sites.length p.c0, .slice p.A1 p.fns.length p.c1, .int .i64 p.main], .int .i64 n] w
   fun e w' => e = .returned (.tuple #[.int .i64 (fnS p n).1, .int .i64 (fnS p n).2]) ∧ Below w.heap.size w w' := by
 have HP := Aside0.mk h
 have HG := Aside0.mk hg
 have HWF := Aside0.mk hwf
 clear hg hwf
 obtain ⟨ad, A3, c3, A4, c4, hA, z0, z1, z2, z3, z4, hl3, hC3, hl4, hC4⟩ := at_T36 h.fns n h0 h1
 clear h
 have HS : Aside0 (fnS p n = (if badSize (rd_T36 p.fns n) = true then (0, 5) else if (rd_T36 p.fns n).f3.all (localOk p n) = true then codeS p (rd_T36 p.fns n) (rd_T36 p.fns n).f4.length 0 else (0, 8))) := Aside0.mk rfl
 generalize rd_T36 p.fns n = f at HWF HS z0 z1 z2 z3 z4 hl3 hC3 hl4 hC4
 have HC3 := Aside0.mk hC3
 have HC4 := Aside0.mk hC4
 clear hC3 hC4 hl3 hl4
 have HKc : Aside0 (∀ (W2 : World) (s : Int), Below w.heap.size w W2 → Calls Tryd.prog 18 #[.agg #[.slice p.A0 p.sites.length p.c0, .slice p.A1 p.fns.length p.c1, .int .i64 p.main], .int .i64 s] W2 fun e w' => e = .returned (.int .i64 (kindS p.sites s)) ∧ Below W2.heap.size W2 w') := Aside0.mk (fun W2 s hb => kind_c (HP.out.below hb) s)
 have HIc : Aside0 (∀ (W2 : World) (pc : Int), Below w.heap.size w W2 → 0 ≤ pc → pc < (f.f4.length : Int) → Calls Tryd.prog 19 #[.agg #[.slice p.A0 p.sites.length p.c0, .slice p.A1 p.fns.length p.c1, .int .i64 p.main], .agg #[.string f.f0, .int .i64 f.f1, .int .i64 f.f2, .slice A3 f.f3.length c3, .slice A4 f.f4.length c4], .int .i64 pc] W2 fun e w' => e = .returned (.int .i64 (insnS p f pc)) ∧ Below W2.heap.size W2 w') :=
  Aside0.mk (fun W2 pc hb hp0 hp1 => insn_c p f A3 A4 c3 c4 pc W2 (HP.out.below hb) (HG.out.below hb) (Kd.C_below HC4.out hb) hp0 hp1 (by
   obtain ⟨k, rfl⟩ : ∃ k : Nat, pc = (k : Int) := ⟨pc.toNat, by omega⟩
   rw [rd39_mem _ _ (by omega)]
   exact HWF.out.2 _ (List.getElem_mem _)))
 rw [hA] at HKc HIc ⊢
 go_enter Tryd.func13, Tryd.ntmps13
 go_upto_region 1 with (fail)
 have HX := Aside0.mk (blk_new w (.cells #[.slice p.A0 p.sites.length p.c0, .slice (some ad) p.fns.length p.c1, .int .i64 p.main] 25))
 have HB := Aside0.mk (below_alloc (Below.refl w.heap.size w) (.cells #[.slice p.A0 p.sites.length p.c0, .slice (some ad) p.fns.length p.c1, .int .i64 p.main] 25))
 have hbb := below_alloc (Below.refl w.heap.size w) (.cells #[.slice p.A0 p.sites.length p.c0, .slice (some ad) p.fns.length p.c1, .int .i64 p.main] 25)
 replace z0 := pw_cell_below hbb z0
 replace z1 := pw_cell_below hbb z1
 replace z2 := pw_cell_below hbb z2
 replace z3 := pw_cell_below hbb z3
 replace z4 := pw_cell_below hbb z4
 clear hbb
 obtain ⟨x0, x1, x2⟩ := cell3 HX.out
 generalize w.alloc (.cells #[.slice p.A0 p.sites.length p.c0, .slice (some ad) p.fns.length p.c1, .int .i64 p.main] 25) = W at HX HB z0 z1 z2 z3 z4 x0 x1 x2 ⊢
 go_upto_region 2 with (fail)
 clear x0 x1 x2 z0 z1 z2 z3 z4
 have HY := Aside0.mk (blk_new W (.cells #[.string f.f0, .int .i64 f.f1, .int .i64 f.f2, .slice A3 f.f3.length c3, .slice A4 f.f4.length c4] 36))
 replace HX := Aside0.mk (blk_alloc HX.out (.cells #[.string f.f0, .int .i64 f.f1, .int .i64 f.f2, .slice A3 f.f3.length c3, .slice A4 f.f4.length c4] 36))
 replace HB := Aside0.mk (below_alloc HB.out (.cells #[.string f.f0, .int .i64 f.f1, .int .i64 f.f2, .slice A3 f.f3.length c3, .slice A4 f.f4.length c4] 36))
 generalize W.alloc (.cells #[.string f.f0, .int .i64 f.f1, .int .i64 f.f2, .slice A3 f.f3.length c3, .slice A4 f.f4.length c4] 36) = V at HX HY HB ⊢
 generalize W.heap.size = gy at HY ⊢
 generalize hgx : w.heap.size = gx at HX ⊢
 obtain ⟨x0, x1, x2⟩ := cell3 HX.out
 obtain ⟨y0, y1, y2, y3, y4⟩ := cell5 HY.out
 by_cases b1 : (4000 : Int) < (f.f4.length : Int)
 ·have d1 := decide_eq_true b1
  replace HS := Aside0.mk (HS.out.trans (if_pos ((badSize_iff f).2 (by omega))))
  go_wp2_with fail
  exact bodyPost_ret (v := .tuple #[.int .i64 0, .int .i64 5]) (by simp [results, Tryd.results13, go_sem]) rfl ⟨by rw [HS.out], hgx ▸ HB.out⟩
 have d1 := decide_eq_false b1
 by_cases b2 : ((f.f4.length : Int) == 0) = true
 ·have b2' := eq_of_beq b2
  replace HS := Aside0.mk (HS.out.trans (if_pos ((badSize_iff f).2 (by omega))))
  go_wp2_with fail
  exact bodyPost_ret (v := .tuple #[.int .i64 0, .int .i64 5]) (by simp [results, Tryd.results13, go_sem]) rfl ⟨by rw [HS.out], hgx ▸ HB.out⟩
 replace b2 : ((f.f4.length : Int) == 0) = false := by simpa using b2
 have b2n : f.f4.length ≠ 0 := by intro h; rw [h] at b2; simp at b2
 by_cases b3 : (4000 : Int) < f.f1
 ·have d3 := decide_eq_true b3
  replace HS := Aside0.mk (HS.out.trans (if_pos ((badSize_iff f).2 (by omega))))
  go_wp2_with fail
  exact bodyPost_ret (v := .tuple #[.int .i64 0, .int .i64 5]) (by simp [results, Tryd.results13, go_sem]) rfl ⟨by rw [HS.out], hgx ▸ HB.out⟩
 have d3 := decide_eq_false b3
 by_cases b4 : f.f1 < f.f2
 ·have d4 := decide_eq_true b4
  replace HS := Aside0.mk (HS.out.trans (if_pos ((badSize_iff f).2 (by omega))))
  go_wp2_with fail
  exact bodyPost_ret (v := .tuple #[.int .i64 0, .int .i64 5]) (by simp [results, Tryd.results13, go_sem]) rfl ⟨by rw [HS.out], hgx ▸ HB.out⟩
 have d4 := decide_eq_false b4
 by_cases b5 : f.f2 < 0
 ·have d5 := decide_eq_true b5
  replace HS := Aside0.mk (HS.out.trans (if_pos ((badSize_iff f).2 (by omega))))
  go_wp2_with fail
  exact bodyPost_ret (v := .tuple #[.int .i64 0, .int .i64 5]) (by simp [results, Tryd.results13, go_sem]) rfl ⟨by rw [HS.out], hgx ▸ HB.out⟩
 have d5 := decide_eq_false b5
 replace HS := Aside0.mk (HS.out.trans (if_neg (by rw [(badSize_not f).2 (by omega)]; simp)))
 go_upto_region 4 with (fail)
 clear d1 d3 d4 d5 b2
 have HLEN : Aside0 (f.f4.length ≤ 4000 ∧ f.f4.length ≠ 0) := Aside0.mk (by omega)
 clear b1 b2n b3 b4 b5
 have HR := Aside0.mk (Below.refl V.heap.size V)
 go_upto_block 0 with (fail)
 clear x0 x1 x2 y0 y1 y2 y3 y4
 go_wp2_with fail
 go_loopw [46] (fun iv wx => ∃ (j : Nat), j ≤ f.f3.length ∧ iv = .int .i64 (j : Int) ∧ Hid (f.f3.all (localOk p n) = (f.f3.drop j).all (localOk p n)) ∧ Hid (Below V.heap.size V wx)) (fun iv _ => f.f3.length - (intOf iv).toNat)
 case atStart => exact ⟨0, Nat.zero_le _, rfl, rfl, Below.refl _ _⟩
 case round =>
  obtain ⟨j, hj, rfl, hpj, hb⟩ := hrel
  have HJ := Aside0.mk (show f.f3.all (localOk p n) = (f.f3.drop j).all (localOk p n) from hpj)
  replace HR : Aside0 (Below V.heap.size V wr) := Aside0.mk hb
  clear hpj hb
  obtain ⟨x0, x1, x2⟩ := cell3 (blk_below HX.out HR.out)
  obtain ⟨y0, y1, y2, y3, y4⟩ := cell5 (blk_below HY.out HR.out)
  by_cases hlt : (j : Int) < (f.f3.length : Int)
  ·have hj1 : j < f.f3.length := by omega
   obtain ⟨a3, hA3, q0⟩ := Kd.at_int (Kd.C_below (Kd.C_below HC3.out HB.out) HR.out) (j : Int) (Int.natCast_nonneg j) hlt
   have HJ2 : Aside0 ((f.f3.drop j).all (localOk p n) = (localOk p n (rd f.f3 (j : Int)) && (f.f3.drop (j + 1)).all (localOk p n))) := Aside0.mk (by rw [List.drop_eq_getElem_cons hj1, List.all_cons, rd_at _ _ hj1])
   generalize rd f.f3 (j : Int) = x at q0 HJ2
   rw [Int.toNat_natCast] at q0
   have hwi : IntKind.i64.wrap ((j : Int) + 1) = (j : Int) + 1 := by have := HWF.out.1; rw [IntKind.wrap_i64]; omega
   subst hA3
   go_wp2_with fail
   refine (HKc.out _ x (below_step HB.out HR.out)).mono ?_
   rintro e w1 ⟨rfl, hk⟩
   replace HR := Aside0.mk (below_step HR.out hk)
   clear q0 hk
   clear x0 x1 x2 y0 y1 y2 y3 y4
   obtain ⟨x0, x1, x2⟩ := cell3 (blk_below HX.out HR.out)
   obtain ⟨y0, y1, y2, y3, y4⟩ := cell5 (blk_below HY.out HR.out)
   cases e2 : (kindS p.sites x != 2) with
   | true =>
    have hno : f.f3.all (localOk p n) = false := by rw [HJ.out, HJ2.out]; simp only [localOk]; rw [show (kindS p.sites x == 2) = false by simpa using e2]; rfl
    clear hwi
    go_wp2_with fail
    exact bodyPost_ret (v := .tuple #[.int .i64 0, .int .i64 8]) (by simp [results, Tryd.results13, go_sem]) rfl ⟨by rw [HS.out, hno]; first | done | rfl, hgx ▸ below_step HB.out HR.out⟩
   | false =>
    have hk2 : kindS p.sites x = 2 := by simpa using e2
    have hin := kindS_in hk2
    obtain ⟨a8, A8, c8, hA0, q0, q1, q2, q3, q4, q5, q6, q7, _, _⟩ := at_T48 (Kd.C_below HP.out.sites (below_step HB.out HR.out)) x hin.1 hin.2
    have hin1 := hin.1
    have hin2 := hin.2
    rw [hA0] at x0
    clear hin q0 q1 q3 q4 q5 q6 q7 hk2 hA0
    cases e3 : ((rd_T48 p.sites x).f2 != n) with
    | true =>
     have hno : f.f3.all (localOk p n) = false := by rw [HJ.out, HJ2.out]; simp only [localOk]; rw [show ((rd_T48 p.sites x).f2 == n) = false by simpa using e3, Bool.and_false]; rfl
     clear hwi
     go_wp2_with fail
     exact bodyPost_ret (v := .tuple #[.int .i64 0, .int .i64 8]) (by simp [results, Tryd.results13, go_sem]) rfl ⟨by rw [HS.out, hno]; first | done | rfl, hgx ▸ below_step HB.out HR.out⟩
    | false =>
     have hyes : localOk p n x = true := by simp only [localOk]; rw [show (kindS p.sites x == 2) = true by simpa using e2, show ((rd_T48 p.sites x).f2 == n) = true by simpa using e3]; rfl
     have HY2 := Aside0.mk (HJ.out.trans (HJ2.out.trans (by rw [hyes, Bool.true_and])))
     clear hyes
     go_wp2_with fail
     go_roundw
     case rel => exact ⟨j + 1, by omega, by go_num, HY2.out, HR.out⟩
     case measure => simp [intOf]; omega
  ·have hall : f.f3.all (localOk p n) = true := by rw [HJ.out, List.drop_eq_nil_of_le (by omega)]; rfl
   rw [hall] at HS
   replace HS := Aside0.mk (HS.out.trans (if_pos rfl))
   clear hall HJ
   go_upto_block 2 with (fail)
   clear x0 x1 x2 y0 y1 y2 y3 y4
   go_wp2_with fail
   go_loopw [68] (fun iv wx => ∃ (j : Nat), j ≤ f.f4.length ∧ iv = .int .i64 (j : Int) ∧ Hid (codeS p f f.f4.length 0 = codeS p f (f.f4.length - j) j) ∧ Hid (Below V.heap.size V wx)) (fun iv _ => f.f4.length - (intOf iv).toNat)
   case atStart => exact ⟨0, Nat.zero_le _, rfl, rfl, HR.out⟩
   case round =>
    clear hlt hj
    obtain ⟨pc, hj, rfl, hpj, hb⟩ := hrel
    have HJ := Aside0.mk (show codeS p f f.f4.length 0 = codeS p f (f.f4.length - pc) pc from hpj)
    replace HR : Aside0 (Below V.heap.size V wr) := Aside0.mk hb
    clear hpj hb
    obtain ⟨x0, x1, x2⟩ := cell3 (blk_below HX.out HR.out)
    obtain ⟨y0, y1, y2, y3, y4⟩ := cell5 (blk_below HY.out HR.out)
    by_cases hlt : (pc : Int) < (f.f4.length : Int)
    ·have hj1 : pc < f.f4.length := by omega
     have HD : Aside0 (f.f4.length - pc = f.f4.length - (pc + 1) + 1) := Aside0.mk (by omega)
     have hwi : IntKind.i64.wrap ((pc : Int) + 1) = (pc : Int) + 1 := by have := HLEN.out.1; rw [IntKind.wrap_i64]; omega
     go_wp2_with fail
     refine (HIc.out _ (pc : Int) (below_step HB.out HR.out) (by omega) hlt).mono ?_
     rintro e w1 ⟨rfl, hk⟩
     replace HR := Aside0.mk (below_step HR.out hk)
     clear x0 x1 x2 y0 y1 y2 y3 y4
     clear hk
     cases e2 : (insnS p f (pc : Int) != 0) with
     | true =>
      have hstop : codeS p f f.f4.length 0 = ((pc : Int), insnS p f (pc : Int)) := by rw [HJ.out, HD.out, codeS_stop p f (by simpa using e2)]
      clear hwi
      go_wp2_with fail
      exact bodyPost_ret (v := .tuple #[.int .i64 (pc : Int), .int .i64 (insnS p f (pc : Int))]) (by simp [results, Tryd.results13, go_sem]) rfl ⟨by rw [HS.out, hstop]; first | done | rfl, hgx ▸ below_step HB.out HR.out⟩
     | false =>
      have HN := Aside0.mk (show codeS p f f.f4.length 0 = codeS p f (f.f4.length - (pc + 1)) (pc + 1) by rw [HJ.out, HD.out, codeS_step p f (by simpa using e2)])
      go_wp2_with fail
      go_roundw
      case rel => exact ⟨pc + 1, by omega, by go_num, HN.out, HR.out⟩
      case measure => simp [intOf]; omega
    ·have hend : codeS p f f.f4.length 0 = (0, 0) := by rw [HJ.out, show f.f4.length - pc = 0 by omega]; rfl
     go_wp2_with fail
     exact bodyPost_ret (v := .tuple #[.int .i64 0, .int .i64 0]) (by simp [results, Tryd.results13, go_sem]) rfl ⟨by rw [HS.out, hend]; first | done | rfl, hgx ▸ below_step HB.out HR.out⟩
end Go.Proofs.YtmiacdacebaagaaDoor.G
set_option linter.unusedVariables false
set_option linter.unusedSimpArgs false
namespace Go.Proofs.YtmiacdacebaagaaDoor.G
open Go.RowKit Go.Proofs.YtmiacdacebaagaaDoor.B Go.Proofs.YtmiacdacebaagaaDoorW.PrintWords Go.Proofs.YtmiacdacebaagaaDoorW.PrintLast Go.Proofs.YtmiacdacebaagaaDoorW.PrintMore
set_option maxRecDepth 100000 in
set_option maxHeartbeats 8000000 in
theorem chk_c0 (p : PV) (A0 A1 : Option Addr) (e0 : p.A0 = A0) (e1 : p.A1 = A1) (w : World) (h : RdP w p) (hg : Tab w) (hwf : WfP p) :
  Calls Tryd.prog 7 #[.agg #[.slice A0 p.sites.length p.c0, .slice A1 p.fns.length p.c1, .int .i64 p.main]] w
   fun e w' => e = .returned (.tuple #[.int .i64 (chkS p).1, .int .i64 (chkS p).2.1, .int .i64 (chkS p).2.2]) ∧ Below w.heap.size w w' := by
 have HP := Aside0.mk h
 have HE0 := Aside0.mk e0
 have HFc : Aside0 (∀ (W2 : World) (n : Int), Below w.heap.size w W2 → 0 ≤ n → n < (p.fns.length : Int) → Calls Tryd.prog 13 #[.agg #[.slice A0 p.sites.length p.c0, .slice A1 p.fns.length p.c1, .int .i64 p.main], .int .i64 n] W2 fun e w' => e = .returned (.tuple #[.int .i64 (fnS p n).1, .int .i64 (fnS p n).2]) ∧ Below W2.heap.size W2 w') :=
  Aside0.mk (fun W2 n hb hp0 hp1 => by
   rw [← e0, ← e1]
   refine fn_c p n W2 (h.below hb) (hg.below hb) hp0 hp1 ?_
   obtain ⟨k, rfl⟩ : ∃ k : Nat, n = (k : Int) := ⟨n.toNat, by omega⟩
   rw [rd36_mem _ _ (by omega)]
   exact hwf _ (List.getElem_mem _))
 clear hg hwf h e0 e1
 have HS : Aside0 (chkS p = (if 200 < p.fns.length ∨ 600 < p.sites.length then (0, 0, 5) else if p.main < 0 ∨ (p.fns.length : Int) ≤ p.main ∨ p.sites.length < p.fns.length then (0, 0, 8) else if sitesS p p.sites.length 0 = true then fnsS p p.fns.length 0 else (0, 0, 8))) := Aside0.mk rfl
 go_enter Tryd.func7, Tryd.ntmps7
 go_upto_region 1 with (fail)
 have HX := Aside0.mk (blk_new w (.cells #[.slice A0 p.sites.length p.c0, .slice A1 p.fns.length p.c1, .int .i64 p.main] 25))
 have HB := Aside0.mk (below_alloc (Below.refl w.heap.size w) (.cells #[.slice A0 p.sites.length p.c0, .slice A1 p.fns.length p.c1, .int .i64 p.main] 25))
 generalize w.alloc (.cells #[.slice A0 p.sites.length p.c0, .slice A1 p.fns.length p.c1, .int .i64 p.main] 25) = V at HX HB ⊢
 generalize hgx : w.heap.size = gx at HX ⊢
 obtain ⟨x0, x1, x2⟩ := cell3 HX.out
 by_cases b0 : (200 : Int) < (p.fns.length : Int)
 ·have d0 := decide_eq_true b0
  replace HS := Aside0.mk (HS.out.trans (if_pos (by omega)))
  go_wp2_with fail
  exact bodyPost_ret (v := .tuple #[.int .i64 0, .int .i64 0, .int .i64 5]) (by simp [results, Tryd.results7, go_sem]) rfl ⟨by rw [HS.out], hgx ▸ HB.out⟩
 have d0 := decide_eq_false b0
 by_cases b1 : (600 : Int) < (p.sites.length : Int)
 ·have d1 := decide_eq_true b1
  replace HS := Aside0.mk (HS.out.trans (if_pos (by omega)))
  go_wp2_with fail
  exact bodyPost_ret (v := .tuple #[.int .i64 0, .int .i64 0, .int .i64 5]) (by simp [results, Tryd.results7, go_sem]) rfl ⟨by rw [HS.out], hgx ▸ HB.out⟩
 have d1 := decide_eq_false b1
 replace HS := Aside0.mk (HS.out.trans (if_neg (by omega)))
 by_cases b2 : p.main < 0
 ·have d2 := decide_eq_true b2
  replace HS := Aside0.mk (HS.out.trans (if_pos (by omega)))
  go_wp2_with fail
  exact bodyPost_ret (v := .tuple #[.int .i64 0, .int .i64 0, .int .i64 8]) (by simp [results, Tryd.results7, go_sem]) rfl ⟨by rw [HS.out], hgx ▸ HB.out⟩
 have d2 := decide_eq_false b2
 by_cases b3 : (p.fns.length : Int) ≤ p.main
 ·have d3 := decide_eq_true b3
  replace HS := Aside0.mk (HS.out.trans (if_pos (by omega)))
  go_wp2_with fail
  exact bodyPost_ret (v := .tuple #[.int .i64 0, .int .i64 0, .int .i64 8]) (by simp [results, Tryd.results7, go_sem]) rfl ⟨by rw [HS.out], hgx ▸ HB.out⟩
 have d3 := decide_eq_false b3
 by_cases b4 : (p.sites.length : Int) < (p.fns.length : Int)
 ·have d4 := decide_eq_true b4
  replace HS := Aside0.mk (HS.out.trans (if_pos (by omega)))
  go_wp2_with fail
  exact bodyPost_ret (v := .tuple #[.int .i64 0, .int .i64 0, .int .i64 8]) (by simp [results, Tryd.results7, go_sem]) rfl ⟨by rw [HS.out], hgx ▸ HB.out⟩
 have d4 := decide_eq_false b4
 replace HS := Aside0.mk (HS.out.trans (if_neg (by omega)))
 go_upto_block 0 with (fail)
 have HL : Aside0 (p.fns.length ≤ 200 ∧ p.sites.length ≤ 600) := Aside0.mk (by omega)
 clear b0 b1 b2 b3 b4 d0 d1 d2 d3 d4 x0 x1 x2
 go_wp2_with fail
 go_loopw [43] (fun iv wx => ∃ (j : Nat), j ≤ p.sites.length ∧ iv = .int .i64 (j : Int) ∧ Hid (sitesS p p.sites.length 0 = sitesS p (p.sites.length - j) j) ∧ Hid (Below V.heap.size V wx)) (fun iv _ => p.sites.length - (intOf iv).toNat)
 case atStart => exact ⟨0, Nat.zero_le _, rfl, rfl, Below.refl _ _⟩
 case round =>
  obtain ⟨j, hj, rfl, hpj, hb⟩ := hrel
  have HJ := Aside0.mk (show sitesS p p.sites.length 0 = sitesS p (p.sites.length - j) j from hpj)
  have HR : Aside0 (Below V.heap.size V wr) := Aside0.mk hb
  clear hpj hb
  by_cases hlt : (j : Int) < (p.sites.length : Int)
  ·have HD : Aside0 (p.sites.length - j = p.sites.length - (j + 1) + 1) := Aside0.mk (by omega)
   have hwi : IntKind.i64.wrap ((j : Int) + 1) = (j : Int) + 1 := by have := HL.out.2; rw [IntKind.wrap_i64]; omega
   obtain ⟨a8, A8, c8, hA0, q0, q1, q2, q3, q4, q5, q6, q7, _, _⟩ := at_T48 (Kd.C_below HP.out.sites (below_step HB.out HR.out)) (j : Int) (Int.natCast_nonneg j) hlt
   rw [Int.toNat_natCast] at q0 q1 q2 q3 q4 q5 q6 q7
   obtain rfl : A0 = some a8 := HE0.out.symm.trans hA0
   clear hA0
   go_upto_region 8 with (fail)
   clear q0 q1 q2 q3 q4 q5 q6 q7
   have HZ := Aside0.mk (blk_new wr (.cells #[.int .i64 (rd_T48 p.sites (j : Int)).f0, .int .i64 (rd_T48 p.sites (j : Int)).f1, .int .i64 (rd_T48 p.sites (j : Int)).f2, .string (rd_T48 p.sites (j : Int)).f3, .int .i64 (rd_T48 p.sites (j : Int)).f4.f0, .int .i64 (rd_T48 p.sites (j : Int)).f4.f1, .string (rd_T48 p.sites (j : Int)).f4.f2, .slice A8 (rd_T48 p.sites (j : Int)).f4.f3.length c8] 48))
   replace HR := Aside0.mk (below_alloc HR.out (.cells #[.int .i64 (rd_T48 p.sites (j : Int)).f0, .int .i64 (rd_T48 p.sites (j : Int)).f1, .int .i64 (rd_T48 p.sites (j : Int)).f2, .string (rd_T48 p.sites (j : Int)).f3, .int .i64 (rd_T48 p.sites (j : Int)).f4.f0, .int .i64 (rd_T48 p.sites (j : Int)).f4.f1, .string (rd_T48 p.sites (j : Int)).f4.f2, .slice A8 (rd_T48 p.sites (j : Int)).f4.f3.length c8] 48))
   generalize wr.alloc (.cells #[.int .i64 (rd_T48 p.sites (j : Int)).f0, .int .i64 (rd_T48 p.sites (j : Int)).f1, .int .i64 (rd_T48 p.sites (j : Int)).f2, .string (rd_T48 p.sites (j : Int)).f3, .int .i64 (rd_T48 p.sites (j : Int)).f4.f0, .int .i64 (rd_T48 p.sites (j : Int)).f4.f1, .string (rd_T48 p.sites (j : Int)).f4.f2, .slice A8 (rd_T48 p.sites (j : Int)).f4.f3.length c8] 48) = w1 at HZ HR ⊢
   generalize wr.heap.size = gz at HZ ⊢
   obtain ⟨x0, x1, x2⟩ := cell3 (blk_below HX.out HR.out)
   obtain ⟨z0, z1, z2, z3, z4, z5, z6, z7⟩ := cell8 HZ.out
   cases e1 : ((rd_T48 p.sites (j : Int)).f0 == 4) with
   | true =>
    by_cases hn : j < p.fns.length
    ·have dn := decide_eq_true hn
     have e3 : decide ((j : Int) < (p.fns.length : Int)) = true := decide_eq_true (by omega)
     have HN := Aside0.mk (show sitesS p p.sites.length 0 = sitesS p (p.sites.length - (j + 1)) (j + 1) by rw [HJ.out, HD.out, sitesS, if_pos (by rw [e1, e3])])
     clear e3
     go_wp2_with fail
     go_roundw
     case rel => exact ⟨j + 1, by omega, by go_num, HN.out, HR.out⟩
     case measure => simp [intOf]; omega
    ·have dn := decide_eq_false hn
     have e3 : decide ((j : Int) < (p.fns.length : Int)) = false := decide_eq_false (by omega)
     have hno : sitesS p p.sites.length 0 = false := by rw [HJ.out, HD.out, sitesS, if_neg (by rw [e1, e3]; simp)]
     clear e3
     clear hwi
     go_wp2_with fail
     exact bodyPost_ret (v := .tuple #[.int .i64 0, .int .i64 0, .int .i64 8]) (by simp [results, Tryd.results7, go_sem]) rfl ⟨by rw [HS.out, hno]; first | done | rfl, hgx ▸ below_step HB.out HR.out⟩
   | false =>
    by_cases hn : j < p.fns.length
    ·have dn := decide_eq_true hn
     have e3 : decide ((j : Int) < (p.fns.length : Int)) = true := decide_eq_true (by omega)
     have hno : sitesS p p.sites.length 0 = false := by rw [HJ.out, HD.out, sitesS, if_neg (by rw [e1, e3]; simp)]
     clear e3
     clear hwi
     go_wp2_with fail
     exact bodyPost_ret (v := .tuple #[.int .i64 0, .int .i64 0, .int .i64 8]) (by simp [results, Tryd.results7, go_sem]) rfl ⟨by rw [HS.out, hno]; first | done | rfl, hgx ▸ below_step HB.out HR.out⟩
    ·have dn := decide_eq_false hn
     have e3 : decide ((j : Int) < (p.fns.length : Int)) = false := decide_eq_false (by omega)
     have HN := Aside0.mk (show sitesS p p.sites.length 0 = sitesS p (p.sites.length - (j + 1)) (j + 1) by rw [HJ.out, HD.out, sitesS, if_pos (by rw [e1, e3])])
     clear e3
     go_wp2_with fail
     go_roundw
     case rel => exact ⟨j + 1, by omega, by go_num, HN.out, HR.out⟩
     case measure => simp [intOf]; omega
  ·have hall : sitesS p p.sites.length 0 = true := by rw [HJ.out, show p.sites.length - j = 0 by omega]; rfl
   rw [hall] at HS
   replace HS := Aside0.mk (HS.out.trans (if_pos rfl))
   clear hall HJ
   obtain ⟨x0, x1, x2⟩ := cell3 (blk_below HX.out HR.out)
   go_upto_block 2 with (fail)
   clear x0 x1 x2
   go_wp2_with fail
   go_loopw [61] (fun iv wx => ∃ (j : Nat), j ≤ p.fns.length ∧ iv = .int .i64 (j : Int) ∧ Hid (fnsS p p.fns.length 0 = fnsS p (p.fns.length - j) j) ∧ Hid (Below V.heap.size V wx)) (fun iv _ => p.fns.length - (intOf iv).toNat)
   case atStart => exact ⟨0, Nat.zero_le _, rfl, rfl, HR.out⟩
   case round =>
    clear hlt hj
    obtain ⟨n, hj, rfl, hpj, hb⟩ := hrel
    have HJ := Aside0.mk (show fnsS p p.fns.length 0 = fnsS p (p.fns.length - n) n from hpj)
    replace HR : Aside0 (Below V.heap.size V wr) := Aside0.mk hb
    clear hpj hb
    by_cases hlt : (n : Int) < (p.fns.length : Int)
    ·have HD : Aside0 (p.fns.length - n = p.fns.length - (n + 1) + 1) := Aside0.mk (by omega)
     have hwi : IntKind.i64.wrap ((n : Int) + 1) = (n : Int) + 1 := by have := HL.out.1; rw [IntKind.wrap_i64]; omega
     obtain ⟨x0, x1, x2⟩ := cell3 (blk_below HX.out HR.out)
     go_wp2_with fail
     refine (HFc.out _ (n : Int) (below_step HB.out HR.out) (by omega) hlt).mono ?_
     rintro e w1 ⟨rfl, hk⟩
     replace HR := Aside0.mk (below_step HR.out hk)
     clear hk x0 x1 x2
     cases e2 : ((fnS p (n : Int)).2 != 0) with
     | true =>
      have hstop : fnsS p p.fns.length 0 = ((n : Int), (fnS p (n : Int)).1, (fnS p (n : Int)).2) := by rw [HJ.out, HD.out, fnsS, if_neg (by simpa using e2)]
      clear hwi
      go_wp2_with fail
      exact bodyPost_ret (v := .tuple #[.int .i64 (n : Int), .int .i64 (fnS p (n : Int)).1, .int .i64 (fnS p (n : Int)).2]) (by simp [results, Tryd.results7, go_sem]) rfl ⟨by rw [HS.out, hstop]; first | done | rfl, hgx ▸ below_step HB.out HR.out⟩
     | false =>
      have HN := Aside0.mk (show fnsS p p.fns.length 0 = fnsS p (p.fns.length - (n + 1)) (n + 1) by rw [HJ.out, HD.out, fnsS, if_pos (by simpa using e2)])
      go_wp2_with fail
      go_roundw
      case rel => exact ⟨n + 1, by omega, by go_num, HN.out, HR.out⟩
      case measure => simp [intOf]; omega
    ·have hend : fnsS p p.fns.length 0 = (0, 0, 0) := by rw [HJ.out, show p.fns.length - n = 0 by omega]; rfl
     go_wp2_with fail
     exact bodyPost_ret (v := .tuple #[.int .i64 0, .int .i64 0, .int .i64 0]) (by simp [results, Tryd.results7, go_sem]) rfl ⟨by rw [HS.out, hend]; first | done | rfl, hgx ▸ below_step HB.out HR.out⟩
theorem chk_c (p : PV) (w : World) (h : RdP w p) (hg : Tab w) (hwf : WfP p) :
  Calls Tryd.prog 7 #[.agg #[.slice p.A0 p.sites.length p.c0, .slice p.A1 p.fns.length p.c1, .int .i64 p.main]] w
   fun e w' => e = .returned (.tuple #[.int .i64 (chkS p).1, .int .i64 (chkS p).2.1, .int .i64 (chkS p).2.2]) ∧ Below w.heap.size w w' := chk_c0 p p.A0 p.A1 rfl rfl w h hg hwf
end Go.Proofs.YtmiacdacebaagaaDoor.G
namespace Go.Proofs.YtmiacdacebaagaaDoor.B
open Go.RowKit Go.Proofs.YtmiacdacebaagaaDoorW.PrintWords Go.Proofs.YtmiacdacebaagaaDoorW.PrintLast Go.Proofs.YtmiacdacebaagaaDoorW.PrintMore
structure Opens {α : Type} (P : Program) (n : Nat) (t : TypeId) (d : Kd α) (wf : α → Prop) : Prop where
  out : ∀ {H : Type} (enc : TypeId × Value → H) (w : World) (base : Nat) (spare : Nat → Bool) (held : Bool) (fuel : Nat) (cs : List Value) (x : DataW H × List MemPlace),
    fuel ≤ n → DataW.trod enc P w base spare held fuel t cs = some x → ∃ a, d.K w a cs ∧ wf a
section
variable {α β : Type} {P : Program} {n m : Nat} {t e : TypeId} {d : Kd α} {d' : Kd β} {wf wf' : α → Prop} {wfb : β → Prop}
theorem Opens.le (h : Opens P n t d wf) (hm : m ≤ n) : Opens P m t d wf :=
  ⟨fun enc w base spare held fuel cs x hf ht => h.out enc w base spare held fuel cs x (Nat.le_trans hf hm) ht⟩
theorem Opens.imp (h : Opens P n t d wf) (hi : ∀ a, wf a → wf' a) : Opens P n t d wf' :=
  ⟨fun enc w base spare held fuel cs x hf ht => let ⟨a, h1, h2⟩ := h.out enc w base spare held fuel cs x hf ht; ⟨a, h1, hi a h2⟩⟩
theorem Opens.int {k : IntKind} (hu : P.underlying t = some (.int k)) (n : Nat) : Opens P n t (Kd.int k) (fun x => (Lit.int k x).wf = true) := by
  constructor
  intro H enc w base spare held fuel cs x _ h
  obtain ⟨z, rfl, _, hz⟩ := DataW.trod_int hu h
  exact ⟨z, rfl, hz⟩
theorem Opens.string (hu : P.underlying t = some .string) (n : Nat) : Opens P n t Kd.string (fun s => s.size ≤ maxLen) := by
  constructor
  intro H enc w base spare held fuel cs x _ h
  obtain ⟨z, rfl, _, hz⟩ := DataW.trod_string hu h
  exact ⟨z, rfl, hz⟩
theorem add_add (a : Addr) (i j : Nat) : (a.add i).add j = a.add (i + j) := by
  unfold Addr.add
  by_cases hj : j = 0
  · simp [hj]
  · by_cases hi : i = 0
    · simp [hi]
    · simp [hi, hj, Nat.add_assoc]
theorem list_of {p : Nat → α → Prop} : ∀ n, (∀ i, i < n → ∃ a, p i a) → ∃ l : List α, l.length = n ∧ ∀ i a, l[i]? = some a → p i a
  | 0, _ => ⟨[], rfl, fun i a h => by simp at h⟩
  | n + 1, h => by
    obtain ⟨l, hl, hp⟩ := list_of n (fun i hi => h i (by omega))
    obtain ⟨a, ha⟩ := h n (by omega)
    refine ⟨l ++ [a], by simp [hl], fun i b hb => ?_⟩
    rcases Nat.lt_or_ge i n with hi | hi
    · rw [List.getElem?_append_left (by omega)] at hb
      exact hp i b hb
    · have : i = n := by
        have := (List.getElem?_eq_some_iff.1 hb).1
        simp [hl] at this
        omega
      subst this
      have hb' : a = b := by simpa [← hl] using hb
      rw [← hb']
      exact ha
theorem Opens.slice (hu : P.underlying t = some (.slice e)) (hsz : P.cellsOf e = d.sz) (h : Opens P n e d wf) : Opens P (n + 1) t (Kd.slice e d) (fun l => ∀ x ∈ l, wf x) := by
  constructor
  intro H enc w base spare held fuel cs x hf ht
  rcases DataW.trod_slice hu ht with ⟨rfl, _⟩ | ⟨a, len, cap, elems, rest, m, rfl, rfl, _, hb, hl, hm, hlen, hel, _⟩
  · exact ⟨[], ⟨none, 0, rfl, Nat.le_refl _, Kd.C_nil d w⟩, by simp⟩
  · have h1 : ∀ i, i < len → ∃ a' : α, wf a' ∧ ∃ c : List Value, c.length = d.sz ∧ d.K w a' c ∧ ∀ j u, c[j]? = some u → w.cell? (a.add (i * d.sz + j)) = some u := by
      intro i hi
      have he := hel i hi
      rw [List.getElem?_eq_getElem (by omega)] at he
      obtain ⟨c, hc, ht2⟩ := Option.bind_eq_some_iff.1 he
      obtain ⟨a', hK, hw⟩ := h.out enc w base spare held m c _ (by omega) ht2
      rw [hsz] at hc
      obtain ⟨_, hcl, hcc⟩ := World.cells?_some hc
      refine ⟨a', hw, c, hcl, hK, fun j u hj => ?_⟩
      have hjl : j < d.sz := by
        have := (List.getElem?_eq_some_iff.1 hj).1
        omega
      have := hcc j hjl
      rw [add_add] at this
      rw [this, hj]
    obtain ⟨l, hll, hp⟩ := list_of (p := fun i a' => wf a' ∧ ∃ c : List Value, c.length = d.sz ∧ d.K w a' c ∧ ∀ j u, c[j]? = some u → w.cell? (a.add (i * d.sz + j)) = some u) len h1
    refine ⟨l, ⟨some a, cap, by rw [hll], by omega, ⟨rfl, by rw [hll]; unfold maxLen at hm; omega, fun _ => ⟨a, rfl, fun j p hj => ?_⟩⟩⟩, fun x hx => ?_⟩
    · obtain ⟨_, c, h2, h3, h4⟩ := hp j p hj
      exact ⟨c, h2, h3, h4⟩
    · obtain ⟨i, hi⟩ := List.getElem?_of_mem hx
      exact (hp i x hi).1
structure OpensF {α : Type} (P : Program) (n : Nat) (fs : List Field) (o : Nat) (d : Kd α) (wf : α → Prop) : Prop where
  out : ∀ {H : Type} (enc : TypeId × Value → H) (w : World) (base : Nat) (spare : Nat → Bool) (held : Bool) (fuel : Nat) (cs : List Value) (xs : List (DataW H × List MemPlace)),
    fuel ≤ n → (fs.mapM fun f => DataW.trod enc P w base spare held fuel f.type ((cs.drop f.offset).take (P.cellsOf f.type))) = some xs → ∃ a, d.K w a ((cs.drop o).take d.sz) ∧ wf a
theorem OpensF.one {f : Field} (hs : P.cellsOf f.type = d.sz) (h : Opens P n f.type d wf) : OpensF P n [f] f.offset d wf := by
  constructor
  intro H enc w base spare held fuel cs xs hf ht
  cases h1 : DataW.trod enc P w base spare held fuel f.type ((cs.drop f.offset).take (P.cellsOf f.type)) with
  | none => simp [h1] at ht
  | some y =>
    rw [hs] at h1
    exact h.out enc w base spare held fuel _ y hf h1
theorem OpensF.cons {f : Field} {fs : List Field} (hs : P.cellsOf f.type = d.sz) (h : Opens P n f.type d wf) (hr : OpensF P n fs (f.offset + d.sz) d' wfb) : OpensF P n (f :: fs) f.offset (Kd.pair d d') (fun x => wf x.1 ∧ wfb x.2) := by
  constructor
  intro H enc w base spare held fuel cs xs hf ht
  rw [List.mapM_cons] at ht
  cases h1 : DataW.trod enc P w base spare held fuel f.type ((cs.drop f.offset).take (P.cellsOf f.type)) with
  | none => simp [h1] at ht
  | some y =>
    cases h2 : (fs.mapM fun f => DataW.trod enc P w base spare held fuel f.type ((cs.drop f.offset).take (P.cellsOf f.type))) with
    | none => simp [h1, h2] at ht
    | some ys =>
      rw [hs] at h1
      obtain ⟨a, ha, hw⟩ := h.out enc w base spare held fuel _ y hf h1
      obtain ⟨b, hb, hwb⟩ := hr.out enc w base spare held fuel cs ys hf h2
      refine ⟨(a, b), ⟨_, _, ?_, ha, hb⟩, hw, hwb⟩
      show (cs.drop f.offset).take (d.sz + d'.sz) = _
      rw [List.take_add, List.drop_drop]
theorem Opens.struct {fs : Array Field} {f : β → α} (g : α → β) (hg : ∀ a, f (g a) = a) (hu : P.underlying t = some (.struct fs)) (hs : P.cellsOf t = d.sz) (h : OpensF P n fs.toList 0 d wf) : Opens P (n + 1) t (Kd.iso d f) (fun b => ∃ a, b = g a ∧ wf a) := by
  constructor
  intro H enc w base spare held fuel cs x hf ht
  cases fuel with
  | zero => simp [DataW.trod] at ht
  | succ fuel =>
    have hlen : cs.length = P.cellsOf t := by
      obtain ⟨_, _, _, _, h4, _⟩ := DataW.trod_struct hu ht
      exact h4
    have hm : ∃ xs, (fs.toList.mapM fun f => DataW.trod enc P w base spare held fuel f.type ((cs.drop f.offset).take (P.cellsOf f.type))) = some xs := by
      unfold DataW.trod at ht
      rw [hu] at ht
      simp only [hlen, if_true] at ht
      obtain ⟨xs, hxs, _⟩ := Option.map_eq_some_iff.1 ht
      exact ⟨xs, hxs⟩
    obtain ⟨xs, hxs⟩ := hm
    obtain ⟨a, ha, hw⟩ := h.out enc w base spare held fuel cs xs (by omega) hxs
    refine ⟨g a, ?_, a, rfl, hw⟩
    show d.K w (f (g a)) cs
    rw [hg]
    have : (cs.drop 0).take d.sz = cs := by rw [List.drop_zero, ← hs, ← hlen, List.take_length]
    rw [this] at ha
    exact ha
end
end Go.Proofs.YtmiacdacebaagaaDoor.B
set_option linter.unusedVariables false
namespace Go.Proofs.YtmiacdacebaagaaDoor.B
open Go.RowKit Go.Proofs.YtmiacdacebaagaaDoorW.PrintWords Go.Proofs.YtmiacdacebaagaaDoorW.PrintLast Go.Proofs.YtmiacdacebaagaaDoorW.PrintMore
def Fit {H : Type} (P : Program) (t : TypeId) (x : DataW H) : Prop := ∀ k ∈ x.weights P t, k ≤ reachBytes
structure OpensW {α : Type} (P : Program) (n : Nat) (t : TypeId) (d : Kd α) (wf : α → Prop) : Prop where
  out : ∀ {H : Type} (enc : TypeId × Value → H) (w : World) (base : Nat) (spare : Nat → Bool) (held : Bool) (fuel : Nat) (cs : List Value) (x : DataW H × List MemPlace),
    fuel ≤ n → DataW.trod enc P w base spare held fuel t cs = some x → Fit P t x.1 → ∃ a, d.K w a cs ∧ wf a
section
variable {α β : Type} {P : Program} {n m : Nat} {t e : TypeId} {d : Kd α} {d' : Kd β} {wf wf' : α → Prop} {wfb : β → Prop}
theorem OpensW.of (h : Opens P n t d wf) : OpensW P n t d wf := ⟨fun enc w base spare held fuel cs x hf ht _ => h.out enc w base spare held fuel cs x hf ht⟩
theorem OpensW.imp (h : OpensW P n t d wf) (hi : ∀ a, wf a → wf' a) : OpensW P n t d wf' :=
  ⟨fun enc w base spare held fuel cs x hf ht hs => let ⟨a, h1, h2⟩ := h.out enc w base spare held fuel cs x hf ht hs; ⟨a, h1, hi a h2⟩⟩
theorem weightsAll_mem {H : Type} {P : Program} {e : TypeId} : ∀ {l : List (DataW H)} {d : DataW H}, d ∈ l → ∀ n ∈ d.weights P e, n ∈ DataW.weightsAll P e l
  | [], _, h, _, _ => nomatch h
  | x :: r, d, h, n, hn => by
    simp only [DataW.weightsAll, List.mem_append]
    rcases List.mem_cons.1 h with rfl | h
    · exact .inl hn
    · exact .inr (weightsAll_mem h n hn)
theorem OpensW.slice (hu : P.underlying t = some (.slice e)) (hsz : P.cellsOf e = d.sz) (h : OpensW P n e d wf) : OpensW P (n + 1) t (Kd.slice e d) (fun l => l.length * P.bytesOf e ≤ reachBytes ∧ ∀ x ∈ l, wf x) := by
  constructor
  intro H enc w base spare held fuel cs x hf ht hfit
  rcases DataW.trod_slice hu ht with ⟨rfl, _⟩ | ⟨a, len, cap, elems, rest, m, rfl, rfl, hx, hb, hl, hm, hlen, hel, _⟩
  · exact ⟨[], ⟨none, 0, rfl, Nat.le_refl _, Kd.C_nil d w⟩, by simp⟩
  · subst hx
    have hw0 : ∀ k ∈ (elems.length + rest.length) * P.bytesOf e :: (DataW.weightsAll P e (elems.map (·.1)) ++ DataW.weightsAll P e (rest.map (·.1))), k ≤ reachBytes := by
      intro k hk
      refine hfit k ?_
      simp only [DataW.weights, hu, List.length_map]
      exact hk
    have h1 : ∀ i, i < len → ∃ a' : α, wf a' ∧ ∃ c : List Value, c.length = d.sz ∧ d.K w a' c ∧ ∀ j u, c[j]? = some u → w.cell? (a.add (i * d.sz + j)) = some u := by
      intro i hi
      have he := hel i hi
      rw [List.getElem?_eq_getElem (by omega)] at he
      obtain ⟨c, hc, ht2⟩ := Option.bind_eq_some_iff.1 he
      have hfe : Fit P e (elems[i]'(by omega)).1 := fun k hk => hw0 k (List.mem_cons_of_mem _ (List.mem_append_left _ (weightsAll_mem (List.mem_map_of_mem (List.getElem_mem _)) k hk)))
      obtain ⟨a', hK, hw⟩ := h.out enc w base spare held m c _ (by omega) ht2 hfe
      rw [hsz] at hc
      obtain ⟨_, hcl, hcc⟩ := World.cells?_some hc
      refine ⟨a', hw, c, hcl, hK, fun j u hj => ?_⟩
      have hjl : j < d.sz := by
        have := (List.getElem?_eq_some_iff.1 hj).1
        omega
      have := hcc j hjl
      rw [add_add] at this
      rw [this, hj]
    obtain ⟨l, hll, hp⟩ := list_of (p := fun i a' => wf a' ∧ ∃ c : List Value, c.length = d.sz ∧ d.K w a' c ∧ ∀ j u, c[j]? = some u → w.cell? (a.add (i * d.sz + j)) = some u) len h1
    refine ⟨l, ⟨some a, cap, by rw [hll], by omega, ⟨rfl, by rw [hll]; unfold maxLen at hm; omega, fun _ => ⟨a, rfl, fun j p hj => ?_⟩⟩⟩, ?_, fun x hx => ?_⟩
    · obtain ⟨_, c, h2, h3, h4⟩ := hp j p hj
      exact ⟨c, h2, h3, h4⟩
    · have h5 := hw0 _ List.mem_cons_self
      refine Nat.le_trans (Nat.mul_le_mul_right _ ?_) h5
      omega
    · obtain ⟨i, hi⟩ := List.getElem?_of_mem hx
      exact (hp i x hi).1
structure OpensWF {α : Type} (P : Program) (n : Nat) (fs : List Field) (o : Nat) (d : Kd α) (wf : α → Prop) : Prop where
  out : ∀ {H : Type} (enc : TypeId × Value → H) (w : World) (base : Nat) (spare : Nat → Bool) (held : Bool) (fuel : Nat) (cs : List Value) (xs : List (DataW H × List MemPlace)),
    fuel ≤ n → (fs.mapM fun f => DataW.trod enc P w base spare held fuel f.type ((cs.drop f.offset).take (P.cellsOf f.type))) = some xs → (∀ k ∈ DataW.weightsEach P (fs.map (·.type)) (xs.map (·.1)), k ≤ reachBytes) → ∃ a, d.K w a ((cs.drop o).take d.sz) ∧ wf a
theorem OpensWF.one {f : Field} (hs : P.cellsOf f.type = d.sz) (h : OpensW P n f.type d wf) : OpensWF P n [f] f.offset d wf := by
  constructor
  intro H enc w base spare held fuel cs xs hf ht hw
  cases h1 : DataW.trod enc P w base spare held fuel f.type ((cs.drop f.offset).take (P.cellsOf f.type)) with
  | none => simp [h1] at ht
  | some y =>
    have hxs : xs = [y] := by simpa [h1] using ht.symm
    subst hxs
    rw [hs] at h1
    exact h.out enc w base spare held fuel _ y hf h1 (fun k hk => hw k (by simp only [List.map_cons, List.map_nil, DataW.weightsEach, List.mem_append]; exact .inl hk))
theorem OpensWF.cons {f : Field} {fs : List Field} (hs : P.cellsOf f.type = d.sz) (h : OpensW P n f.type d wf) (hr : OpensWF P n fs (f.offset + d.sz) d' wfb) : OpensWF P n (f :: fs) f.offset (Kd.pair d d') (fun x => wf x.1 ∧ wfb x.2) := by
  constructor
  intro H enc w base spare held fuel cs xs hf ht hwt
  rw [List.mapM_cons] at ht
  cases h1 : DataW.trod enc P w base spare held fuel f.type ((cs.drop f.offset).take (P.cellsOf f.type)) with
  | none => simp [h1] at ht
  | some y =>
    cases h2 : (fs.mapM fun f => DataW.trod enc P w base spare held fuel f.type ((cs.drop f.offset).take (P.cellsOf f.type))) with
    | none => simp [h1, h2] at ht
    | some ys =>
      have hxs : xs = y :: ys := by simpa [h1, h2] using ht.symm
      subst hxs
      rw [hs] at h1
      simp only [List.map_cons, DataW.weightsEach, List.mem_append] at hwt
      obtain ⟨a, ha, hw⟩ := h.out enc w base spare held fuel _ y hf h1 (fun k hk => hwt k (.inl hk))
      obtain ⟨b, hb, hwb⟩ := hr.out enc w base spare held fuel cs ys hf h2 (fun k hk => hwt k (.inr hk))
      refine ⟨(a, b), ⟨_, _, ?_, ha, hb⟩, hw, hwb⟩
      show (cs.drop f.offset).take (d.sz + d'.sz) = _
      rw [List.take_add, List.drop_drop]
theorem OpensW.struct {fs : Array Field} {f : β → α} (g : α → β) (hg : ∀ a, f (g a) = a) (hu : P.underlying t = some (.struct fs)) (hs : P.cellsOf t = d.sz) (h : OpensWF P n fs.toList 0 d wf) : OpensW P (n + 1) t (Kd.iso d f) (fun b => ∃ a, b = g a ∧ wf a) := by
  constructor
  intro H enc w base spare held fuel cs x hf ht hfit
  cases fuel with
  | zero => simp [DataW.trod] at ht
  | succ fuel =>
    have hlen : cs.length = P.cellsOf t := by
      obtain ⟨_, _, _, _, h4, _⟩ := DataW.trod_struct hu ht
      exact h4
    have hm : ∃ xs, (fs.toList.mapM fun f => DataW.trod enc P w base spare held fuel f.type ((cs.drop f.offset).take (P.cellsOf f.type))) = some xs ∧ x.1 = .agg (xs.map (·.1)) := by
      unfold DataW.trod at ht
      rw [hu] at ht
      simp only [hlen, if_true] at ht
      obtain ⟨xs, hxs, hx⟩ := Option.map_eq_some_iff.1 ht
      exact ⟨xs, hxs, by rw [← hx]⟩
    obtain ⟨xs, hxs, hx⟩ := hm
    have hwt : ∀ k ∈ DataW.weightsEach P (fs.toList.map (·.type)) (xs.map (·.1)), k ≤ reachBytes := by
      intro k hk
      refine hfit k ?_
      rw [hx]
      simp only [DataW.weights, hu]
      exact hk
    obtain ⟨a, ha, hw⟩ := h.out enc w base spare held fuel cs xs (by omega) hxs hwt
    refine ⟨g a, ?_, a, rfl, hw⟩
    show d.K w (f (g a)) cs
    rw [hg]
    have : (cs.drop 0).take d.sz = cs := by rw [List.drop_zero, ← hs, ← hlen, List.take_length]
    rw [this] at ha
    exact ha
end
end Go.Proofs.YtmiacdacebaagaaDoor.B
set_option linter.unusedVariables false
set_option linter.unusedSimpArgs false
namespace Go.Proofs.YtmiacdacebaagaaDoor.G
open Go.RowKit Go.Proofs.YtmiacdacebaagaaDoor.B Go.Proofs.YtmiacdacebaagaaDoorW.PrintWords Go.Proofs.YtmiacdacebaagaaDoorW.PrintLast Go.Proofs.YtmiacdacebaagaaDoorW.PrintMore
theorem opens46 (n : Nat) : Opens Tryd.prog n 46 (Kd.upto F46 4 [46] n) (fun _ => True) := by
  induction n with
  | zero =>
    constructor
    intro H enc w base spare held fuel cs x hf ht
    obtain rfl : fuel = 0 := by omega
    simp [DataW.trod] at ht
  | succ n ih =>
    have hs : (Kd.upto F46 4 [46] n).sz = 4 := sz46 n
    have h3 : Opens Tryd.prog (n + 1) 44 (Kd.slice 46 (Kd.upto F46 4 [46] n)) (fun l => ∀ x ∈ l, (fun _ => True) x) := Opens.slice Tryd.underlying44 (by rw [hs]; kernel_rfl) ih
    have hF := OpensF.cons (f := { name := "Kind", type := 3, offset := 0, embedded := false, tag := "", pkgPath := "", byteOffset := 0 }) (by kernel_rfl) (Opens.int Tryd.underlying3 (n + 1)) (OpensF.cons (f := { name := "N", type := 3, offset := 1, embedded := false, tag := "", pkgPath := "", byteOffset := 8 }) (by kernel_rfl) (Opens.int Tryd.underlying3 (n + 1)) (OpensF.cons (f := { name := "Name", type := 9, offset := 2, embedded := false, tag := "", pkgPath := "", byteOffset := 16 }) (by kernel_rfl) (Opens.string Tryd.underlying9 (n + 1)) (OpensF.one (f := { name := "Of", type := 44, offset := 3, embedded := false, tag := "", pkgPath := "", byteOffset := 32 }) (by rw [show (Kd.slice 46 (Kd.upto F46 4 [46] n)).sz = 1 from rfl]; kernel_rfl) h3)))
    have h := Opens.struct (f := fun x : S46 => (x.f0, x.f1, x.f2, x.f3)) (fun y => ⟨y.1, y.2.1, y.2.2.1, y.2.2.2⟩) (fun _ => rfl) Tryd.underlying46 (by rw [show (Kd.pair (Kd.int .i64) (Kd.pair (Kd.int .i64) (Kd.pair Kd.string (Kd.slice 46 (Kd.upto F46 4 [46] n))))).sz = 4 from rfl]; kernel_rfl) hF
    exact Opens.imp (Opens.le h (by omega)) (fun _ _ => trivial)
theorem openk46 (n : Nat) : OpensW Tryd.prog n 46 k46 (fun _ => True) := by
  constructor
  intro H enc w base spare held fuel cs x hf ht _
  obtain ⟨a, hK, _⟩ := (opens46 n).out enc w base spare held fuel cs x hf ht
  exact ⟨a, ⟨n, hK⟩, trivial⟩
theorem open48 (n : Nat) : OpensW Tryd.prog (n + 1) 48 k48 (fun _ => True) := by
  have hF := OpensWF.cons (f := { name := "Kind", type := 3, offset := 0, embedded := false, tag := "", pkgPath := "", byteOffset := 0 }) (by kernel_rfl) (OpensW.of (Opens.int Tryd.underlying3 n)) (OpensWF.cons (f := { name := "Size", type := 3, offset := 1, embedded := false, tag := "", pkgPath := "", byteOffset := 8 }) (by kernel_rfl) (OpensW.of (Opens.int Tryd.underlying3 n)) (OpensWF.cons (f := { name := "Func", type := 3, offset := 2, embedded := false, tag := "", pkgPath := "", byteOffset := 16 }) (by kernel_rfl) (OpensW.of (Opens.int Tryd.underlying3 n)) (OpensWF.cons (f := { name := "Name", type := 9, offset := 3, embedded := false, tag := "", pkgPath := "", byteOffset := 24 }) (by kernel_rfl) (OpensW.of (Opens.string Tryd.underlying9 n)) (OpensWF.one (f := { name := "T", type := 46, offset := 4, embedded := false, tag := "", pkgPath := "", byteOffset := 40 }) (by kernel_rfl) (openk46 n)))))
  exact OpensW.imp (OpensW.struct (f := fun x : S48 => (x.f0, x.f1, x.f2, x.f3, x.f4)) (fun y => ⟨y.1, y.2.1, y.2.2.1, y.2.2.2.1, y.2.2.2.2⟩) (fun _ => rfl) Tryd.underlying48 (by kernel_rfl) hF) (fun _ _ => trivial)
theorem openInts (n : Nat) : OpensW Tryd.prog (n + 1) 33 (Kd.slice 3 (Kd.int .i64)) (fun l => l.length * 8 ≤ 140737488351232) :=
  OpensW.imp (OpensW.slice Tryd.underlying33 (by kernel_rfl) (OpensW.of (Opens.int Tryd.underlying3 n))) (fun l h => by
    have h8 : Tryd.prog.bytesOf 3 = 8 := by kernel_rfl
    have := h.1
    rw [h8] at this
    exact this)
theorem open39 (n : Nat) : OpensW Tryd.prog (n + 2) 39 k39 (fun i => i.f7.length * 8 ≤ 140737488351232) := by
  have hF := OpensWF.cons (f := { name := "Op", type := 3, offset := 0, embedded := false, tag := "", pkgPath := "", byteOffset := 0 }) (by kernel_rfl) (OpensW.of (Opens.int Tryd.underlying3 (n + 1))) (OpensWF.cons (f := { name := "A", type := 3, offset := 1, embedded := false, tag := "", pkgPath := "", byteOffset := 8 }) (by kernel_rfl) (OpensW.of (Opens.int Tryd.underlying3 (n + 1))) (OpensWF.cons (f := { name := "B", type := 3, offset := 2, embedded := false, tag := "", pkgPath := "", byteOffset := 16 }) (by kernel_rfl) (OpensW.of (Opens.int Tryd.underlying3 (n + 1))) (OpensWF.cons (f := { name := "C", type := 3, offset := 3, embedded := false, tag := "", pkgPath := "", byteOffset := 24 }) (by kernel_rfl) (OpensW.of (Opens.int Tryd.underlying3 (n + 1))) (OpensWF.cons (f := { name := "W", type := 3, offset := 4, embedded := false, tag := "", pkgPath := "", byteOffset := 32 }) (by kernel_rfl) (OpensW.of (Opens.int Tryd.underlying3 (n + 1))) (OpensWF.cons (f := { name := "N", type := 2, offset := 5, embedded := false, tag := "", pkgPath := "", byteOffset := 40 }) (by kernel_rfl) (OpensW.of (Opens.int Tryd.underlying2 (n + 1))) (OpensWF.cons (f := { name := "Sign", type := 9, offset := 6, embedded := false, tag := "", pkgPath := "", byteOffset := 48 }) (by kernel_rfl) (OpensW.of (Opens.string Tryd.underlying9 (n + 1))) (OpensWF.one (f := { name := "Args", type := 33, offset := 7, embedded := false, tag := "", pkgPath := "", byteOffset := 64 }) (by kernel_rfl) (openInts n))))))))
  refine OpensW.imp (OpensW.struct (f := fun x : S39 => (x.f0, x.f1, x.f2, x.f3, x.f4, x.f5, x.f6, x.f7)) (fun y => ⟨y.1, y.2.1, y.2.2.1, y.2.2.2.1, y.2.2.2.2.1, y.2.2.2.2.2.1, y.2.2.2.2.2.2.1, y.2.2.2.2.2.2.2⟩) (fun _ => rfl) Tryd.underlying39 (by kernel_rfl) hF) ?_
  rintro b ⟨a, rfl, h0, h1, h2, h3, h4, h5, h6, h7⟩
  exact h7
theorem open36 (n : Nat) : OpensW Tryd.prog (n + 4) 36 k36 WfF := by
  have h34 : OpensW Tryd.prog (n + 3) 34 (Kd.slice 39 k39) (fun l => l.length * Tryd.prog.bytesOf 39 ≤ reachBytes ∧ ∀ x ∈ l, x.f7.length * 8 ≤ 140737488351232) := OpensW.slice Tryd.underlying34 (by kernel_rfl) (open39 n)
  have hF := OpensWF.cons (f := { name := "Name", type := 9, offset := 0, embedded := false, tag := "", pkgPath := "", byteOffset := 0 }) (by kernel_rfl) (OpensW.of (Opens.string Tryd.underlying9 (n + 3))) (OpensWF.cons (f := { name := "Regs", type := 3, offset := 1, embedded := false, tag := "", pkgPath := "", byteOffset := 16 }) (by kernel_rfl) (OpensW.of (Opens.int Tryd.underlying3 (n + 3))) (OpensWF.cons (f := { name := "Params", type := 3, offset := 2, embedded := false, tag := "", pkgPath := "", byteOffset := 24 }) (by kernel_rfl) (OpensW.of (Opens.int Tryd.underlying3 (n + 3))) (OpensWF.cons (f := { name := "Locals", type := 33, offset := 3, embedded := false, tag := "", pkgPath := "", byteOffset := 32 }) (by kernel_rfl) (openInts (n + 2)) (OpensWF.one (f := { name := "Code", type := 34, offset := 4, embedded := false, tag := "", pkgPath := "", byteOffset := 56 }) (by kernel_rfl) (h34)))))
  refine OpensW.imp (OpensW.struct (f := fun x : S36 => (x.f0, x.f1, x.f2, x.f3, x.f4)) (fun y => ⟨y.1, y.2.1, y.2.2.1, y.2.2.2.1, y.2.2.2.2⟩) (fun _ => rfl) Tryd.underlying36 (by kernel_rfl) hF) ?_
  rintro b ⟨a, rfl, h0, h1, h2, h3, h4⟩
  exact ⟨h3, h4.2⟩
theorem open25 {H : Type} {enc : TypeId × Value → H} {W : World} {base : Nat} {spare : Nat → Bool} {held : Bool} {v : Value} {d : DataW H} {p : List MemPlace} (hv : Value.okWide Tryd.prog W .any base 25 v) (h : DataW.Trod enc Tryd.prog W 0 spare held 25 v d p)
    (hfit : Fit Tryd.prog 25 d) : ∃ x : PV, v = .agg #[.slice x.A0 x.sites.length x.c0, .slice x.A1 x.fns.length x.c1, .int .i64 x.main] ∧ RdP W x ∧ WfP x := by
  unfold Value.okWide at hv
  rw [Tryd.underlying25] at hv
  obtain ⟨cs, rfl, _⟩ := hv
  obtain ⟨n, hf⟩ := h
  have h22 : OpensW Tryd.prog (n + 5) 22 (Kd.slice 48 k48) (fun l => l.length * Tryd.prog.bytesOf 48 ≤ reachBytes ∧ ∀ x ∈ l, (fun _ => True) x) := OpensW.slice Tryd.underlying22 (by kernel_rfl) (open48 (n + 3))
  have h23 : OpensW Tryd.prog (n + 5) 23 (Kd.slice 36 k36) (fun l => l.length * Tryd.prog.bytesOf 36 ≤ reachBytes ∧ ∀ x ∈ l, WfF x) := OpensW.slice Tryd.underlying23 (by kernel_rfl) (open36 n)
  have hF := OpensWF.cons (f := { name := "Sites", type := 22, offset := 0, embedded := false, tag := "", pkgPath := "", byteOffset := 0 }) (by kernel_rfl) (h22) (OpensWF.cons (f := { name := "Fns", type := 23, offset := 1, embedded := false, tag := "", pkgPath := "", byteOffset := 24 }) (by kernel_rfl) (h23) (OpensWF.one (f := { name := "Main", type := 3, offset := 2, embedded := false, tag := "", pkgPath := "", byteOffset := 48 }) (by kernel_rfl) (OpensW.of (Opens.int Tryd.underlying3 (n + 5)))))
  have hS := OpensW.struct (P := Tryd.prog) (t := 25) (f := fun x : List S48 × List S36 × Int => x) (fun y => y) (fun _ => rfl) Tryd.underlying25 (by kernel_rfl) hF
  obtain ⟨x, hK, a, rfl, _, h1, _⟩ := hS.out enc W 0 spare held n _ _ (by omega) hf hfit
  obtain ⟨sites, fns, main⟩ := x
  obtain ⟨_, _, e0, ⟨A0, c0, rfl, hl0, hC0⟩, _, _, rfl, ⟨A1, c1, rfl, hl1, hC1⟩, rfl⟩ := hK
  refine ⟨⟨sites, fns, main, A0, c0, A1, c1⟩, ?_, ⟨hC0, hl0, hC1, hl1⟩, h1.2⟩
  congr 1
  exact Array.toList_inj.1 e0
end Go.Proofs.YtmiacdacebaagaaDoor.G
set_option linter.unusedVariables false
namespace Go.Proofs.YtmiacdacebaagaaDoor.G
open Go.RowKit Go.Proofs.YtmiacdacebaagaaDoor.B Go.Proofs.YtmiacdacebaagaaDoorW.PrintWords Go.Proofs.YtmiacdacebaagaaDoorW.PrintLast Go.Proofs.YtmiacdacebaagaaDoorW.PrintMore
def laidL : List (String × DataW Unit) := [("unicode.White_Space", Rows.laid_unicode_White_Space), ("strings.asciiSpace", Rows.laid_strings_asciiSpace)]
theorem gSpace : Tryd.prog.globalNamed "strings.asciiSpace" = some 0 := by kernel_rfl
theorem gSpaceT : (Tryd.prog.globals[0]?).map (·.type) = some 68 := by kernel_rfl
theorem cells68 : Tryd.prog.cellsOf 68 = 256 := by kernel_rfl
theorem cells5_ : Tryd.prog.cellsOf 5 = 1 := by kernel_rfl
theorem tab_of {W : World} (h : laidMetH Tryd.prog laidL W) : Tab W := by
  have h0 : laidMet Tryd.prog laidL W := h
  have h1 := Lib.laidMet.reads h0 (n := "strings.asciiSpace") (d := Rows.laid_strings_asciiSpace) (.tail _ (.head _))
  have e : (Rows.laid_strings_asciiSpace : DataW Unit) = Lib.tabData .u8 Lib.asciiSpaceTab := by kernel_rfl
  rw [e] at h1
  obtain ⟨g, t, cs, fuel, p, hg, ht, hv, hd⟩ := h1
  obtain rfl := Option.some.inj (gSpace.symm.trans hg)
  obtain rfl := Option.some.inj (gSpaceT.symm.trans ht)
  show W.var? Tryd.prog "strings.asciiSpace" = _
  rw [hv, ← Lib.cells_of_tab Tryd.underlying68 Tryd.underlying5 cells5_ cells68 hd]
def whiteR : List Int := [9, 13, 1, 32, 133, 101, 160, 5760, 5600, 8192, 8202, 1, 8232, 8233, 1, 8239, 8287, 48, 12288, 12288, 1]
noncomputable def laidWorld (os : Os) : World :=
  let N := (World.settled Tryd.prog os).heap.size
  let w0 := World.holding Tryd.prog os ⟨#[.cells (whiteR.map fun z => Value.int .u16 z).toArray 83, .cells #[.slice (some ⟨N, 0, none⟩) 7 7, .slice none 0 0, .int .i64 2] 80], #[], []⟩
  let put (h : Array Obj) (g : Nat) (cs : Array Value) : Array Obj := h.modify g fun
    | .cells _ t frozen => .cells cs t frozen
    | o => o
  let h1 := put w0.heap 0 (Lib.asciiSpaceTab.map fun z => Value.int .u8 z).toArray
  let h2 := put h1 1 #[.pointer (some ⟨N + 1, 0, none⟩)]
  { w0 with heap := h2 }
theorem laid_met (os : Os) (args : Array Value) : laidMet Tryd.prog laidL ((laidWorld os).forCall (fun _ _ => 0) ⟨#[], args, []⟩).memory :=
  laidMet_of_run' 10 (by kernel_rfl) (by kernel_rfl)
theorem own : ownKnob Tryd.prog.godebug = none := by kernel_rfl
theorem laidOut : laidOutB Tryd.prog = true := by kernel_rfl
theorem fit_of {H : Type} {ts : List TypeId} {ds : List (DataW H)} (h : (DataW.weightsEach Tryd.prog ts ds).all (· ≤ reachBytes) = true) {j : Nat} {t : TypeId} {d : DataW H} (ht : ts[j]? = some t) (hd : ds[j]? = some d) : Fit Tryd.prog t d := fun k hk => by
  have := List.all_eq_true.1 h k (DataW.weights_mem_each ht hd k hk)
  simpa using this
end Go.Proofs.YtmiacdacebaagaaDoor.G
set_option linter.unusedVariables false
set_option linter.unusedSimpArgs false
namespace Go.Proofs.YtmiacdacebaagaaDoor.G
open Go.RowKit Go.Proofs.YtmiacdacebaagaaDoor.B Go.Proofs.YtmiacdacebaagaaDoorW.PrintWords Go.Proofs.YtmiacdacebaagaaDoorW.PrintLast Go.Proofs.YtmiacdacebaagaaDoorW.PrintMore
theorem codeS_zero (p : PV) (f : S36) : ∀ (d pc : Nat), (codeS p f d pc).2 = 0 → ∀ k, pc ≤ k → k < pc + d → insnS p f (k : Int) = 0 := by
  intro d
  induction d with
  | zero => intro pc _ k h1 h2; omega
  | succ d ih =>
    intro pc h k h1 h2
    rw [codeS] at h
    by_cases h3 : insnS p f (pc : Int) = 0
    · rw [if_pos h3] at h
      rcases Nat.eq_or_lt_of_le h1 with rfl | h4
      · exact h3
      · exact ih (pc + 1) h k h4 (by omega)
    · rw [if_neg h3] at h
      exact absurd h h3
theorem fnsS_zero (p : PV) : ∀ (d n : Nat), (fnsS p d n).2.2 = 0 → ∀ k, n ≤ k → k < n + d → (fnS p (k : Int)).2 = 0 := by
  intro d
  induction d with
  | zero => intro n _ k h1 h2; omega
  | succ d ih =>
    intro n h k h1 h2
    rw [fnsS] at h
    by_cases h3 : (fnS p (n : Int)).2 = 0
    · rw [if_pos h3] at h
      rcases Nat.eq_or_lt_of_le h1 with rfl | h4
      · exact h3
      · exact ih (n + 1) h k h4 (by omega)
    · rw [if_neg h3] at h
      exact absurd h h3
structure FnOk (p : PV) (n : Int) (f : S36) : Prop where
  size : badSize f = false
  locals : f.f3.all (localOk p n) = true
  code : ∀ k : Nat, k < f.f4.length → insnS p f (k : Int) = 0
theorem fnS_zero {p : PV} {n : Int} (h : (fnS p n).2 = 0) : FnOk p n (rd_T36 p.fns n) := by
  unfold fnS at h
  by_cases h1 : badSize (rd_T36 p.fns n) = true
  · rw [if_pos h1] at h
    exact absurd h (by decide)
  · rw [if_neg h1] at h
    by_cases h2 : (rd_T36 p.fns n).f3.all (localOk p n) = true
    · rw [if_pos h2] at h
      exact ⟨by simpa using h1, h2, fun k hk => codeS_zero p _ _ 0 h k (Nat.zero_le _) (by omega)⟩
    · rw [if_neg h2] at h
      exact absurd h (by decide)
structure PrOk (p : PV) : Prop where
  fns : p.fns.length ≤ 200
  sites : p.sites.length ≤ 600
  main : 0 ≤ p.main ∧ p.main < (p.fns.length : Int)
  less : p.fns.length ≤ p.sites.length
  kinds : sitesS p p.sites.length 0 = true
  each : ∀ k : Nat, k < p.fns.length → FnOk p (k : Int) (rd_T36 p.fns (k : Int))
theorem chkS_zero {p : PV} (h : (chkS p).2.2 = 0) : PrOk p := by
  unfold chkS at h
  split at h
  · exact absurd h (by decide)
  split at h
  · exact absurd h (by decide)
  split at h
  · exact ⟨by omega, by omega, by omega, by omega, by assumption, fun k hk => fnS_zero (fnsS_zero p _ 0 h k (Nat.zero_le _) (by omega))⟩
  · exact absurd h (by decide)
theorem codeS_of (p : PV) (f : S36) : ∀ (d pc : Nat), (∀ k, pc ≤ k → k < pc + d → insnS p f (k : Int) = 0) → codeS p f d pc = (0, 0) := by
  intro d
  induction d with
  | zero => intro pc _; rfl
  | succ d ih =>
    intro pc h
    rw [codeS, if_pos (h pc (Nat.le_refl _) (by omega))]
    exact ih (pc + 1) (fun k h1 h2 => h k (by omega) (by omega))
theorem fnsS_of (p : PV) : ∀ (d n : Nat), (∀ k, n ≤ k → k < n + d → (fnS p (k : Int)).2 = 0) → fnsS p d n = (0, 0, 0) := by
  intro d
  induction d with
  | zero => intro n _; rfl
  | succ d ih =>
    intro n h
    rw [fnsS, if_pos (h n (Nat.le_refl _) (by omega))]
    exact ih (n + 1) (fun k h1 h2 => h k (by omega) (by omega))
theorem fnS_of {p : PV} {n : Int} (h : FnOk p n (rd_T36 p.fns n)) : fnS p n = (0, 0) := by
  unfold fnS
  rw [if_neg (by rw [h.size]; simp), if_pos h.locals]
  exact codeS_of p _ _ 0 (fun k _ h2 => h.code k (by omega))
theorem chkS_of {p : PV} (h : PrOk p) : chkS p = (0, 0, 0) := by
  unfold chkS
  rw [if_neg (by have := h.fns; have := h.sites; omega), if_neg (by have := h.main; have := h.less; omega), if_pos h.kinds]
  exact fnsS_of p _ 0 (fun k _ h2 => by rw [fnS_of (h.each k (by omega))])
structure InOk (p : PV) (f : S36) (i : S39) (pc : Int) : Prop where
  op : 1 ≤ i.f0 ∧ i.f0 ≤ 20
  reads : (readsI i).any (badR f.f1) = false
  writes : wr i.f0 = true → badR f.f1 i.f1 = false
  fits : fitsS p i = true
  jump : ((i.f0 == 17 || i.f0 == 18) && badR f.f4.length i.f5) = false
  next : (nextS i pc).any (badR f.f4.length) = false
theorem insnS_zero {p : PV} {f : S36} {pc : Int} (h : insnS p f pc = 0) : InOk p f (rd_T39 f.f4 pc) pc := by
  unfold insnS at h
  generalize rd_T39 f.f4 pc = i at h ⊢
  split at h
  · exact absurd h (by decide)
  rename_i h1
  split at h
  · exact absurd h (by decide)
  rename_i h2
  split at h
  · exact absurd h (by decide)
  rename_i h3
  unfold wrongA at h2
  unfold wrongB at h3
  simp only [Bool.not_eq_true, Bool.or_eq_false_iff] at h2 h3
  refine ⟨by omega, h2.1.1, fun hw => ?_, by simpa using h2.2, h3.1, h3.2⟩
  have := h2.1.2
  rw [hw] at this
  simpa using this
theorem insnS_of {p : PV} {f : S36} {pc : Int} (h : InOk p f (rd_T39 f.f4 pc) pc) : insnS p f pc = 0 := by
  unfold insnS
  generalize rd_T39 f.f4 pc = i at h ⊢
  have hw : (wr i.f0 && badR f.f1 i.f1) = false := by
    cases hh : wr i.f0 with
    | true => rw [h.writes hh]; rfl
    | false => rfl
  rw [if_neg (by have := h.op; omega), if_neg (by unfold wrongA; rw [h.reads, hw, h.fits]; simp), if_neg (by unfold wrongB; rw [h.jump, h.next]; simp)]
theorem badR_in {m r : Int} (h : badR m r = false) : 0 ≤ r ∧ r < m := by
  unfold badR at h
  simp at h
  omega
end Go.Proofs.YtmiacdacebaagaaDoor.G
set_option linter.unusedVariables false
set_option linter.unusedSimpArgs false
namespace Go.Proofs.YtmiacdacebaagaaDoor.G
open Go.RowKit Go.Proofs.YtmiacdacebaagaaDoor.B Go.Proofs.YtmiacdacebaagaaDoorW.PrintWords Go.Proofs.YtmiacdacebaagaaDoorW.PrintLast Go.Proofs.YtmiacdacebaagaaDoorW.PrintMore
def retI : S39 := ⟨19, -1, 0, 0, 0, 0, ⟨#[]⟩, []⟩
def moreF (f : S36) : S36 := ⟨f.f0, f.f1 + 1, f.f2, f.f3, f.f4 ++ [retI]⟩
def PV.with (p : PV) (l : List S36) (A : Option Addr) (c : Nat) : PV := ⟨p.sites, l, p.main, p.A0, p.c0, A, c⟩
theorem rd36_set (l : List S36) (n : Nat) (g : S36) (k : Nat) (hk : k < l.length) : rd_T36 (l.set n g) (k : Int) = if n = k then g else rd_T36 l (k : Int) := by
  rw [rd36_mem _ _ (by simpa using hk), rd36_mem _ _ hk, List.getElem_set]
theorem fits_with (p : PV) (l : List S36) (A : Option Addr) (c : Nat) (hl : l.length = p.fns.length) (hp : ∀ k : Nat, k < p.fns.length → (rd_T36 l (k : Int)).f2 = (rd_T36 p.fns (k : Int)).f2) (i : S39) : fitsS (p.with l A c) i = fitsS p i := by
  by_cases h15 : i.f0 = 15
  · unfold fitsS PV.with
    simp only [h15]
    simp only [hl]
    by_cases h0 : 0 ≤ i.f5
    · by_cases h1 : i.f5 < (p.fns.length : Int)
      · obtain ⟨k, hk⟩ : ∃ k : Nat, i.f5 = (k : Int) := ⟨i.f5.toNat, by omega⟩
        have := hp k (by omega)
        rw [hk, this]
      · have : decide (i.f5 < (p.fns.length : Int)) = false := decide_eq_false h1
        simp [this]
    · have : decide (0 ≤ i.f5) = false := decide_eq_false h0
      simp [this]
  · unfold fitsS PV.with
    simp [h15]
theorem sites_with (p : PV) (l : List S36) (A : Option Addr) (c : Nat) (hl : l.length = p.fns.length) : ∀ d n, sitesS (p.with l A c) d n = sitesS p d n := by
  intro d
  induction d with
  | zero => intro n; rfl
  | succ d ih =>
    intro n
    rw [sitesS, sitesS, ih]
    show (if ((rd_T48 p.sites n).f0 == 4) = decide ((n : Int) < l.length) then _ else false) = _
    rw [hl]
theorem badR_more {m m' r : Int} (h : badR m r = false) (hm : m ≤ m') : badR m' r = false := by
  have := badR_in h
  unfold badR
  simp
  omega
theorem any_more {m m' : Int} (hm : m ≤ m') {l : List Int} (h : l.any (badR m) = false) : l.any (badR m') = false := by
  rw [List.any_eq_false] at h ⊢
  intro x hx
  have := h x hx
  rw [badR_more (by simpa using this) hm]
  simp
theorem rd39_app (l : List S39) (x : S39) (k : Nat) (hk : k < l.length) : rd_T39 (l ++ [x]) (k : Int) = rd_T39 l (k : Int) := by
  rw [rd39_mem _ _ (by simp; omega), rd39_mem _ _ hk, List.getElem_append_left hk]
theorem rd39_last (l : List S39) (x : S39) : rd_T39 (l ++ [x]) (l.length : Int) = x := by
  rw [rd39_mem _ _ (by simp)]
  simp
theorem inOk_ret (p : PV) (f : S36) (pc : Int) : InOk p f retI pc := by
  refine ⟨by decide, ?_, ?_, ?_, ?_, ?_⟩
  · simp [readsI, readsS, rowS, retI, stepR]
  · intro h; exact absurd h (by decide)
  · simp [fitsS, retI]
  · rfl
  · simp [nextS, retI]
theorem more_ok {p : PV} (h : PrOk p) (n : Nat) (hn : n < p.fns.length) (hc : (rd_T36 p.fns (n : Int)).f4.length < 4000) (hr : (rd_T36 p.fns (n : Int)).f1 < 4000) (A : Option Addr) (c : Nat) :
    PrOk (p.with (p.fns.set n (moreF (rd_T36 p.fns (n : Int)))) A c) := by
  have hl : (p.fns.set n (moreF (rd_T36 p.fns (n : Int)))).length = p.fns.length := by simp
  have hfit := fits_with p _ A c hl (fun k hk => by
    rw [rd36_set _ _ _ _ hk]
    split
    · rename_i e; subst e; rfl
    · rfl)
  generalize hp' : p.with (p.fns.set n (moreF (rd_T36 p.fns (n : Int)))) A c = p' at hfit
  have e1 : p'.fns = p.fns.set n (moreF (rd_T36 p.fns (n : Int))) := by rw [← hp']; rfl
  have e2 : p'.sites = p.sites := by rw [← hp']; rfl
  have e3 : p'.main = p.main := by rw [← hp']; rfl
  refine ⟨by rw [e1, hl]; exact h.fns, by rw [e2]; exact h.sites, by rw [e3, e1, hl]; exact h.main, by rw [e1, e2, hl]; exact h.less, ?_, ?_⟩
  · rw [e2, ← hp', sites_with p _ A c hl]
    exact h.kinds
  · intro k hk
    rw [e1, hl] at hk
    rw [e1, rd36_set _ _ _ _ hk]
    have hloc : ∀ s, localOk p' (k : Int) s = localOk p (k : Int) s := fun s => by unfold localOk; rw [e2]
    have hins : ∀ f pc, insnS p' f pc = insnS p f pc := fun f pc => by unfold insnS wrongA; rw [hfit]
    have hF := h.each k hk
    split
    · rename_i e
      subst e
      generalize rd_T36 p.fns (n : Int) = f at hF hc hr
      have hsz := (badSize_not f).1 hF.size
      refine ⟨(badSize_not _).2 ?_, ?_, ?_⟩
      · show (f.f4 ++ [retI]).length ≤ 4000 ∧ (f.f4 ++ [retI]).length ≠ 0 ∧ f.f1 + 1 ≤ 4000 ∧ f.f2 ≤ f.f1 + 1 ∧ 0 ≤ f.f2
        rw [List.length_append, List.length_singleton]
        omega
      · show f.f3.all (localOk p' (n : Int)) = true
        rw [show localOk p' (n : Int) = localOk p (n : Int) from funext hloc]
        exact hF.locals
      · intro j hj
        have hj' : j < f.f4.length + 1 := by
          have : (moreF f).f4.length = f.f4.length + 1 := by simp [moreF]
          omega
        rw [hins]
        refine insnS_of ?_
        show InOk p (moreF f) (rd_T39 (f.f4 ++ [retI]) (j : Int)) (j : Int)
        rcases Nat.lt_or_ge j f.f4.length with hlt | hge
        · rw [rd39_app _ _ _ hlt]
          have hi := insnS_zero (hF.code j hlt)
          have hm : (f.f4.length : Int) ≤ ((moreF f).f4.length : Int) := by simp [moreF]; omega
          have hm1 : f.f1 ≤ (moreF f).f1 := by show f.f1 ≤ f.f1 + 1; omega
          refine ⟨hi.op, any_more hm1 hi.reads, fun hw => badR_more (hi.writes hw) hm1, hi.fits, ?_, any_more hm hi.next⟩
          have hj1 := hi.jump
          cases hq : ((rd_T39 f.f4 (j : Int)).f0 == 17 || (rd_T39 f.f4 (j : Int)).f0 == 18) with
          | true =>
            rw [hq, Bool.true_and] at hj1
            rw [Bool.true_and]
            exact badR_more hj1 hm
          | false => rfl
        · obtain rfl : j = f.f4.length := by omega
          rw [rd39_last]
          exact inOk_ret p (moreF f) _
    · exact ⟨hF.size, by rw [show localOk p' (k : Int) = localOk p (k : Int) from funext hloc]; exact hF.locals, fun j hj => by rw [hins]; exact hF.code j hj⟩
theorem more_wf {p : PV} (h : WfP p) (n : Nat) (hn : n < p.fns.length) (A : Option Addr) (c : Nat) : WfP (p.with (p.fns.set n (moreF (rd_T36 p.fns (n : Int)))) A c) := by
  intro f hf
  have hf' : f ∈ p.fns.set n (moreF (rd_T36 p.fns (n : Int))) := hf
  rcases List.mem_or_eq_of_mem_set hf' with hm | rfl
  · exact h f hm
  · have h1 := h _ (List.getElem_mem hn)
    rw [← rd36_mem _ _ hn] at h1
    refine ⟨h1.1, fun i hi => ?_⟩
    have hi' : i ∈ (rd_T36 p.fns (n : Int)).f4 ++ [retI] := hi
    rcases List.mem_append.1 hi' with hi2 | hi2
    · exact h1.2 i hi2
    · obtain rfl : i = retI := by simpa using hi2
      decide
end Go.Proofs.YtmiacdacebaagaaDoor.G
set_option linter.unusedVariables false
namespace Go.Proofs.YtmiacdacebaagaaDoor.G
open Go.RowKit Go.Proofs.YtmiacdacebaagaaDoor.B Go.Proofs.YtmiacdacebaagaaDoorW.PrintWords Go.Proofs.YtmiacdacebaagaaDoorW.PrintLast Go.Proofs.YtmiacdacebaagaaDoorW.PrintMore
structure Flat {α : Type} (d : Kd α) (W : World) (l : List α) (news : List Value) : Prop where
  len : news.length = l.length * d.sz
  one : ∀ u ∈ news, u.oneCell' = true
  each : ∀ (k : Nat) x, l[k]? = some x → ∃ c : List Value, c.length = d.sz ∧ d.K W x c ∧ ∀ i, i < d.sz → news[k * d.sz + i]? = c[i]?
section
variable {α : Type} {d : Kd α} {W W1 : World} {l : List α} {news : List Value}
theorem Flat.nil : Flat d W [] [] := ⟨by simp, by simp, by simp⟩
theorem Flat.snoc {x : α} {c : List Value} (h : Flat d W l news) (hK : d.K W x c) : Flat d W (l ++ [x]) (news ++ c) := by
  have hc := d.K_len hK
  refine ⟨by rw [List.length_append, List.length_append, h.len, hc, List.length_singleton, Nat.add_mul, Nat.one_mul], fun u hu => ?_, fun k y hy => ?_⟩
  · rcases List.mem_append.1 hu with hu | hu
    · exact h.one u hu
    · exact d.K_one hK u hu
  · rcases Nat.lt_or_ge k l.length with hk | hk
    · rw [List.getElem?_append_left hk] at hy
      obtain ⟨c1, h1, h2, h3⟩ := h.each k y hy
      refine ⟨c1, h1, h2, fun i hi => ?_⟩
      have : k * d.sz + i < news.length := by
        rw [h.len]
        have := Nat.mul_le_mul_right d.sz (show k + 1 ≤ l.length by omega)
        rw [Nat.add_mul, Nat.one_mul] at this
        omega
      rw [List.getElem?_append_left this, h3 i hi]
    · have hkl : k = l.length := by
        have := (List.getElem?_eq_some_iff.1 hy).1
        simp at this
        omega
      subst hkl
      obtain rfl : x = y := by simpa using hy
      refine ⟨c, hc, hK, fun i hi => ?_⟩
      rw [List.getElem?_append_right (by rw [h.len]; omega), h.len]
      congr 1
      omega
theorem Flat.below (h : Flat d W l news) (hb : Below W.heap.size W W1) : Flat d W1 l news :=
  ⟨h.len, h.one, fun k x hx => let ⟨c, h1, h2, h3⟩ := h.each k x hx; ⟨c, h1, d.K_below hb h2, h3⟩⟩
theorem Flat.set {k : Nat} {x : α} {c : List Value} (h : Flat d W l news) (hk : k < l.length) (hK : d.K W x c) {news' : List Value} (hl : news'.length = news.length)
    (h1 : ∀ i, i < d.sz → news'[k * d.sz + i]? = c[i]?) (h2 : ∀ j, j < k * d.sz ∨ k * d.sz + d.sz ≤ j → news'[j]? = news[j]?) : Flat d W (l.set k x) news' := by
  have hc := d.K_len hK
  refine ⟨by rw [hl, h.len, List.length_set], fun u hu => ?_, fun m y hy => ?_⟩
  · obtain ⟨j, hj⟩ := List.getElem?_of_mem hu
    by_cases hin : j < k * d.sz ∨ k * d.sz + d.sz ≤ j
    · rw [h2 j hin] at hj
      exact h.one u (List.mem_of_getElem? hj)
    · have := h1 (j - k * d.sz) (by omega)
      rw [show k * d.sz + (j - k * d.sz) = j by omega, hj] at this
      exact d.K_one hK u (List.mem_of_getElem? this.symm)
  · by_cases hm : k = m
    · subst hm
      rw [List.getElem?_set_self hk] at hy
      obtain rfl : x = y := by simpa using hy
      exact ⟨c, hc, hK, h1⟩
    · rw [List.getElem?_set_ne hm] at hy
      obtain ⟨c1, g1, g2, g3⟩ := h.each m y hy
      refine ⟨c1, g1, g2, fun i hi => ?_⟩
      rw [h2 (m * d.sz + i) ?_, g3 i hi]
      rcases Nat.lt_or_ge m k with hlt | hge
      · left
        have := Nat.mul_le_mul_right d.sz (show m + 1 ≤ k by omega)
        rw [Nat.add_mul, Nat.one_mul] at this
        omega
      · right
        have := Nat.mul_le_mul_right d.sz (show k + 1 ≤ m by omega)
        rw [Nat.add_mul, Nat.one_mul] at this
        omega
end
theorem flat_of {α : Type} {d : Kd α} {W : World} {ad : Addr} : ∀ (n : Nat) (l : List α), l.length = n → (∀ (j : Nat) p, l[j]? = some p → ∃ c : List Value, c.length = d.sz ∧ d.K W p c ∧ ∀ (i : Nat) u, c[i]? = some u → W.cell? (ad.add (j * d.sz + i)) = some u) →
    ∃ news, Flat d W l news ∧ ∀ (j : Nat) u, news[j]? = some u → W.cell? (ad.add j) = some u := by
  intro n
  induction n with
  | zero =>
    intro l hl _
    obtain rfl : l = [] := List.eq_nil_of_length_eq_zero hl
    exact ⟨[], Flat.nil, by simp⟩
  | succ n ih =>
    intro l hl h
    have hne : l ≠ [] := by intro e; rw [e] at hl; simp at hl
    have hsp := List.dropLast_concat_getLast hne
    have hdl : l.dropLast.length = n := by rw [List.length_dropLast]; omega
    obtain ⟨news, hF, hc⟩ := ih l.dropLast hdl (fun j p hj => h j p (by
      rw [← hsp, List.getElem?_append_left (List.getElem?_eq_some_iff.1 hj).1]
      exact hj))
    obtain ⟨c, h1, h2, h3⟩ := h n (l.getLast hne) (by
      conv => lhs; rw [← hsp]
      rw [List.getElem?_append_right (by omega), hdl]
      simp)
    have hF2 := hF.snoc h2
    rw [hsp] at hF2
    refine ⟨news ++ c, hF2, fun j u hu => ?_⟩
    rcases Nat.lt_or_ge j news.length with hj | hj
    · rw [List.getElem?_append_left hj] at hu
      exact hc j u hu
    · rw [List.getElem?_append_right hj] at hu
      have := h3 _ u hu
      rw [hF.len, hdl] at this hj
      rw [show n * d.sz + (j - n * d.sz) = j by omega] at this
      exact this
theorem flat_C {α : Type} {d : Kd α} {W : World} {ad : Addr} {l : List α} {n : Nat} (h : Kd.C d W (some ad) n l) (hn : 0 < n) : ∃ news, Flat d W l news ∧ ∀ (j : Nat) u, news[j]? = some u → W.cell? (ad.add j) = some u := by
  obtain ⟨ad', e, hc⟩ := h.2.2 hn
  injection e with e
  subst e
  exact flat_of l.length l rfl hc
theorem C_flat {α : Type} {d : Kd α} {W : World} {g : Nat} {l : List α} {news : List Value} (h : Flat d W l news) (hm : l.length ≤ 9223372036854775807) (hc : ∀ (j : Nat) u, news[j]? = some u → W.cell? ⟨g, j, none⟩ = some u) : Kd.C d W (some ⟨g, 0, none⟩) l.length l := by
  refine ⟨rfl, hm, fun _ => ⟨_, rfl, fun j p hj => ?_⟩⟩
  obtain ⟨c, h1, h2, h3⟩ := h.each j p hj
  refine ⟨c, h1, h2, fun i u hu => ?_⟩
  rw [add_plain]
  refine hc _ u ?_
  rw [h3 i (by rw [← h1]; exact (List.getElem?_eq_some_iff.1 hu).1)]
  exact hu
section
variable {w : World} {base e size g n cap : Nat} {xs : List Value}
theorem own_cells (h : w.ownsRow base e size (.slice (some ⟨g, 0, none⟩) n cap) n xs) : ∀ (j : Nat) u, xs[j]? = some u → w.cell? ⟨g, j, none⟩ = some u := fun j u hu => by
  have hj := (List.getElem?_eq_some_iff.1 hu).1
  rw [h.1] at hj
  rw [h.cellAt j hj]
  exact hu
theorem own_cap (h : w.ownsRow base e size (.slice (some ⟨g, 0, none⟩) n cap) n xs) : n ≤ cap := by
  rcases h.2 with ⟨h', _⟩ | ⟨g', cap', cur, h', _, _, hc, _⟩
  · cases h'
  · injection h' with _ _ h3
    rw [h3]
    exact hc
theorem own_put5 (h : w.ownsRow base e size (.slice (some ⟨g, 0, none⟩) n cap) n xs) (m : Nat) (a b c d f : Value) :
    (((((w.setCell ⟨g, m, none⟩ a).setCell ⟨g, m + 1, none⟩ b).setCell ⟨g, m + 2, none⟩ c).setCell ⟨g, m + 3, none⟩ d).setCell ⟨g, m + 4, none⟩ f).ownsRow base e size (.slice (some ⟨g, 0, none⟩) n cap) n (((((xs.set m a).set (m + 1) b).set (m + 2) c).set (m + 3) d).set (m + 4) f) :=
  (((((h.stored m a).1.stored (m + 1) b).1.stored (m + 2) c).1.stored (m + 3) d).1.stored (m + 4) f).1
end
theorem far5 (w : World) (g m k : Nat) (a b c d f : Value) (hk : ¬ k = g) :
    (((((w.setCell ⟨g, m, none⟩ a).setCell ⟨g, m + 1, none⟩ b).setCell ⟨g, m + 2, none⟩ c).setCell ⟨g, m + 3, none⟩ d).setCell ⟨g, m + 4, none⟩ f).heap[k]? = w.heap[k]? := by
  rw [Below.heap_setCell _ _ _ k hk, Below.heap_setCell _ _ _ k hk, Below.heap_setCell _ _ _ k hk, Below.heap_setCell _ _ _ k hk, Below.heap_setCell _ _ _ k hk]
theorem kp_put {w W : World} {g : Nat} (h : Kp w W (fun k => k = g)) (i : Nat) (u : Value) : Kp w (W.setCell ⟨g, i, none⟩ u) (fun k => k = g) := h.setCell (p := ⟨g, i, none⟩) (.inl rfl) u
theorem kp5 (w : World) (g m : Nat) (a b c d f : Value) :
    Kp w (((((w.setCell ⟨g, m, none⟩ a).setCell ⟨g, m + 1, none⟩ b).setCell ⟨g, m + 2, none⟩ c).setCell ⟨g, m + 3, none⟩ d).setCell ⟨g, m + 4, none⟩ f) (fun k => k = g) :=
  kp_put (kp_put (kp_put (kp_put (kp_put (Kp.refl w _) m a) (m + 1) b) (m + 2) c) (m + 3) d) (m + 4) f
theorem set5 (l : List Value) (m : Nat) (a b c d e : Value) (h : m + 5 ≤ l.length) :
    (∀ i, i < 5 → (((((l.set m a).set (m + 1) b).set (m + 2) c).set (m + 3) d).set (m + 4) e)[m + i]? = ([a, b, c, d, e] : List Value)[i]?) ∧
    (∀ j, j < m ∨ m + 5 ≤ j → (((((l.set m a).set (m + 1) b).set (m + 2) c).set (m + 3) d).set (m + 4) e)[j]? = l[j]?) ∧
    (((((l.set m a).set (m + 1) b).set (m + 2) c).set (m + 3) d).set (m + 4) e).length = l.length := by
  refine ⟨fun i hi => ?_, fun j hj => ?_, by simp⟩
  · have h0 : m < l.length := by omega
    have h1 : m + 1 < l.length := by omega
    have h2 : m + 2 < l.length := by omega
    have h3 : m + 3 < l.length := by omega
    have h4 : m + 4 < l.length := by omega
    rcases i with _ | _ | _ | _ | _ | i
    · simp [h0]
    · simp [h1]
    · simp [h2]
    · simp [h3]
    · simp [h4]
    · omega
  · rw [List.getElem?_set_ne (by omega), List.getElem?_set_ne (by omega), List.getElem?_set_ne (by omega), List.getElem?_set_ne (by omega), List.getElem?_set_ne (by omega)]
end Go.Proofs.YtmiacdacebaagaaDoor.G
set_option linter.unusedVariables false
set_option linter.unusedSimpArgs false
namespace Go.Proofs.YtmiacdacebaagaaDoor.G
open Go.RowKit Go.Proofs.YtmiacdacebaagaaDoor.B Go.Proofs.YtmiacdacebaagaaDoorW.PrintWords Go.Proofs.YtmiacdacebaagaaDoorW.PrintLast Go.Proofs.YtmiacdacebaagaaDoorW.PrintMore
def zv39 : Value := .agg #[.int .i64 0, .int .i64 0, .int .i64 0, .int .i64 0, .int .i64 0, .int .i64 0, .string ⟨#[]⟩, .slice none 0 0]
theorem info39 : (Tryd.prog.info? 39).map (fun i => (i.zero, i.size, i.bytes)) = some (some zv39, 8, 88) := by kernel_rfl
def zv36 : Value := .agg #[.string ⟨#[]⟩, .int .i64 0, .int .i64 0, .slice none 0 0, .slice none 0 0]
theorem info36 : (Tryd.prog.info? 36).map (fun i => (i.zero, i.size, i.bytes)) = some (some zv36, 5, 80) := by kernel_rfl
theorem ret_one : ∀ u ∈ ([.int .i64 19, .int .i64 (-1), .int .i64 0, .int .i64 0, .int .i64 0, .int .i64 0, .string ⟨#[]⟩, .slice none 0 0] : List Value), u.oneCell' = true := by decide
theorem ob_eq {a : Addr} {n c k : Nat} (h : (Value.slice (some a) n c).ownBlock = some k) : a.block = k := by simpa [Value.ownBlock] using h
theorem at_le {g0 g H n c b : Nat} (h : (Value.slice (some ⟨g0, 0, none⟩) n c).ownBlock = some g ∨ g = H) (h0 : b ≤ g0) (h1 : b ≤ H) : b ≤ g := by
  rcases h with h | h
  · have := ob_eq h
    exact this ▸ h0
  · omega
set_option maxRecDepth 100000 in
set_option maxHeartbeats 8000000 in
theorem IrMore_calls0 (p : PV) (A1 : Option Addr) (e1 : p.A1 = A1) (x : Int) (w : World) (h : RdP w p) (hg : Tab w) (hwf : WfP p) (hx0 : 0 ≤ x) (hx1 : x ≤ 255) :
    Calls Tryd.prog 5 #[.agg #[.slice p.A0 p.sites.length p.c0, .slice A1 p.fns.length p.c1, .int .i64 p.main], .int .u8 x] w fun e w' => e = .returned (.bool true) ∧ Below w.heap.size w w' := by
  have HP := Aside0.mk h
  have HE1 := Aside0.mk e1
  have HG := Aside0.mk hg
  have HW := Aside0.mk hwf
  have HCc : Aside0 (∀ (W2 : World), Below w.heap.size w W2 → Calls Tryd.prog 7 #[.agg #[.slice p.A0 p.sites.length p.c0, .slice A1 p.fns.length p.c1, .int .i64 p.main]] W2 fun e w' => e = .returned (.tuple #[.int .i64 (chkS p).1, .int .i64 (chkS p).2.1, .int .i64 (chkS p).2.2]) ∧ Below W2.heap.size W2 w') :=
    Aside0.mk (fun W2 hb => by rw [← e1]; exact chk_c p W2 (h.below hb) (hg.below hb) hwf)
  clear h hg hwf e1
  go_enter Tryd.func5, Tryd.ntmps5
  go_upto_region 1 with (fail)
  have HX := Aside0.mk (blk_new w (.cells #[.slice p.A0 p.sites.length p.c0, .slice A1 p.fns.length p.c1, .int .i64 p.main] 25))
  have HB := Aside0.mk (below_alloc (Below.refl w.heap.size w) (.cells #[.slice p.A0 p.sites.length p.c0, .slice A1 p.fns.length p.c1, .int .i64 p.main] 25))
  generalize w.alloc (.cells #[.slice p.A0 p.sites.length p.c0, .slice A1 p.fns.length p.c1, .int .i64 p.main] 25) = V at HX HB ⊢
  generalize hgx : w.heap.size = gx at HX ⊢
  go_wp2_with fail
  refine (shown_calls _).mono ?_
  rintro e w1 ⟨rfl, hk⟩
  replace HX := Aside0.mk (blk_below HX.out hk)
  replace HB := Aside0.mk (below_step HB.out hk)
  clear hk
  obtain ⟨x0, x1, x2⟩ := cell3 HX.out
  go_wp2_with fail
  refine (HCc.out _ HB.out).mono ?_
  rintro e w2 ⟨rfl, hk⟩
  replace HX := Aside0.mk (blk_below HX.out hk)
  replace HB := Aside0.mk (below_step HB.out hk)
  clear hk x0 x1 x2 HCc
  obtain ⟨x0, x1, x2⟩ := cell3 HX.out
  cases e2 : ((chkS p).2.2 != 0) with
  | true =>
    go_wp2_with fail
    go_ret
    exact ⟨rfl, hgx ▸ HB.out⟩
  | false =>
    have hok : PrOk p := chkS_zero (by simpa using e2)
    have HOK := Aside0.mk hok
    have hm1 := hok.main
    have hf0 : ((p.fns.length : Int) == 0) = false := beq_eq_false_iff_ne.mpr (by omega)
    have HPOS : Aside0 (0 < p.fns.length ∧ p.fns.length ≤ 200) := Aside0.mk ⟨by omega, hok.fns⟩
    have hne : ¬ (p.fns.length : Int) = 0 := by omega
    clear hok hm1
    go_upto_region 6 with (fail)
    clear hf0 hne e2
    have HX0 := HX
    obtain ⟨n, hn⟩ : ∃ n : Nat, x % (p.fns.length : Int) = (n : Int) := ⟨(x % (p.fns.length : Int)).toNat, by have := Int.emod_nonneg x (show (p.fns.length : Int) ≠ 0 by have := HPOS.out; omega); omega⟩
    have hnl : n < p.fns.length := by have := Int.emod_lt_of_pos x (show (0 : Int) < (p.fns.length : Int) by have := HPOS.out; omega); omega
    rw [hn]
    clear hn hx0 hx1
    have HNL := Aside0.mk hnl
    clear hnl
    obtain ⟨ad, hA⟩ : ∃ ad, p.A1 = some ad := by
      obtain ⟨ad, h1, _⟩ := HP.out.fns.2.2 HPOS.out.1
      exact ⟨ad, h1⟩
    obtain rfl : A1 = some ad := HE1.out.symm.trans hA
    have hCF := HP.out.fns
    rw [hA] at hCF
    obtain ⟨news, hF, hN⟩ := flat_C hCF HPOS.out.1
    have HF := Aside0.mk hF
    have HN := Aside0.mk hN
    clear hA hCF hF hN
    have x1' := (cell3 (blk_alloc HX.out (.cells #[] 36))).2.1
    have hCW : Below w2.heap.size w2 (w2.alloc (.cells #[] 36)) := below_alloc (Below.refl _ _) _
    obtain ⟨i36, hi36, hz36⟩ := Option.map_eq_some_iff.1 info36
    simp only [Prod.mk.injEq] at hz36
    go_upto_region 7 with (at_builtin; refine wpList_append_lies (w2.alloc (.cells #[] 36)) rfl (.tmp 37) (.tmp 39) 23 rfl w2.heap.size 36 i36 zv36 5 80 Tryd.underlying23 hi36 hz36.1 hz36.2.1 hz36.2.2 rfl (by decide) (.slice (some ⟨w2.heap.size, 0, none⟩) 0 0) 0 [] rfl (World.ownsRow_lit w2 #[] 0 (Nat.le_refl _) (by decide) rfl) ad p.fns.length p.c1 news rfl HF.out.len (fun j u hu => pw_cell_below hCW (pw_cell_below HB.out (HN.out j u hu))) HF.out.one HPOS.out.1 (by have := HPOS.out.2; unfold maxLen; omega) (by have := HPOS.out.2; omega) (by simp) (w2.heap.size + 1) (by simp) ?_; intro gF cap w3 hown hgrow hat hlt; clear x0 x1 x2 x1'; rw [Nat.zero_add, List.nil_append] at hown; rw [Nat.zero_add])
    have hB3 : Below w2.heap.size w2 w3 := hCW.grown hgrow (by simp) (fun k hk => Nat.le_of_eq (ob_eq hk))
    have hgF : w2.heap.size ≤ gF := at_le hat (Nat.le_refl _) (by omega)
    have HO := Aside0.mk hown
    have HB3 := Aside0.mk hB3
    have HGF := Aside0.mk (And.intro hgF hlt)
    clear hown hgrow hat hlt hCW hi36 hz36 hB3 hgF
    replace HX := Aside0.mk (blk_below HX.out HB3.out)
    obtain ⟨c, hc5, hK, hci⟩ := HF.out.each n (rd_T36 p.fns (n : Int)) (by rw [rd36_mem _ _ HNL.out]; exact List.getElem?_eq_getElem _)
    have HWF := Aside0.mk (show WfF (rd_T36 p.fns (n : Int)) by rw [rd36_mem _ _ HNL.out]; exact HW.out _ (List.getElem_mem _))
    generalize hf : rd_T36 p.fns (n : Int) = f at hK HWF
    have HEF := Aside0.mk hf
    obtain ⟨A3, c3, A4, c4, rfl, hl3, hC3, hl4, hC4⟩ := k36_open hK
    have hn5 : n * 5 + 5 ≤ p.fns.length * 5 := by have := HNL.out; omega
    have hq : ∀ i, i < 5 → w3.cell? ⟨gF, n * 5 + i, none⟩ = ([.string f.f0, .int .i64 f.f1, .int .i64 f.f2, .slice A3 f.f3.length c3, .slice A4 f.f4.length c4] : List Value)[i]? := fun i hi => (HO.out.cellAt (n * 5 + i) (by omega)).trans (hci i hi)
    have q0 : w3.cell? ⟨gF, n * 5, none⟩ = some (.string f.f0) := hq 0 (by decide)
    have q1 : w3.cell? ⟨gF, n * 5 + 1, none⟩ = some (.int .i64 f.f1) := hq 1 (by decide)
    have q2 : w3.cell? ⟨gF, n * 5 + 2, none⟩ = some (.int .i64 f.f2) := hq 2 (by decide)
    have q3 : w3.cell? ⟨gF, n * 5 + 3, none⟩ = some (.slice A3 f.f3.length c3) := hq 3 (by decide)
    have q4 : w3.cell? ⟨gF, n * 5 + 4, none⟩ = some (.slice A4 f.f4.length c4) := hq 4 (by decide)
    have HCI := Aside0.mk hci
    clear hf hK hci hq hc5
    have hnl : (n : Int) < (p.fns.length : Int) := by have := HNL.out; omega
    have hn0 : (0 : Int) ≤ (n : Int) := Int.natCast_nonneg n
    go_upto_region 8 with (fail)
    clear q0 q1 q2 q3 q4 hn0 hnl
    have HC3 := Aside0.mk hC3
    have HC4 := Aside0.mk hC4
    have HL := Aside0.mk (And.intro hl3 hl4)
    clear hC3 hC4 hl3 hl4
    have HY := Aside0.mk (blk_new w3 (.cells #[.string f.f0, .int .i64 f.f1, .int .i64 f.f2, .slice A3 f.f3.length c3, .slice A4 f.f4.length c4] 36))
    have HB4 := Aside0.mk (below_alloc HB3.out (.cells #[.string f.f0, .int .i64 f.f1, .int .i64 f.f2, .slice A3 f.f3.length c3, .slice A4 f.f4.length c4] 36))
    replace HX := Aside0.mk (blk_alloc HX.out (.cells #[.string f.f0, .int .i64 f.f1, .int .i64 f.f2, .slice A3 f.f3.length c3, .slice A4 f.f4.length c4] 36))
    replace HO := Aside0.mk (HO.out.alloc (.cells #[.string f.f0, .int .i64 f.f1, .int .i64 f.f2, .slice A3 f.f3.length c3, .slice A4 f.f4.length c4] 36))
    have HSY := Aside0.mk (show w3.heap.size < (w3.alloc (.cells #[.string f.f0, .int .i64 f.f1, .int .i64 f.f2, .slice A3 f.f3.length c3, .slice A4 f.f4.length c4] 36)).heap.size by simp)
    have HGX := Aside0.mk (show gx < w2.heap.size by have := HB.out.size; have := blk_lt HX0.out; omega)
    generalize w3.alloc (.cells #[.string f.f0, .int .i64 f.f1, .int .i64 f.f2, .slice A3 f.f3.length c3, .slice A4 f.f4.length c4] 36) = w4 at HX HY HO HB4 HSY ⊢
    have HFY := Aside0.mk (show gF < w3.heap.size ∧ w2.heap.size ≤ w3.heap.size from ⟨HGF.out.2, HB3.out.size⟩)
    generalize w3.heap.size = gY at HY HSY HFY ⊢
    obtain ⟨y0, y1, y2, y3, y4⟩ := cell5 HY.out
    by_cases b1 : (4000 : Int) ≤ (f.f4.length : Int)
    · have d1 := decide_eq_true b1
      go_wp2_with fail
      go_ret
      exact ⟨rfl, hgx ▸ below_step HB.out HB4.out⟩
    have d1 := decide_eq_false b1
    by_cases b2 : (4000 : Int) ≤ f.f1
    · have d2 := decide_eq_true b2
      go_wp2_with fail
      go_ret
      exact ⟨rfl, hgx ▸ below_step HB.out HB4.out⟩
    have d2 := decide_eq_false b2
    have hFO := HOK.out.each n HNL.out
    rw [HEF.out] at hFO
    have hsz := (badSize_not f).1 hFO.size
    have hw1 : IntKind.i64.wrap (f.f1 + 1) = f.f1 + 1 := by rw [IntKind.wrap_i64]; omega
    have yf1 := blk_frozen HY.out 1
    go_upto_region 11 with (fail)
    have HRO : Aside0 (f.f4.length < 4000 ∧ f.f1 < 4000 ∧ 0 < f.f4.length) := Aside0.mk (by omega)
    clear d1 d2 b1 b2 hFO hsz y0 y1 y2 y3 y4 hw1 yf1
    have hne1 : ¬ gF = gY := by have := HFY.out; omega
    have hne2 : ¬ gx = gY := by have := HFY.out; have := HGX.out; omega
    replace HB4 := Aside0.mk (Kp.below_of HB4.out (Kp.setCell (Kp.refl w4 (fun k => k = gY)) (p := ⟨gY, 1, none⟩) (.inl rfl) (.int .i64 (f.f1 + 1))) (fun k hk => by rw [hk]; exact HFY.out.2))
    replace HX := Aside0.mk ((Below.heap_setCell w4 ⟨gY, 1, none⟩ (.int .i64 (f.f1 + 1)) gx hne2).trans HX.out)
    replace HO := Aside0.mk (ownsRow_setCell_other HO.out (a := ⟨gY, 1, none⟩) (by simp [Value.ownBlock, hne1]) (.int .i64 (f.f1 + 1)))
    replace HY := Aside0.mk (blk_put HY.out 1 (.int .i64 (f.f1 + 1)) (cs' := #[.string f.f0, .int .i64 (f.f1 + 1), .int .i64 f.f2, .slice A3 f.f3.length c3, .slice A4 f.f4.length c4]) rfl)
    clear hne1 hne2 HSY
    generalize w4.setCell ⟨gY, 1, none⟩ (.int .i64 (f.f1 + 1)) = w5 at HX HY HO HB4 ⊢
    obtain ⟨a4, hA4⟩ : ∃ a4, A4 = some a4 := by
      obtain ⟨a4, h1, _⟩ := HC4.out.2.2 HRO.out.2.2
      exact ⟨a4, h1⟩
    subst hA4
    obtain ⟨nw, hF4, hN4⟩ := flat_C HC4.out HRO.out.2.2
    have HF4 := Aside0.mk hF4
    have HN4 := Aside0.mk hN4
    clear hF4 hN4
    have y4 := (cell5 (blk_alloc HY.out (.cells #[] 39))).2.2.2.2
    have hCW : Below w5.heap.size w5 (w5.alloc (.cells #[] 39)) := below_alloc (Below.refl _ _) _
    obtain ⟨i39, hi39, hz39⟩ := Option.map_eq_some_iff.1 info39
    simp only [Prod.mk.injEq] at hz39
    go_upto_region 12 with (first | (at_builtin; refine wpList_append_lies (w5.alloc (.cells #[] 39)) rfl (.tmp 59) (.tmp 61) 34 rfl w5.heap.size 39 i39 zv39 8 88 Tryd.underlying34 hi39 hz39.1 hz39.2.1 hz39.2.2 rfl (by decide) (.slice (some ⟨w5.heap.size, 0, none⟩) 0 0) 0 [] rfl (World.ownsRow_lit w5 #[] 0 (Nat.le_refl _) (by decide) rfl) a4 f.f4.length c4 nw rfl HF4.out.len (fun j u hu => pw_cell_below hCW (pw_cell_below HB4.out (pw_cell_below HB.out (HN4.out j u hu)))) HF4.out.one HRO.out.2.2 (by have := HRO.out.1; unfold maxLen; omega) (by have := HRO.out.1; omega) (by simp) (w5.heap.size + 1) (by simp) ?_; intro g1 cap1 w6 hown hgrow hat hlt; clear y4; rw [Nat.zero_add, List.nil_append] at hown; rw [Nat.zero_add]; have HO1 := Aside0.mk hown; have HB6 := Aside0.mk (hCW.grown hgrow (by simp) (fun k hk => Nat.le_of_eq (ob_eq hk))); have HG1 := Aside0.mk (show w5.heap.size ≤ g1 from at_le hat (Nat.le_refl _) (by omega)); clear hown hgrow hat hlt hCW) | (at_builtin; refine wpList_append_lies (w6.alloc (.cells #[.int .i64 19, .int .i64 (-1), .int .i64 0, .int .i64 0, .int .i64 0, .int .i64 0, .string ⟨#[]⟩, .slice none 0 0] 39)) rfl (.tmp 62) (.tmp 64) 34 rfl w5.heap.size 39 i39 zv39 8 88 Tryd.underlying34 hi39 hz39.1 hz39.2.1 hz39.2.2 rfl (by decide) (.slice (some ⟨g1, 0, none⟩) f.f4.length cap1) f.f4.length nw rfl (HO1.out.alloc _) ⟨w6.heap.size, 0, none⟩ 1 1 [.int .i64 19, .int .i64 (-1), .int .i64 0, .int .i64 0, .int .i64 0, .int .i64 0, .string ⟨#[]⟩, .slice none 0 0] rfl rfl (World.news_of_block (heap_alloc_new w6 (.cells #[.int .i64 19, .int .i64 (-1), .int .i64 0, .int .i64 0, .int .i64 0, .int .i64 0, .string ⟨#[]⟩, .slice none 0 0] 39))) ret_one (by decide) (by have := HRO.out.1; unfold maxLen; omega) (by have := HRO.out.1; omega) (by have := HB6.out.size; simp; omega) (w6.heap.size + 1) (by simp) ?_; intro gC capC w7 hown hgrow hat hlt; have HOC := Aside0.mk hown; have HB7 := Aside0.mk ((below_alloc HB6.out (.cells #[.int .i64 19, .int .i64 (-1), .int .i64 0, .int .i64 0, .int .i64 0, .int .i64 0, .string ⟨#[]⟩, .slice none 0 0] 39)).grown hgrow (by have := HB6.out.size; simp; omega) (fun k hk => (ob_eq hk) ▸ HG1.out)); have HGC := Aside0.mk (show w5.heap.size ≤ gC from at_le hat HG1.out (by have := HB6.out.size; omega)); have y4 := (cell5 (blk_below HY.out HB7.out)).2.2.2.2; have yf4 := blk_frozen (blk_below HY.out HB7.out) 4; clear hown hgrow hat hlt))
    clear y4 yf4 hi39 hz39 HO1 HB6 HG1
    replace HX := Aside0.mk (blk_below HX.out HB7.out)
    replace HO := Aside0.mk (own_move HO.out (fun k hk => (HB7.out.block k (by have e' : gF = k := ob_eq hk; have h1 := HFY.out; have h2 := blk_lt HY.out; omega))))
    have HY7 := Aside0.mk (blk_below HY.out HB7.out)
    replace HB7 := Aside0.mk (below_step HB4.out HB7.out)
    have hsz5 := blk_lt HY.out
    have hne1 : ¬ gF = gY := by have := HFY.out; omega
    have hne2 : ¬ gx = gY := by have := HFY.out; have := HGX.out; omega
    have hne3 : ¬ gC = gY := by have := HGC.out; omega
    have hgfc : ¬ gF = gC := by have := HGC.out; have := HFY.out; omega
    have hgfx : ¬ gF = gx := by have := HGF.out; have := HGX.out; omega
    have hgcx : ¬ gC = gx := by have := HGC.out; have := HGX.out; have := HFY.out; omega
    have HNE := Aside0.mk (And.intro hgfc (And.intro hgfx (And.intro hgcx (And.intro hne1 hne2))))
    clear hgfc hgfx hgcx
    replace HX := Aside0.mk ((Below.heap_setCell w7 ⟨gY, 4, none⟩ (.slice (some ⟨gC, 0, none⟩) (f.f4.length + 1) capC) gx hne2).trans HX.out)
    replace HO := Aside0.mk (ownsRow_setCell_other HO.out (a := ⟨gY, 4, none⟩) (by simp [Value.ownBlock, hne1]) (.slice (some ⟨gC, 0, none⟩) (f.f4.length + 1) capC))
    replace HOC := Aside0.mk (ownsRow_setCell_other HOC.out (a := ⟨gY, 4, none⟩) (by simp [Value.ownBlock, hne3]) (.slice (some ⟨gC, 0, none⟩) (f.f4.length + 1) capC))
    replace HB7 := Aside0.mk (Kp.below_of HB7.out (Kp.setCell (Kp.refl w7 (fun k => k = gY)) (p := ⟨gY, 4, none⟩) (.inl rfl) (.slice (some ⟨gC, 0, none⟩) (f.f4.length + 1) capC)) (fun k hk => by rw [hk]; exact HFY.out.2))
    replace HY := Aside0.mk (blk_put HY7.out 4 (.slice (some ⟨gC, 0, none⟩) (f.f4.length + 1) capC) (cs' := #[.string f.f0, .int .i64 (f.f1 + 1), .int .i64 f.f2, .slice A3 f.f3.length c3, .slice (some ⟨gC, 0, none⟩) (f.f4.length + 1) capC]) rfl)
    clear HY7 hne1 hne2 hne3 hsz5
    generalize w7.setCell ⟨gY, 4, none⟩ (.slice (some ⟨gC, 0, none⟩) (f.f4.length + 1) capC) = w8 at HX HO HOC HB7 HY ⊢
    obtain ⟨y0, y1, y2, y3, y4⟩ := cell5 HY.out
    have hn5 : n * 5 + 5 ≤ p.fns.length * 5 := by have := HNL.out; omega
    have hq : ∀ i, i < 5 → w8.cell? ⟨gF, n * 5 + i, none⟩ = ([.string f.f0, .int .i64 f.f1, .int .i64 f.f2, .slice A3 f.f3.length c3, .slice (some a4) f.f4.length c4] : List Value)[i]? := fun i hi => (HO.out.cellAt (n * 5 + i) (by omega)).trans (HCI.out i hi)
    have q0 : w8.cell? ⟨gF, n * 5, none⟩ = some (.string f.f0) := hq 0 (by decide)
    have q1 : w8.cell? ⟨gF, n * 5 + 1, none⟩ = some (.int .i64 f.f1) := hq 1 (by decide)
    have q2 : w8.cell? ⟨gF, n * 5 + 2, none⟩ = some (.int .i64 f.f2) := hq 2 (by decide)
    have q3 : w8.cell? ⟨gF, n * 5 + 3, none⟩ = some (.slice A3 f.f3.length c3) := hq 3 (by decide)
    have q4 : w8.cell? ⟨gF, n * 5 + 4, none⟩ = some (.slice (some a4) f.f4.length c4) := hq 4 (by decide)
    have r0 := HO.out.frozenAt (n * 5)
    have r1 := HO.out.frozenAt (n * 5 + 1)
    have r2 := HO.out.frozenAt (n * 5 + 2)
    have r3 := HO.out.frozenAt (n * 5 + 3)
    have r4 := HO.out.frozenAt (n * 5 + 4)
    have hnl : (n : Int) < (p.fns.length : Int) := by have := HNL.out; omega
    have hn0 : (0 : Int) ≤ (n : Int) := Int.natCast_nonneg n
    clear hq hn5
    go_upto_region 13 with (fail)
    clear y0 y1 y2 y3 y4 q0 q1 q2 q3 q4 r0 r1 r2 r3 r4 hnl hn0
    replace HX := Aside0.mk ((far5 w8 gF (n * 5) gx (.string f.f0) (.int .i64 (f.f1 + 1)) (.int .i64 f.f2) (.slice A3 f.f3.length c3) (.slice (some ⟨gC, 0, none⟩) (f.f4.length + 1) capC) (fun h => HNE.out.2.1 h.symm)).trans HX.out)
    replace HOC := Aside0.mk (own_move HOC.out (w1 := (((((w8.setCell ⟨gF, n * 5, none⟩ (.string f.f0)).setCell ⟨gF, n * 5 + 1, none⟩ (.int .i64 (f.f1 + 1))).setCell ⟨gF, n * 5 + 2, none⟩ (.int .i64 f.f2)).setCell ⟨gF, n * 5 + 3, none⟩ (.slice A3 f.f3.length c3)).setCell ⟨gF, n * 5 + 4, none⟩ (.slice (some ⟨gC, 0, none⟩) (f.f4.length + 1) capC))) (fun k hk => far5 w8 gF (n * 5) k (.string f.f0) (.int .i64 (f.f1 + 1)) (.int .i64 f.f2) (.slice A3 f.f3.length c3) (.slice (some ⟨gC, 0, none⟩) (f.f4.length + 1) capC) (fun h => by have e' : gC = k := ob_eq hk; have := HNE.out.1; omega)))
    replace HO := Aside0.mk (own_put5 HO.out (n * 5) (.string f.f0) (.int .i64 (f.f1 + 1)) (.int .i64 f.f2) (.slice A3 f.f3.length c3) (.slice (some ⟨gC, 0, none⟩) (f.f4.length + 1) capC))
    replace HB7 := Aside0.mk (Kp.below_of HB7.out (kp5 w8 gF (n * 5) (.string f.f0) (.int .i64 (f.f1 + 1)) (.int .i64 f.f2) (.slice A3 f.f3.length c3) (.slice (some ⟨gC, 0, none⟩) (f.f4.length + 1) capC)) (fun k hk => by rw [hk]; exact HGF.out.1))
    have hs5 := set5 news (n * 5) (.string f.f0) (.int .i64 (f.f1 + 1)) (.int .i64 f.f2) (.slice A3 f.f3.length c3) (.slice (some ⟨gC, 0, none⟩) (f.f4.length + 1) capC) (by rw [HF.out.len]; have := HNL.out; show n * 5 + 5 ≤ p.fns.length * 5; omega)
    generalize hns : ((((news.set (n * 5) (.string f.f0)).set (n * 5 + 1) (.int .i64 (f.f1 + 1))).set (n * 5 + 2) (.int .i64 f.f2)).set (n * 5 + 3) (.slice A3 f.f3.length c3)).set (n * 5 + 4) (.slice (some ⟨gC, 0, none⟩) (f.f4.length + 1) capC) = ns at hs5 HO
    clear hns
    have HS5 := Aside0.mk hs5
    clear hs5 HY
    generalize (((((w8.setCell ⟨gF, n * 5, none⟩ (.string f.f0)).setCell ⟨gF, n * 5 + 1, none⟩ (.int .i64 (f.f1 + 1))).setCell ⟨gF, n * 5 + 2, none⟩ (.int .i64 f.f2)).setCell ⟨gF, n * 5 + 3, none⟩ (.slice A3 f.f3.length c3)).setCell ⟨gF, n * 5 + 4, none⟩ (.slice (some ⟨gC, 0, none⟩) (f.f4.length + 1) capC)) = w9 at HX HO HOC HB7 ⊢
    obtain ⟨x0, x1, x2⟩ := cell3 HX.out
    have xf1 := blk_frozen HX.out 1
    go_upto_region 14 with (fail)
    clear x0 x1 x2 xf1
    have hBw : Below w.heap.size w (w9.setCell ⟨gx, 1, none⟩ (.slice (some ⟨gF, 0, none⟩) p.fns.length cap)) :=
      Kp.below_of (below_step HB.out HB7.out) (Kp.setCell (Kp.refl w9 (fun k => k = gx)) (p := ⟨gx, 1, none⟩) (.inl rfl) _) (fun k hk => by rw [hk, hgx]; exact Nat.le_refl _)
    have hO := ownsRow_setCell_other HO.out (a := ⟨gx, 1, none⟩) (by have := HNE.out.2.1; simp [Value.ownBlock, this]) (.slice (some ⟨gF, 0, none⟩) p.fns.length cap)
    have hOC := ownsRow_setCell_other HOC.out (a := ⟨gx, 1, none⟩) (by have := HNE.out.2.2.1; simp [Value.ownBlock, this]) (.slice (some ⟨gF, 0, none⟩) p.fns.length cap)
    replace HX := Aside0.mk (blk_put HX.out 1 (.slice (some ⟨gF, 0, none⟩) p.fns.length cap) (cs' := #[.slice p.A0 p.sites.length p.c0, .slice (some ⟨gF, 0, none⟩) p.fns.length cap, .int .i64 p.main]) rfl)
    generalize w9.setCell ⟨gx, 1, none⟩ (.slice (some ⟨gF, 0, none⟩) p.fns.length cap) = w10 at hBw hO hOC HX ⊢
    have hck : Calls Tryd.prog 7 #[.agg #[.slice p.A0 p.sites.length p.c0, .slice (some ⟨gF, 0, none⟩) p.fns.length cap, .int .i64 p.main]] w10 fun e w' => e = .returned (.tuple #[.int .i64 0, .int .i64 0, .int .i64 0]) ∧ Below w10.heap.size w10 w' := by
      have hF10 := HF.out.below hBw
      have hK39 : k39.K w10 retI [.int .i64 19, .int .i64 (-1), .int .i64 0, .int .i64 0, .int .i64 0, .int .i64 0, .string ⟨#[]⟩, .slice none 0 0] := k39_mk w10 retI (A7 := none) (c7 := 0) (Nat.le_refl _) (Kd.C_nil _ _)
      have hC39 := C_flat ((HF4.out.below hBw).snoc hK39) (by rw [List.length_append, List.length_singleton]; have := HRO.out.1; omega) (own_cells hOC)
      have hml : (moreF f).f4.length = f.f4.length + 1 := by simp [moreF]
      have hK36 := k36_mk w10 (moreF f) (A3 := A3) (c3 := c3) (A4 := some ⟨gC, 0, none⟩) (c4 := capC) HL.out.1 (Kd.C_below HC3.out hBw) (by rw [hml]; exact own_cap hOC) hC39
      rw [hml] at hK36
      have hFs := hF10.set (k := n) (x := moreF f) HNL.out hK36 HS5.out.2.2 HS5.out.1 HS5.out.2.1
      have hok := more_ok HOK.out n HNL.out (by rw [HEF.out]; exact HRO.out.1) (by rw [HEF.out]; exact HRO.out.2.1) (some ⟨gF, 0, none⟩) cap
      have hwf := more_wf HW.out n HNL.out (some ⟨gF, 0, none⟩) cap
      rw [HEF.out] at hok hwf
      have hls : (p.fns.set n (moreF f)).length = p.fns.length := by simp
      have hC36 := C_flat hFs (by rw [hls]; have := HPOS.out.2; omega) (own_cells hO)
      have hR : RdP w10 (p.with (p.fns.set n (moreF f)) (some ⟨gF, 0, none⟩) cap) := ⟨Kd.C_below HP.out.sites hBw, HP.out.sc, hC36, by show (p.fns.set n (moreF f)).length ≤ cap; rw [hls]; exact own_cap hO⟩
      have h1 := chk_c _ w10 hR (HG.out.below hBw) hwf
      rw [chkS_of hok] at h1
      have h2 : (p.with (p.fns.set n (moreF f)) (some ⟨gF, 0, none⟩) cap).fns.length = p.fns.length := hls
      rw [h2] at h1
      exact h1
    have HCK := Aside0.mk hck
    replace HB := Aside0.mk hBw
    clear hck hBw hO hOC
    obtain ⟨x0, x1, x2⟩ := cell3 HX.out
    go_wp2_with fail
    refine HCK.out.mono ?_
    rintro e w11 ⟨rfl, hk⟩
    replace HB := Aside0.mk (below_step HB.out hk)
    clear hk x0 x1 x2
    go_wp2_with fail
    go_ret
    exact ⟨rfl, hgx ▸ HB.out⟩
theorem IrMore_calls (p : PV) (x : Int) (w : World) (h : RdP w p) (hg : Tab w) (hwf : WfP p) (hw : (Lit.int .u8 x).wf = true) :
    Calls Tryd.prog 5 #[.agg #[.slice p.A0 p.sites.length p.c0, .slice p.A1 p.fns.length p.c1, .int .i64 p.main], .int .u8 x] w fun e w' => e = .returned (.bool true) ∧ Below w.heap.size w w' :=
  have hb := Go.bounds_u8 hw
  IrMore_calls0 p p.A1 rfl x w h hg hwf (by omega) (by omega)
end Go.Proofs.YtmiacdacebaagaaDoor.G
