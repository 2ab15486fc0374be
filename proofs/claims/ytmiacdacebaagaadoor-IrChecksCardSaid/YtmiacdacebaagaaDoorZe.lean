/- Merged texts (by slim.py): what the law's proof names. -/
import Derived.Shelf.Strings.Prefix
import Derived.Shelf.Strings.Fields
import Derived.Shelf.LaysM
import Derived.Shelf.Strings.SplitShaped
import Derived.Shelf.Unicode.Latin
import Derived.Shelf.Unicode.Is16White
import Derived.Shelf.Unicode.IsSpaceAny
import Derived.Shelf.Unicode.Is16WhiteD
import Derived.Shelf.Unicode.Is16Any
import Derived.Shelf.Unicode.Is32Any
import Derived.Shelf.Unicode.ExclAny
import Derived.Shelf.Slices.Turned
import Derived.Test.YtmiacdacebaagaaDoorProg
import Derived.Lib.AppendIntMem
import Derived.Test.YtmiacdacebaagaaDoorZd
namespace Go.Proofs.YtmiacdacebaagaaDoor.G
open Go.RowKit Go.Proofs.YtmiacdacebaagaaDoorW.PrintWords Go.Proofs.YtmiacdacebaagaaDoorW.PrintLast Go.Proofs.YtmiacdacebaagaaDoorW.PrintMore
attribute [local go_sem] max2_int min2_int max_two min_two max_three min_three max_four min_four
set_option linter.unusedVariables false
set_option linter.unusedSimpArgs false
mutual
def crosstreeref08_Reads.j0 : Nat → Int → Bool → Int → Int → Int → Int → Int → Int → ByteArray → List Int → Option (List Int)
 | 0, _, _, _, _, _, _, _, _, _, _ => none
 | k + 1, x4, x5, x146000, x146001, x146002, x146003, x146004, x146005, x146006, x146007 => if x5 = true then (some (([x146002] : List Int))) else (if x4 = 4 then (crosstreeref08_Reads.j1 k x4 (x4 == 4) x146000 x146001 x146002 x146003 x146004 x146005 x146006 x146007) else (crosstreeref08_Reads.j1 k x4 (x4 == 5) x146000 x146001 x146002 x146003 x146004 x146005 x146006 x146007))
def crosstreeref08_Reads.j1 : Nat → Int → Bool → Int → Int → Int → Int → Int → Int → ByteArray → List Int → Option (List Int)
 | 0, _, _, _, _, _, _, _, _, _, _ => none
 | k + 1, x4, x14, x146000, x146001, x146002, x146003, x146004, x146005, x146006, x146007 => if x14 = true then (some (([x146002, x146003] : List Int))) else (if x4 = 9 then (crosstreeref08_Reads.j2 k x4 (x4 == 9) x146000 x146001 x146002 x146003 x146004 x146005 x146006 x146007) else (crosstreeref08_Reads.j2 k x4 (x4 == 10) x146000 x146001 x146002 x146003 x146004 x146005 x146006 x146007))
def crosstreeref08_Reads.j2 : Nat → Int → Bool → Int → Int → Int → Int → Int → Int → ByteArray → List Int → Option (List Int)
 | 0, _, _, _, _, _, _, _, _, _, _ => none
 | k + 1, x4, x22, x146000, x146001, x146002, x146003, x146004, x146005, x146006, x146007 => if x22 = true then (some (([x146001, x146002] : List Int))) else (if x4 = 11 then (crosstreeref08_Reads.j3 k x4 (x4 == 11) x146000 x146001 x146002 x146003 x146004 x146005 x146006 x146007) else (crosstreeref08_Reads.j3 k x4 (x4 == 12) x146000 x146001 x146002 x146003 x146004 x146005 x146006 x146007))
def crosstreeref08_Reads.j3 : Nat → Int → Bool → Int → Int → Int → Int → Int → Int → ByteArray → List Int → Option (List Int)
 | 0, _, _, _, _, _, _, _, _, _, _ => none
 | k + 1, x4, x30, x146000, x146001, x146002, x146003, x146004, x146005, x146006, x146007 => if x30 = true then (some (([x146001, x146002, x146003] : List Int))) else (if x4 = 14 then (crosstreeref08_Reads.j4 k x4 (x4 == 14) x146000 x146001 x146002 x146003 x146004 x146005 x146006 x146007) else (crosstreeref08_Reads.j4 k x4 (x4 == 18) x146000 x146001 x146002 x146003 x146004 x146005 x146006 x146007))
def crosstreeref08_Reads.j4 : Nat → Int → Bool → Int → Int → Int → Int → Int → Int → ByteArray → List Int → Option (List Int)
 | 0, _, _, _, _, _, _, _, _, _, _ => none
 | k + 1, x4, x40, x146000, x146001, x146002, x146003, x146004, x146005, x146006, x146007 => if x40 = true then (some (([x146001] : List Int))) else (if x4 = 15 then ((some (([] : List Int) : List Int)).bind fun y161 => (if y161.length + x146007.length < 17592186044416 then (some (y161 ++ x146007)) else (none))) else (if x4 = 16 then ((some (([x146002] : List Int) : List Int)).bind fun y167 => (if y167.length + x146007.length < 17592186044416 then (some (y167 ++ x146007)) else (none))) else (if x4 = 19 then (if x146001 = (-1) then (some ([] : List Int)) else (some (([x146001] : List Int)))) else (some ([] : List Int)))))
end
def crosstreeref08_Reads.f (k : Nat) (a0_0 : Int) (a0_1 : Int) (a0_2 : Int) (a0_3 : Int) (a0_4 : Int) (a0_5 : Int) (a0_6 : ByteArray) (l0_7 : List Int) : Option (List Int) := if a0_0 = 3 then (crosstreeref08_Reads.j0 k a0_0 (a0_0 == 3) a0_0 a0_1 a0_2 a0_3 a0_4 a0_5 a0_6 l0_7) else (if a0_0 = 6 then (crosstreeref08_Reads.j0 k a0_0 (a0_0 == 6) a0_0 a0_1 a0_2 a0_3 a0_4 a0_5 a0_6 l0_7) else (if a0_0 = 7 then (crosstreeref08_Reads.j0 k a0_0 (a0_0 == 7) a0_0 a0_1 a0_2 a0_3 a0_4 a0_5 a0_6 l0_7) else (if a0_0 = 8 then (crosstreeref08_Reads.j0 k a0_0 (a0_0 == 8) a0_0 a0_1 a0_2 a0_3 a0_4 a0_5 a0_6 l0_7) else (crosstreeref08_Reads.j0 k a0_0 (a0_0 == 13) a0_0 a0_1 a0_2 a0_3 a0_4 a0_5 a0_6 l0_7))))
theorem crosstreeref08_Reads.mono_l : ∀ k, (∀ y0 y1 y2 y3 y4 y5 y6 y7 y8 y9, LeO (crosstreeref08_Reads.j0 k y0 y1 y2 y3 y4 y5 y6 y7 y8 y9) (crosstreeref08_Reads.j0 (k + 1) y0 y1 y2 y3 y4 y5 y6 y7 y8 y9)) ∧ (∀ y0 y1 y2 y3 y4 y5 y6 y7 y8 y9, LeO (crosstreeref08_Reads.j1 k y0 y1 y2 y3 y4 y5 y6 y7 y8 y9) (crosstreeref08_Reads.j1 (k + 1) y0 y1 y2 y3 y4 y5 y6 y7 y8 y9)) ∧ (∀ y0 y1 y2 y3 y4 y5 y6 y7 y8 y9, LeO (crosstreeref08_Reads.j2 k y0 y1 y2 y3 y4 y5 y6 y7 y8 y9) (crosstreeref08_Reads.j2 (k + 1) y0 y1 y2 y3 y4 y5 y6 y7 y8 y9)) ∧ (∀ y0 y1 y2 y3 y4 y5 y6 y7 y8 y9, LeO (crosstreeref08_Reads.j3 k y0 y1 y2 y3 y4 y5 y6 y7 y8 y9) (crosstreeref08_Reads.j3 (k + 1) y0 y1 y2 y3 y4 y5 y6 y7 y8 y9)) ∧ (∀ y0 y1 y2 y3 y4 y5 y6 y7 y8 y9, LeO (crosstreeref08_Reads.j4 k y0 y1 y2 y3 y4 y5 y6 y7 y8 y9) (crosstreeref08_Reads.j4 (k + 1) y0 y1 y2 y3 y4 y5 y6 y7 y8 y9))
 | 0 => ⟨fun _ _ _ _ _ _ _ _ _ _ r h => by simp [crosstreeref08_Reads.j0] at h, fun _ _ _ _ _ _ _ _ _ _ r h => by simp [crosstreeref08_Reads.j1] at h, fun _ _ _ _ _ _ _ _ _ _ r h => by simp [crosstreeref08_Reads.j2] at h, fun _ _ _ _ _ _ _ _ _ _ r h => by simp [crosstreeref08_Reads.j3] at h, fun _ _ _ _ _ _ _ _ _ _ r h => by simp [crosstreeref08_Reads.j4] at h⟩
 | k + 1 => by
  obtain ⟨ih0, ih1, ih2, ih3, ih4⟩ := crosstreeref08_Reads.mono_l k
  refine ⟨?_, ?_, ?_, ?_, ?_⟩
  ·intro y0 y1 y2 y3 y4 y5 y6 y7 y8 y9
   unfold crosstreeref08_Reads.j0
   repeat' first
   | (with_reducible exact ih0 _ _ _ _ _ _ _ _ _ _)
   | (with_reducible exact ih1 _ _ _ _ _ _ _ _ _ _)
   | (with_reducible exact ih2 _ _ _ _ _ _ _ _ _ _)
   | (with_reducible exact ih3 _ _ _ _ _ _ _ _ _ _)
   | (with_reducible exact ih4 _ _ _ _ _ _ _ _ _ _)
   | (with_reducible exact LeO.refl _)
   | (with_reducible exact LeO.none _)
   | (with_reducible refine LeO.ite ?_ ?_)
   | (with_reducible refine LeO.bind ?_ (fun _ => ?_))
   | exact ih0 _ _ _ _ _ _ _ _ _ _
   | exact ih1 _ _ _ _ _ _ _ _ _ _
   | exact ih2 _ _ _ _ _ _ _ _ _ _
   | exact ih3 _ _ _ _ _ _ _ _ _ _
   | exact ih4 _ _ _ _ _ _ _ _ _ _
   | exact LeO.none _
   | refine LeO.ite ?_ ?_
   | refine LeO.bind ?_ (fun _ => ?_)
  ·intro y0 y1 y2 y3 y4 y5 y6 y7 y8 y9
   unfold crosstreeref08_Reads.j1
   repeat' first
   | (with_reducible exact ih0 _ _ _ _ _ _ _ _ _ _)
   | (with_reducible exact ih1 _ _ _ _ _ _ _ _ _ _)
   | (with_reducible exact ih2 _ _ _ _ _ _ _ _ _ _)
   | (with_reducible exact ih3 _ _ _ _ _ _ _ _ _ _)
   | (with_reducible exact ih4 _ _ _ _ _ _ _ _ _ _)
   | (with_reducible exact LeO.refl _)
   | (with_reducible exact LeO.none _)
   | (with_reducible refine LeO.ite ?_ ?_)
   | (with_reducible refine LeO.bind ?_ (fun _ => ?_))
   | exact ih0 _ _ _ _ _ _ _ _ _ _
   | exact ih1 _ _ _ _ _ _ _ _ _ _
   | exact ih2 _ _ _ _ _ _ _ _ _ _
   | exact ih3 _ _ _ _ _ _ _ _ _ _
   | exact ih4 _ _ _ _ _ _ _ _ _ _
   | exact LeO.none _
   | refine LeO.ite ?_ ?_
   | refine LeO.bind ?_ (fun _ => ?_)
  ·intro y0 y1 y2 y3 y4 y5 y6 y7 y8 y9
   unfold crosstreeref08_Reads.j2
   repeat' first
   | (with_reducible exact ih0 _ _ _ _ _ _ _ _ _ _)
   | (with_reducible exact ih1 _ _ _ _ _ _ _ _ _ _)
   | (with_reducible exact ih2 _ _ _ _ _ _ _ _ _ _)
   | (with_reducible exact ih3 _ _ _ _ _ _ _ _ _ _)
   | (with_reducible exact ih4 _ _ _ _ _ _ _ _ _ _)
   | (with_reducible exact LeO.refl _)
   | (with_reducible exact LeO.none _)
   | (with_reducible refine LeO.ite ?_ ?_)
   | (with_reducible refine LeO.bind ?_ (fun _ => ?_))
   | exact ih0 _ _ _ _ _ _ _ _ _ _
   | exact ih1 _ _ _ _ _ _ _ _ _ _
   | exact ih2 _ _ _ _ _ _ _ _ _ _
   | exact ih3 _ _ _ _ _ _ _ _ _ _
   | exact ih4 _ _ _ _ _ _ _ _ _ _
   | exact LeO.none _
   | refine LeO.ite ?_ ?_
   | refine LeO.bind ?_ (fun _ => ?_)
  ·intro y0 y1 y2 y3 y4 y5 y6 y7 y8 y9
   unfold crosstreeref08_Reads.j3
   repeat' first
   | (with_reducible exact ih0 _ _ _ _ _ _ _ _ _ _)
   | (with_reducible exact ih1 _ _ _ _ _ _ _ _ _ _)
   | (with_reducible exact ih2 _ _ _ _ _ _ _ _ _ _)
   | (with_reducible exact ih3 _ _ _ _ _ _ _ _ _ _)
   | (with_reducible exact ih4 _ _ _ _ _ _ _ _ _ _)
   | (with_reducible exact LeO.refl _)
   | (with_reducible exact LeO.none _)
   | (with_reducible refine LeO.ite ?_ ?_)
   | (with_reducible refine LeO.bind ?_ (fun _ => ?_))
   | exact ih0 _ _ _ _ _ _ _ _ _ _
   | exact ih1 _ _ _ _ _ _ _ _ _ _
   | exact ih2 _ _ _ _ _ _ _ _ _ _
   | exact ih3 _ _ _ _ _ _ _ _ _ _
   | exact ih4 _ _ _ _ _ _ _ _ _ _
   | exact LeO.none _
   | refine LeO.ite ?_ ?_
   | refine LeO.bind ?_ (fun _ => ?_)
  ·intro y0 y1 y2 y3 y4 y5 y6 y7 y8 y9
   unfold crosstreeref08_Reads.j4
   repeat' first
   | (with_reducible exact ih0 _ _ _ _ _ _ _ _ _ _)
   | (with_reducible exact ih1 _ _ _ _ _ _ _ _ _ _)
   | (with_reducible exact ih2 _ _ _ _ _ _ _ _ _ _)
   | (with_reducible exact ih3 _ _ _ _ _ _ _ _ _ _)
   | (with_reducible exact ih4 _ _ _ _ _ _ _ _ _ _)
   | (with_reducible exact LeO.refl _)
   | (with_reducible exact LeO.none _)
   | (with_reducible refine LeO.ite ?_ ?_)
   | (with_reducible refine LeO.bind ?_ (fun _ => ?_))
   | exact ih0 _ _ _ _ _ _ _ _ _ _
   | exact ih1 _ _ _ _ _ _ _ _ _ _
   | exact ih2 _ _ _ _ _ _ _ _ _ _
   | exact ih3 _ _ _ _ _ _ _ _ _ _
   | exact ih4 _ _ _ _ _ _ _ _ _ _
   | exact LeO.none _
   | refine LeO.ite ?_ ?_
   | refine LeO.bind ?_ (fun _ => ?_)
theorem crosstreeref08_Reads.mono : ∀ a0 a1 a2 a3 a4 a5 a6 a7 k, LeO (crosstreeref08_Reads.f k a0 a1 a2 a3 a4 a5 a6 a7) (crosstreeref08_Reads.f (k + 1) a0 a1 a2 a3 a4 a5 a6 a7) := by
 intro a0 a1 a2 a3 a4 a5 a6 a7 k
 obtain ⟨ih0, ih1, ih2, ih3, ih4⟩ := crosstreeref08_Reads.mono_l k
 unfold crosstreeref08_Reads.f
 repeat' first
   | (with_reducible exact ih0 _ _ _ _ _ _ _ _ _ _)
   | (with_reducible exact ih1 _ _ _ _ _ _ _ _ _ _)
   | (with_reducible exact ih2 _ _ _ _ _ _ _ _ _ _)
   | (with_reducible exact ih3 _ _ _ _ _ _ _ _ _ _)
   | (with_reducible exact ih4 _ _ _ _ _ _ _ _ _ _)
   | (with_reducible exact LeO.refl _)
   | (with_reducible exact LeO.none _)
   | (with_reducible refine LeO.ite ?_ ?_)
   | (with_reducible refine LeO.bind ?_ (fun _ => ?_))
   | exact ih0 _ _ _ _ _ _ _ _ _ _
   | exact ih1 _ _ _ _ _ _ _ _ _ _
   | exact ih2 _ _ _ _ _ _ _ _ _ _
   | exact ih3 _ _ _ _ _ _ _ _ _ _
   | exact ih4 _ _ _ _ _ _ _ _ _ _
   | exact LeO.none _
   | refine LeO.ite ?_ ?_
   | refine LeO.bind ?_ (fun _ => ?_)
set_option maxHeartbeats 8000000 in
set_option maxRecDepth 100000 in
theorem crosstreeref08_Reads.calls (k : Nat) (a0_0 : Int) (a0_1 : Int) (a0_2 : Int) (a0_3 : Int) (a0_4 : Int) (a0_5 : Int) (a0_6 : ByteArray) (A0_7 : Option Addr) (c0_7 : Nat) (l0_7 : List Int) (r : List Int) (w : World) (hr0_7 : Kd.C (Kd.int .i64) w A0_7 l0_7.length l0_7) (hc0_7 : l0_7.length ≤ c0_7) (h : crosstreeref08_Reads.f k a0_0 a0_1 a0_2 a0_3 a0_4 a0_5 a0_6 l0_7 = some r) :
  Calls Tryd.prog 20 #[.agg #[.int .i64 a0_0, .int .i64 a0_1, .int .i64 a0_2, .int .i64 a0_3, .int .i64 a0_4, .int .i64 a0_5, .string a0_6, .slice A0_7 l0_7.length c0_7]] w fun e w' => ∃ v0_ : Value, e = .returned (v0_) ∧ Kd.R (Kd.int .i64) 3 w' w.heap.size (fun _ => True) v0_ r ∧ Below w.heap.size w w' := by
 have hu39 := Tryd.underlying39
 have HR0_7 := Aside0.mk hr0_7
 have HC0_7 := Aside0.mk hc0_7
 clear hr0_7 hc0_7
 have HB := Aside0.mk (Below.refl w.heap.size w)
 have H : (if a0_0 = 3 then (crosstreeref08_Reads.j0 k a0_0 (a0_0 == 3) a0_0 a0_1 a0_2 a0_3 a0_4 a0_5 a0_6 l0_7) else (if a0_0 = 6 then (crosstreeref08_Reads.j0 k a0_0 (a0_0 == 6) a0_0 a0_1 a0_2 a0_3 a0_4 a0_5 a0_6 l0_7) else (if a0_0 = 7 then (crosstreeref08_Reads.j0 k a0_0 (a0_0 == 7) a0_0 a0_1 a0_2 a0_3 a0_4 a0_5 a0_6 l0_7) else (if a0_0 = 8 then (crosstreeref08_Reads.j0 k a0_0 (a0_0 == 8) a0_0 a0_1 a0_2 a0_3 a0_4 a0_5 a0_6 l0_7) else (crosstreeref08_Reads.j0 k a0_0 (a0_0 == 13) a0_0 a0_1 a0_2 a0_3 a0_4 a0_5 a0_6 l0_7))))) = some r := h
 clear h
 have HC2 := Aside0.mk H
 clear H
 go_enter Tryd.func20, Tryd.ntmps20
 go_upto_if 5 with (first | ((with_reducible refine gate_dst (N := 1) rfl ?_); refine box_event ?hg (N := 1) ?hd (cs := #[.int .i64 a0_0, .int .i64 a0_1, .int .i64 a0_2, .int .i64 a0_3, .int .i64 a0_4, .int .i64 a0_5, .string a0_6, .slice A0_7 l0_7.length c0_7]) (t := 39) ?hr ?_; (case hd => rfl); (case hg => rfl); (case hr => first | (go_simp; done) | (go_simp; rfl)); intro gb145 hg w3 hbox hb; have n0_ := Aside0.mk (below_step (by repeat (first | (with_reducible first | exact HB.out | apply below_alloc | apply pw_below_drewN | apply below_drew1) | exact HB.out)) hb); have n1_ := Aside0.mk (hbox); have n2_ := Aside0.mk ((by rw [hg]; exact (below_size (by repeat (first | (with_reducible first | exact HB.out | apply below_alloc | apply pw_below_drewN | apply below_drew1) | exact HB.out))) : w.heap.size ≤ gb145)); have n3_ := Aside0.mk ((by rw [hg]; exact (below_size (by repeat (first | (with_reducible first | exact HB.out | apply below_alloc | apply pw_below_drewN | apply below_drew1) | exact HB.out))) : w.heap.size ≤ gb145)); clear HB; have HB := n0_; have BK145 := n1_; have GW145 := n2_; have GE145 := n3_; clear n0_ n1_ n2_ n3_; clear hb hbox hg; have hcz4_0 : w3.cell? ⟨gb145, 0, none⟩ = some (.int .i64 a0_0) := (blk_cell BK145.out 0).trans rfl; have hcz4_1 : w3.cell? ⟨gb145, 1, none⟩ = some (.int .i64 a0_1) := (blk_cell BK145.out 1).trans rfl; have hcz4_2 : w3.cell? ⟨gb145, 2, none⟩ = some (.int .i64 a0_2) := (blk_cell BK145.out 2).trans rfl; have hcz4_3 : w3.cell? ⟨gb145, 3, none⟩ = some (.int .i64 a0_3) := (blk_cell BK145.out 3).trans rfl; have hcz4_4 : w3.cell? ⟨gb145, 4, none⟩ = some (.int .i64 a0_4) := (blk_cell BK145.out 4).trans rfl; have hcz4_5 : w3.cell? ⟨gb145, 5, none⟩ = some (.int .i64 a0_5) := (blk_cell BK145.out 5).trans rfl; have hcz4_6 : w3.cell? ⟨gb145, 6, none⟩ = some (.string a0_6) := (blk_cell BK145.out 6).trans rfl; have hcz4_7 : w3.cell? ⟨gb145, 7, none⟩ = some (.slice A0_7 l0_7.length c0_7) := (blk_cell BK145.out 7).trans rfl; have hfz4_0 := blk_frozen BK145.out 0; have hfz4_1 := blk_frozen BK145.out 1; have hfz4_2 := blk_frozen BK145.out 2; have hfz4_3 := blk_frozen BK145.out 3; have hfz4_4 := blk_frozen BK145.out 4; have hfz4_5 := blk_frozen BK145.out 5; have hfz4_6 := blk_frozen BK145.out 6; have hfz4_7 := blk_frozen BK145.out 7))
 (try simp only [Act.put, List.setIfInBounds_toArray, List.set_cons_zero, List.set_cons_succ])
 go_cut [5] (fun v5 wc => ∃ (kq : Nat) (x5_1 : Bool), v5 = .bool x5_1 ∧ Aside0 (crosstreeref08_Reads.j0 kq a0_0 x5_1 a0_0 a0_1 a0_2 a0_3 a0_4 a0_5 a0_6 l0_7 = some r) ∧ Aside0 (kq ≤ k) ∧ Aside0 (wc.heap[gb145]? = some (.cells #[.int .i64 a0_0, .int .i64 a0_1, .int .i64 a0_2, .int .i64 a0_3, .int .i64 a0_4, .int .i64 a0_5, .string a0_6, (.slice A0_7 l0_7.length c0_7)] 39 (0, 0))) ∧ Aside0 (Below w.heap.size w wc))
 case first =>
  have H := HC2.out
  clear HC2
  by_cases c5 : a0_0 = 3
  ·rw [if_pos c5] at H
   have c5b0 : (a0_0 == 3) = true := beq_iff_eq.mpr c5
   have c5b1 : (a0_0 != 3) = false := bne_eq_false_iff_eq.mpr c5
   clear c5
   (first | rw [c5b0] | (simp only [i64_w, i32_w]; rw [c5b0]) | skip)
   have H' := Aside0.mk H
   clear H
   go_wp2
   go_meet
   case rel => exact ⟨_, ((a0_0 == 3)), (by first | rfl | (simp; done) | (simp [*]; done)), H', ⟨by first | omega | exact Nat.le_refl _⟩, ⟨by (with_reducible repeat (first | refine blk_drewN ?_ _ | refine blk_drew ?_ | refine blk_alloc ?_ _)); exact BK145.out⟩, ⟨by repeat (first | (with_reducible first | exact HB.out | apply below_alloc | apply pw_below_drewN | apply below_drew1 | refine below_set ?_ GE145.out) | exact HB.out)⟩⟩
  ·rw [if_neg c5] at H
   have c5b0 : (a0_0 == 3) = false := beq_eq_false_iff_ne.mpr c5
   have c5b1 : (a0_0 != 3) = true := bne_iff_ne.mpr c5
   (first | rw [c5b0] | (simp only [i64_w, i32_w]; rw [c5b0]) | skip)
   by_cases c6 : a0_0 = 6
   ·rw [if_pos c6] at H
    have c6b0 : (a0_0 == 6) = true := beq_iff_eq.mpr c6
    have c6b1 : (a0_0 != 6) = false := bne_eq_false_iff_eq.mpr c6
    clear c6
    have H' := Aside0.mk H
    clear H
    go_wp2
    go_meet
    case rel => exact ⟨_, ((a0_0 == 6)), (by first | rfl | (simp; done) | (simp [*]; done)), H', ⟨by first | omega | exact Nat.le_refl _⟩, ⟨by (with_reducible repeat (first | refine blk_drewN ?_ _ | refine blk_drew ?_ | refine blk_alloc ?_ _)); exact BK145.out⟩, ⟨by repeat (first | (with_reducible first | exact HB.out | apply below_alloc | apply pw_below_drewN | apply below_drew1 | refine below_set ?_ GE145.out) | exact HB.out)⟩⟩
   ·rw [if_neg c6] at H
    have c6b0 : (a0_0 == 6) = false := beq_eq_false_iff_ne.mpr c6
    have c6b1 : (a0_0 != 6) = true := bne_iff_ne.mpr c6
    by_cases c7 : a0_0 = 7
    ·rw [if_pos c7] at H
     have c7b0 : (a0_0 == 7) = true := beq_iff_eq.mpr c7
     have c7b1 : (a0_0 != 7) = false := bne_eq_false_iff_eq.mpr c7
     clear c7
     have H' := Aside0.mk H
     clear H
     go_wp2
     go_meet
     case rel => exact ⟨_, ((a0_0 == 7)), (by first | rfl | (simp; done) | (simp [*]; done)), H', ⟨by first | omega | exact Nat.le_refl _⟩, ⟨by (with_reducible repeat (first | refine blk_drewN ?_ _ | refine blk_drew ?_ | refine blk_alloc ?_ _)); exact BK145.out⟩, ⟨by repeat (first | (with_reducible first | exact HB.out | apply below_alloc | apply pw_below_drewN | apply below_drew1 | refine below_set ?_ GE145.out) | exact HB.out)⟩⟩
    ·rw [if_neg c7] at H
     have c7b0 : (a0_0 == 7) = false := beq_eq_false_iff_ne.mpr c7
     have c7b1 : (a0_0 != 7) = true := bne_iff_ne.mpr c7
     by_cases c8 : a0_0 = 8
     ·rw [if_pos c8] at H
      have c8b0 : (a0_0 == 8) = true := beq_iff_eq.mpr c8
      have c8b1 : (a0_0 != 8) = false := bne_eq_false_iff_eq.mpr c8
      clear c8
      have H' := Aside0.mk H
      clear H
      go_wp2
      go_meet
      case rel => exact ⟨_, ((a0_0 == 8)), (by first | rfl | (simp; done) | (simp [*]; done)), H', ⟨by first | omega | exact Nat.le_refl _⟩, ⟨by (with_reducible repeat (first | refine blk_drewN ?_ _ | refine blk_drew ?_ | refine blk_alloc ?_ _)); exact BK145.out⟩, ⟨by repeat (first | (with_reducible first | exact HB.out | apply below_alloc | apply pw_below_drewN | apply below_drew1 | refine below_set ?_ GE145.out) | exact HB.out)⟩⟩
     ·rw [if_neg c8] at H
      have c8b0 : (a0_0 == 8) = false := beq_eq_false_iff_ne.mpr c8
      have c8b1 : (a0_0 != 8) = true := bne_iff_ne.mpr c8
      have H' := Aside0.mk H
      clear H
      go_wp2
      go_meet
      case rel => exact ⟨_, ((a0_0 == 13)), (by first | rfl | (simp; done) | (simp [*]; done)), H', ⟨by first | omega | exact Nat.le_refl _⟩, ⟨by (with_reducible repeat (first | refine blk_drewN ?_ _ | refine blk_drew ?_ | refine blk_alloc ?_ _)); exact BK145.out⟩, ⟨by repeat (first | (with_reducible first | exact HB.out | apply below_alloc | apply pw_below_drewN | apply below_drew1 | refine below_set ?_ GE145.out) | exact HB.out)⟩⟩
 case rest =>
  clear HC2
  try clear c2
  try clear p2
  try clear c5
  try clear c5b0
  try clear c5b1
  try clear c6
  try clear c6b0
  try clear c6b1
  try clear c7
  try clear c7b0
  try clear c7b1
  try clear c8
  try clear c8b0
  try clear c8b1
  try clear hcz4_0
  try clear hcz4_1
  try clear hcz4_2
  try clear hcz4_3
  try clear hcz4_4
  try clear hcz4_5
  try clear hcz4_6
  try clear hcz4_7
  try clear hfz4_0
  try clear hfz4_1
  try clear hfz4_2
  try clear hfz4_3
  try clear hfz4_4
  try clear hfz4_5
  try clear hfz4_6
  try clear hfz4_7
  obtain ⟨kq, x5_1, rfl, HA, HJ1, BK145, HB⟩ := hcut
  cases kq with
  | zero => exact absurd HA.out (by simp [crosstreeref08_Reads.j0])
  | succ kj1 =>
   have H := HA.out
   clear HA
   simp only [crosstreeref08_Reads.j0] at H
   by_cases c9 : x5_1 = true
   ·subst c9
    have H1 : (some (([a0_2] : List Int))) = some r := by rw [if_pos rfl] at H; exact H
    clear H
    have H := H1
    clear H1
    obtain ⟨y146, hy146⟩ : ∃ y_ : List Int, y_ = (([a0_2] : List Int)) := ⟨_, rfl⟩
    replace H : (some y146) = some r := by first | (rw [hy146]; with_reducible exact H) | (have H2_ := (Option.bind_some _ _).symm.trans H; rw [hy146]; with_reducible exact H2_) | (have H2_ := (Option.bind_some _ _).symm.trans H; with_reducible exact H2_) | with_reducible exact H | (rw [hy146]; exact H) | exact H
    have Ny146 := Aside0.mk hy146
    clear hy146
    obtain rfl := Option.some.inj H
    have hcz10_0 : wc.cell? ⟨gb145, 0, none⟩ = some (.int .i64 a0_0) := (blk_cell BK145.out 0).trans rfl
    have hcz10_1 : wc.cell? ⟨gb145, 1, none⟩ = some (.int .i64 a0_1) := (blk_cell BK145.out 1).trans rfl
    have hcz10_2 : wc.cell? ⟨gb145, 2, none⟩ = some (.int .i64 a0_2) := (blk_cell BK145.out 2).trans rfl
    have hcz10_3 : wc.cell? ⟨gb145, 3, none⟩ = some (.int .i64 a0_3) := (blk_cell BK145.out 3).trans rfl
    have hcz10_4 : wc.cell? ⟨gb145, 4, none⟩ = some (.int .i64 a0_4) := (blk_cell BK145.out 4).trans rfl
    have hcz10_5 : wc.cell? ⟨gb145, 5, none⟩ = some (.int .i64 a0_5) := (blk_cell BK145.out 5).trans rfl
    have hcz10_6 : wc.cell? ⟨gb145, 6, none⟩ = some (.string a0_6) := (blk_cell BK145.out 6).trans rfl
    have hcz10_7 : wc.cell? ⟨gb145, 7, none⟩ = some (.slice A0_7 l0_7.length c0_7) := (blk_cell BK145.out 7).trans rfl
    have hfz10_0 := blk_frozen BK145.out 0
    have hfz10_1 := blk_frozen BK145.out 1
    have hfz10_2 := blk_frozen BK145.out 2
    have hfz10_3 := blk_frozen BK145.out 3
    have hfz10_4 := blk_frozen BK145.out 4
    have hfz10_5 := blk_frozen BK145.out 5
    have hfz10_6 := blk_frozen BK145.out 6
    have hfz10_7 := blk_frozen BK145.out 7
    go_wp2_with (first | ((with_reducible refine gate_dst (N := 13) rfl ?_); refine Kd.R_lit (Kd.int .i64) _ 3 ?hg (N := 13) ?hd (xs := ([a0_2] : List Int)) (inner := [.int .i64 a0_2]) (ok := fun _ => True) (okp := fun _ => True) ?hr ?hp (fun _ hk => hk) trivial (Below.refl _ _) (Nat.le_refl _) (by simp) ?_; (case hd => rfl); (case hg => rfl); (case hr => first | (go_simp; done) | (go_simp; rfl)); (case hp => exact (Reps.one (show Kd.M (Kd.int .i64) _ _ _ a0_2 [.int .i64 a0_2] from rfl) (Reps.none _ _))); intro v147 w11 ho12 hb hg_ hnew_; clear hg_ hnew_; (first | rw [← Ny146.out] at ho12 | (simp only [Int.reduceToNat] at ho12; rw [← Ny146.out] at ho12)); have n0_ := Aside0.mk (Kd.R_lower ho12 (below_size (by repeat (first | (with_reducible first | exact HB.out | apply below_alloc | apply pw_below_drewN | apply below_drew1 | refine below_set ?_ GE145.out) | exact HB.out)))); have n1_ := Aside0.mk (blk_below (g := gb145) (o := .cells #[.int .i64 a0_0, .int .i64 a0_1, .int .i64 a0_2, .int .i64 a0_3, .int .i64 a0_4, .int .i64 a0_5, .string a0_6, .slice A0_7 l0_7.length c0_7] 39 (0, 0)) (by (with_reducible repeat (first | refine blk_drewN ?_ _ | refine blk_drew ?_ | refine blk_alloc ?_ _)); exact BK145.out) hb); have n2_ := Aside0.mk (below_step (by repeat (first | (with_reducible first | exact HB.out | apply below_alloc | apply pw_below_drewN | apply below_drew1 | refine below_set ?_ GE145.out) | exact HB.out)) hb); clear BK145; clear HB; have HO148 := n0_; have BK145 := n1_; have HB := n2_; clear n0_ n1_ n2_; clear hb ho12))
    go_ret
    exact ⟨_, by first | rfl | (simp [errW_none, errW_some] <;> rfl) | (simp [*, errW_none, errW_some] <;> rfl), by (with_reducible repeat (first | apply Kd.R_alloc | apply Kd.R_drewN | apply Kd.R_drew)); exact HO148.out, by repeat (first | (with_reducible first | exact HB.out | apply below_alloc | apply pw_below_drewN | apply below_drew1 | refine below_set ?_ GE145.out) | exact HB.out)⟩
   ·replace c9 := Bool.eq_false_iff.mpr c9
    subst c9
    have H1 : (if a0_0 = 4 then (crosstreeref08_Reads.j1 kj1 a0_0 (a0_0 == 4) a0_0 a0_1 a0_2 a0_3 a0_4 a0_5 a0_6 l0_7) else (crosstreeref08_Reads.j1 kj1 a0_0 (a0_0 == 5) a0_0 a0_1 a0_2 a0_3 a0_4 a0_5 a0_6 l0_7)) = some r := by rw [if_neg (show ¬ (false = true) by decide)] at H; exact H
    clear H
    have H := H1
    clear H1
    have HC13 := Aside0.mk H
    clear H
    go_upto_if 14 with (fail)
    go_cut [14] (fun v14 wc => ∃ (kq : Nat) (x14_12 : Bool), v14 = .bool x14_12 ∧ Aside0 (crosstreeref08_Reads.j1 kq a0_0 x14_12 a0_0 a0_1 a0_2 a0_3 a0_4 a0_5 a0_6 l0_7 = some r) ∧ Aside0 (kq ≤ kj1) ∧ Aside0 (wc.heap[gb145]? = some (.cells #[.int .i64 a0_0, .int .i64 a0_1, .int .i64 a0_2, .int .i64 a0_3, .int .i64 a0_4, .int .i64 a0_5, .string a0_6, (.slice A0_7 l0_7.length c0_7)] 39 (0, 0))) ∧ Aside0 (Below w.heap.size w wc))
    case first =>
     have H := HC13.out
     clear HC13
     by_cases c14 : a0_0 = 4
     ·rw [if_pos c14] at H
      have c14b0 : (a0_0 == 4) = true := beq_iff_eq.mpr c14
      have c14b1 : (a0_0 != 4) = false := bne_eq_false_iff_eq.mpr c14
      clear c14
      (first | rw [c14b0] | (simp only [i64_w, i32_w]; rw [c14b0]) | skip)
      have H' := Aside0.mk H
      clear H
      go_wp2
      go_meet
      case rel => exact ⟨_, ((a0_0 == 4)), (by first | rfl | (simp; done) | (simp [*]; done)), H', ⟨by have := HJ1.out; first | omega | exact Nat.le_refl _⟩, ⟨by (with_reducible repeat (first | refine blk_drewN ?_ _ | refine blk_drew ?_ | refine blk_alloc ?_ _)); exact BK145.out⟩, ⟨by repeat (first | (with_reducible first | exact HB.out | apply below_alloc | apply pw_below_drewN | apply below_drew1 | refine below_set ?_ GE145.out) | exact HB.out)⟩⟩
     ·rw [if_neg c14] at H
      have c14b0 : (a0_0 == 4) = false := beq_eq_false_iff_ne.mpr c14
      have c14b1 : (a0_0 != 4) = true := bne_iff_ne.mpr c14
      (first | rw [c14b0] | (simp only [i64_w, i32_w]; rw [c14b0]) | skip)
      have H' := Aside0.mk H
      clear H
      go_wp2
      go_meet
      case rel => exact ⟨_, ((a0_0 == 5)), (by first | rfl | (simp; done) | (simp [*]; done)), H', ⟨by have := HJ1.out; first | omega | exact Nat.le_refl _⟩, ⟨by (with_reducible repeat (first | refine blk_drewN ?_ _ | refine blk_drew ?_ | refine blk_alloc ?_ _)); exact BK145.out⟩, ⟨by repeat (first | (with_reducible first | exact HB.out | apply below_alloc | apply pw_below_drewN | apply below_drew1 | refine below_set ?_ GE145.out) | exact HB.out)⟩⟩
    case rest =>
     clear HC13
     try clear c1
     try clear c2
     try clear p2
     try clear c5
     try clear c5b0
     try clear c5b1
     try clear c6
     try clear c6b0
     try clear c6b1
     try clear c7
     try clear c7b0
     try clear c7b1
     try clear c8
     try clear c8b0
     try clear c8b1
     try clear c9
     try clear c14
     try clear c14b0
     try clear c14b1
     try clear hcz10_0
     try clear hcz10_1
     try clear hcz10_2
     try clear hcz10_3
     try clear hcz10_4
     try clear hcz10_5
     try clear hcz10_6
     try clear hcz10_7
     try clear hcz4_0
     try clear hcz4_1
     try clear hcz4_2
     try clear hcz4_3
     try clear hcz4_4
     try clear hcz4_5
     try clear hcz4_6
     try clear hcz4_7
     try clear hfz10_0
     try clear hfz10_1
     try clear hfz10_2
     try clear hfz10_3
     try clear hfz10_4
     try clear hfz10_5
     try clear hfz10_6
     try clear hfz10_7
     try clear hfz4_0
     try clear hfz4_1
     try clear hfz4_2
     try clear hfz4_3
     try clear hfz4_4
     try clear hfz4_5
     try clear hfz4_6
     try clear hfz4_7
     try clear p2
     obtain ⟨kq, x14_12, rfl, HA, HJ12, BK145, HB⟩ := hcut
     cases kq with
     | zero => exact absurd HA.out (by simp [crosstreeref08_Reads.j1])
     | succ kj12 =>
      have H := HA.out
      clear HA
      simp only [crosstreeref08_Reads.j1] at H
      by_cases c15 : x14_12 = true
      ·subst c15
       have H1 : (some (([a0_2, a0_3] : List Int))) = some r := by rw [if_pos rfl] at H; exact H
       clear H
       have H := H1
       clear H1
       obtain ⟨y149, hy149⟩ : ∃ y_ : List Int, y_ = (([a0_2, a0_3] : List Int)) := ⟨_, rfl⟩
       replace H : (some y149) = some r := by first | (rw [hy149]; with_reducible exact H) | (have H2_ := (Option.bind_some _ _).symm.trans H; rw [hy149]; with_reducible exact H2_) | (have H2_ := (Option.bind_some _ _).symm.trans H; with_reducible exact H2_) | with_reducible exact H | (rw [hy149]; exact H) | exact H
       have Ny149 := Aside0.mk hy149
       clear hy149
       obtain rfl := Option.some.inj H
       have hcz16_0 : wc.cell? ⟨gb145, 0, none⟩ = some (.int .i64 a0_0) := (blk_cell BK145.out 0).trans rfl
       have hcz16_1 : wc.cell? ⟨gb145, 1, none⟩ = some (.int .i64 a0_1) := (blk_cell BK145.out 1).trans rfl
       have hcz16_2 : wc.cell? ⟨gb145, 2, none⟩ = some (.int .i64 a0_2) := (blk_cell BK145.out 2).trans rfl
       have hcz16_3 : wc.cell? ⟨gb145, 3, none⟩ = some (.int .i64 a0_3) := (blk_cell BK145.out 3).trans rfl
       have hcz16_4 : wc.cell? ⟨gb145, 4, none⟩ = some (.int .i64 a0_4) := (blk_cell BK145.out 4).trans rfl
       have hcz16_5 : wc.cell? ⟨gb145, 5, none⟩ = some (.int .i64 a0_5) := (blk_cell BK145.out 5).trans rfl
       have hcz16_6 : wc.cell? ⟨gb145, 6, none⟩ = some (.string a0_6) := (blk_cell BK145.out 6).trans rfl
       have hcz16_7 : wc.cell? ⟨gb145, 7, none⟩ = some (.slice A0_7 l0_7.length c0_7) := (blk_cell BK145.out 7).trans rfl
       have hfz16_0 := blk_frozen BK145.out 0
       have hfz16_1 := blk_frozen BK145.out 1
       have hfz16_2 := blk_frozen BK145.out 2
       have hfz16_3 := blk_frozen BK145.out 3
       have hfz16_4 := blk_frozen BK145.out 4
       have hfz16_5 := blk_frozen BK145.out 5
       have hfz16_6 := blk_frozen BK145.out 6
       have hfz16_7 := blk_frozen BK145.out 7
       go_wp2_with (first | ((with_reducible refine gate_dst (N := 21) rfl ?_); refine Kd.R_lit (Kd.int .i64) _ 3 ?hg (N := 21) ?hd (xs := ([a0_2, a0_3] : List Int)) (inner := [.int .i64 a0_2, .int .i64 a0_3]) (ok := fun _ => True) (okp := fun _ => True) ?hr ?hp (fun _ hk => hk) trivial (Below.refl _ _) (Nat.le_refl _) (by simp) ?_; (case hd => rfl); (case hg => rfl); (case hr => first | (go_simp; done) | (go_simp; rfl)); (case hp => exact (Reps.one (show Kd.M (Kd.int .i64) _ _ _ a0_2 [.int .i64 a0_2] from rfl) (Reps.one (show Kd.M (Kd.int .i64) _ _ _ a0_3 [.int .i64 a0_3] from rfl) (Reps.none _ _)))); intro v150 w17 ho18 hb hg_ hnew_; clear hg_ hnew_; (first | rw [← Ny149.out] at ho18 | (simp only [Int.reduceToNat] at ho18; rw [← Ny149.out] at ho18)); have n0_ := Aside0.mk (Kd.R_lower ho18 (below_size (by repeat (first | (with_reducible first | exact HB.out | apply below_alloc | apply pw_below_drewN | apply below_drew1 | refine below_set ?_ GE145.out) | exact HB.out)))); have n1_ := Aside0.mk (blk_below (g := gb145) (o := .cells #[.int .i64 a0_0, .int .i64 a0_1, .int .i64 a0_2, .int .i64 a0_3, .int .i64 a0_4, .int .i64 a0_5, .string a0_6, .slice A0_7 l0_7.length c0_7] 39 (0, 0)) (by (with_reducible repeat (first | refine blk_drewN ?_ _ | refine blk_drew ?_ | refine blk_alloc ?_ _)); exact BK145.out) hb); have n2_ := Aside0.mk (below_step (by repeat (first | (with_reducible first | exact HB.out | apply below_alloc | apply pw_below_drewN | apply below_drew1 | refine below_set ?_ GE145.out) | exact HB.out)) hb); clear BK145; clear HB; have HO151 := n0_; have BK145 := n1_; have HB := n2_; clear n0_ n1_ n2_; clear hb ho18))
       go_ret
       exact ⟨_, by first | rfl | (simp [errW_none, errW_some] <;> rfl) | (simp [*, errW_none, errW_some] <;> rfl), by (with_reducible repeat (first | apply Kd.R_alloc | apply Kd.R_drewN | apply Kd.R_drew)); exact HO151.out, by repeat (first | (with_reducible first | exact HB.out | apply below_alloc | apply pw_below_drewN | apply below_drew1 | refine below_set ?_ GE145.out) | exact HB.out)⟩
      ·replace c15 := Bool.eq_false_iff.mpr c15
       subst c15
       have H1 : (if a0_0 = 9 then (crosstreeref08_Reads.j2 kj12 a0_0 (a0_0 == 9) a0_0 a0_1 a0_2 a0_3 a0_4 a0_5 a0_6 l0_7) else (crosstreeref08_Reads.j2 kj12 a0_0 (a0_0 == 10) a0_0 a0_1 a0_2 a0_3 a0_4 a0_5 a0_6 l0_7)) = some r := by rw [if_neg (show ¬ (false = true) by decide)] at H; exact H
       clear H
       have H := H1
       clear H1
       have HC19 := Aside0.mk H
       clear H
       go_upto_if 22 with (fail)
       go_cut [22] (fun v22 wc => ∃ (kq : Nat) (x22_18 : Bool), v22 = .bool x22_18 ∧ Aside0 (crosstreeref08_Reads.j2 kq a0_0 x22_18 a0_0 a0_1 a0_2 a0_3 a0_4 a0_5 a0_6 l0_7 = some r) ∧ Aside0 (kq ≤ kj12) ∧ Aside0 (wc.heap[gb145]? = some (.cells #[.int .i64 a0_0, .int .i64 a0_1, .int .i64 a0_2, .int .i64 a0_3, .int .i64 a0_4, .int .i64 a0_5, .string a0_6, (.slice A0_7 l0_7.length c0_7)] 39 (0, 0))) ∧ Aside0 (Below w.heap.size w wc))
       case first =>
        have H := HC19.out
        clear HC19
        by_cases c20 : a0_0 = 9
        ·rw [if_pos c20] at H
         have c20b0 : (a0_0 == 9) = true := beq_iff_eq.mpr c20
         have c20b1 : (a0_0 != 9) = false := bne_eq_false_iff_eq.mpr c20
         clear c20
         (first | rw [c20b0] | (simp only [i64_w, i32_w]; rw [c20b0]) | skip)
         have H' := Aside0.mk H
         clear H
         go_wp2
         go_meet
         case rel => exact ⟨_, ((a0_0 == 9)), (by first | rfl | (simp; done) | (simp [*]; done)), H', ⟨by have := HJ1.out; have := HJ12.out; first | omega | exact Nat.le_refl _⟩, ⟨by (with_reducible repeat (first | refine blk_drewN ?_ _ | refine blk_drew ?_ | refine blk_alloc ?_ _)); exact BK145.out⟩, ⟨by repeat (first | (with_reducible first | exact HB.out | apply below_alloc | apply pw_below_drewN | apply below_drew1 | refine below_set ?_ GE145.out) | exact HB.out)⟩⟩
        ·rw [if_neg c20] at H
         have c20b0 : (a0_0 == 9) = false := beq_eq_false_iff_ne.mpr c20
         have c20b1 : (a0_0 != 9) = true := bne_iff_ne.mpr c20
         (first | rw [c20b0] | (simp only [i64_w, i32_w]; rw [c20b0]) | skip)
         have H' := Aside0.mk H
         clear H
         go_wp2
         go_meet
         case rel => exact ⟨_, ((a0_0 == 10)), (by first | rfl | (simp; done) | (simp [*]; done)), H', ⟨by have := HJ1.out; have := HJ12.out; first | omega | exact Nat.le_refl _⟩, ⟨by (with_reducible repeat (first | refine blk_drewN ?_ _ | refine blk_drew ?_ | refine blk_alloc ?_ _)); exact BK145.out⟩, ⟨by repeat (first | (with_reducible first | exact HB.out | apply below_alloc | apply pw_below_drewN | apply below_drew1 | refine below_set ?_ GE145.out) | exact HB.out)⟩⟩
       case rest =>
        clear HC19
        try clear c1
        try clear c2
        try clear p2
        try clear c5
        try clear c5b0
        try clear c5b1
        try clear c6
        try clear c6b0
        try clear c6b1
        try clear c7
        try clear c7b0
        try clear c7b1
        try clear c8
        try clear c8b0
        try clear c8b1
        try clear c9
        try clear c14
        try clear c14b0
        try clear c14b1
        try clear c15
        try clear c20
        try clear c20b0
        try clear c20b1
        try clear hcz10_0
        try clear hcz10_1
        try clear hcz10_2
        try clear hcz10_3
        try clear hcz10_4
        try clear hcz10_5
        try clear hcz10_6
        try clear hcz10_7
        try clear hcz16_0
        try clear hcz16_1
        try clear hcz16_2
        try clear hcz16_3
        try clear hcz16_4
        try clear hcz16_5
        try clear hcz16_6
        try clear hcz16_7
        try clear hcz4_0
        try clear hcz4_1
        try clear hcz4_2
        try clear hcz4_3
        try clear hcz4_4
        try clear hcz4_5
        try clear hcz4_6
        try clear hcz4_7
        try clear hfz10_0
        try clear hfz10_1
        try clear hfz10_2
        try clear hfz10_3
        try clear hfz10_4
        try clear hfz10_5
        try clear hfz10_6
        try clear hfz10_7
        try clear hfz16_0
        try clear hfz16_1
        try clear hfz16_2
        try clear hfz16_3
        try clear hfz16_4
        try clear hfz16_5
        try clear hfz16_6
        try clear hfz16_7
        try clear hfz4_0
        try clear hfz4_1
        try clear hfz4_2
        try clear hfz4_3
        try clear hfz4_4
        try clear hfz4_5
        try clear hfz4_6
        try clear hfz4_7
        try clear p2
        obtain ⟨kq, x22_18, rfl, HA, HJ18, BK145, HB⟩ := hcut
        cases kq with
        | zero => exact absurd HA.out (by simp [crosstreeref08_Reads.j2])
        | succ kj18 =>
         have H := HA.out
         clear HA
         simp only [crosstreeref08_Reads.j2] at H
         by_cases c21 : x22_18 = true
         ·subst c21
          have H1 : (some (([a0_1, a0_2] : List Int))) = some r := by rw [if_pos rfl] at H; exact H
          clear H
          have H := H1
          clear H1
          obtain ⟨y152, hy152⟩ : ∃ y_ : List Int, y_ = (([a0_1, a0_2] : List Int)) := ⟨_, rfl⟩
          replace H : (some y152) = some r := by first | (rw [hy152]; with_reducible exact H) | (have H2_ := (Option.bind_some _ _).symm.trans H; rw [hy152]; with_reducible exact H2_) | (have H2_ := (Option.bind_some _ _).symm.trans H; with_reducible exact H2_) | with_reducible exact H | (rw [hy152]; exact H) | exact H
          have Ny152 := Aside0.mk hy152
          clear hy152
          obtain rfl := Option.some.inj H
          have hcz22_0 : wc.cell? ⟨gb145, 0, none⟩ = some (.int .i64 a0_0) := (blk_cell BK145.out 0).trans rfl
          have hcz22_1 : wc.cell? ⟨gb145, 1, none⟩ = some (.int .i64 a0_1) := (blk_cell BK145.out 1).trans rfl
          have hcz22_2 : wc.cell? ⟨gb145, 2, none⟩ = some (.int .i64 a0_2) := (blk_cell BK145.out 2).trans rfl
          have hcz22_3 : wc.cell? ⟨gb145, 3, none⟩ = some (.int .i64 a0_3) := (blk_cell BK145.out 3).trans rfl
          have hcz22_4 : wc.cell? ⟨gb145, 4, none⟩ = some (.int .i64 a0_4) := (blk_cell BK145.out 4).trans rfl
          have hcz22_5 : wc.cell? ⟨gb145, 5, none⟩ = some (.int .i64 a0_5) := (blk_cell BK145.out 5).trans rfl
          have hcz22_6 : wc.cell? ⟨gb145, 6, none⟩ = some (.string a0_6) := (blk_cell BK145.out 6).trans rfl
          have hcz22_7 : wc.cell? ⟨gb145, 7, none⟩ = some (.slice A0_7 l0_7.length c0_7) := (blk_cell BK145.out 7).trans rfl
          have hfz22_0 := blk_frozen BK145.out 0
          have hfz22_1 := blk_frozen BK145.out 1
          have hfz22_2 := blk_frozen BK145.out 2
          have hfz22_3 := blk_frozen BK145.out 3
          have hfz22_4 := blk_frozen BK145.out 4
          have hfz22_5 := blk_frozen BK145.out 5
          have hfz22_6 := blk_frozen BK145.out 6
          have hfz22_7 := blk_frozen BK145.out 7
          go_wp2_with (first | ((with_reducible refine gate_dst (N := 29) rfl ?_); refine Kd.R_lit (Kd.int .i64) _ 3 ?hg (N := 29) ?hd (xs := ([a0_1, a0_2] : List Int)) (inner := [.int .i64 a0_1, .int .i64 a0_2]) (ok := fun _ => True) (okp := fun _ => True) ?hr ?hp (fun _ hk => hk) trivial (Below.refl _ _) (Nat.le_refl _) (by simp) ?_; (case hd => rfl); (case hg => rfl); (case hr => first | (go_simp; done) | (go_simp; rfl)); (case hp => exact (Reps.one (show Kd.M (Kd.int .i64) _ _ _ a0_1 [.int .i64 a0_1] from rfl) (Reps.one (show Kd.M (Kd.int .i64) _ _ _ a0_2 [.int .i64 a0_2] from rfl) (Reps.none _ _)))); intro v153 w23 ho24 hb hg_ hnew_; clear hg_ hnew_; (first | rw [← Ny152.out] at ho24 | (simp only [Int.reduceToNat] at ho24; rw [← Ny152.out] at ho24)); have n0_ := Aside0.mk (Kd.R_lower ho24 (below_size (by repeat (first | (with_reducible first | exact HB.out | apply below_alloc | apply pw_below_drewN | apply below_drew1 | refine below_set ?_ GE145.out) | exact HB.out)))); have n1_ := Aside0.mk (blk_below (g := gb145) (o := .cells #[.int .i64 a0_0, .int .i64 a0_1, .int .i64 a0_2, .int .i64 a0_3, .int .i64 a0_4, .int .i64 a0_5, .string a0_6, .slice A0_7 l0_7.length c0_7] 39 (0, 0)) (by (with_reducible repeat (first | refine blk_drewN ?_ _ | refine blk_drew ?_ | refine blk_alloc ?_ _)); exact BK145.out) hb); have n2_ := Aside0.mk (below_step (by repeat (first | (with_reducible first | exact HB.out | apply below_alloc | apply pw_below_drewN | apply below_drew1 | refine below_set ?_ GE145.out) | exact HB.out)) hb); clear BK145; clear HB; have HO154 := n0_; have BK145 := n1_; have HB := n2_; clear n0_ n1_ n2_; clear hb ho24))
          go_ret
          exact ⟨_, by first | rfl | (simp [errW_none, errW_some] <;> rfl) | (simp [*, errW_none, errW_some] <;> rfl), by (with_reducible repeat (first | apply Kd.R_alloc | apply Kd.R_drewN | apply Kd.R_drew)); exact HO154.out, by repeat (first | (with_reducible first | exact HB.out | apply below_alloc | apply pw_below_drewN | apply below_drew1 | refine below_set ?_ GE145.out) | exact HB.out)⟩
         ·replace c21 := Bool.eq_false_iff.mpr c21
          subst c21
          have H1 : (if a0_0 = 11 then (crosstreeref08_Reads.j3 kj18 a0_0 (a0_0 == 11) a0_0 a0_1 a0_2 a0_3 a0_4 a0_5 a0_6 l0_7) else (crosstreeref08_Reads.j3 kj18 a0_0 (a0_0 == 12) a0_0 a0_1 a0_2 a0_3 a0_4 a0_5 a0_6 l0_7)) = some r := by rw [if_neg (show ¬ (false = true) by decide)] at H; exact H
          clear H
          have H := H1
          clear H1
          have HC25 := Aside0.mk H
          clear H
          go_upto_if 30 with (fail)
          go_cut [30] (fun v30 wc => ∃ (kq : Nat) (x30_24 : Bool), v30 = .bool x30_24 ∧ Aside0 (crosstreeref08_Reads.j3 kq a0_0 x30_24 a0_0 a0_1 a0_2 a0_3 a0_4 a0_5 a0_6 l0_7 = some r) ∧ Aside0 (kq ≤ kj18) ∧ Aside0 (wc.heap[gb145]? = some (.cells #[.int .i64 a0_0, .int .i64 a0_1, .int .i64 a0_2, .int .i64 a0_3, .int .i64 a0_4, .int .i64 a0_5, .string a0_6, (.slice A0_7 l0_7.length c0_7)] 39 (0, 0))) ∧ Aside0 (Below w.heap.size w wc))
          case first =>
           have H := HC25.out
           clear HC25
           by_cases c26 : a0_0 = 11
           ·rw [if_pos c26] at H
            have c26b0 : (a0_0 == 11) = true := beq_iff_eq.mpr c26
            have c26b1 : (a0_0 != 11) = false := bne_eq_false_iff_eq.mpr c26
            clear c26
            (first | rw [c26b0] | (simp only [i64_w, i32_w]; rw [c26b0]) | skip)
            have H' := Aside0.mk H
            clear H
            go_wp2
            go_meet
            case rel => exact ⟨_, ((a0_0 == 11)), (by first | rfl | (simp; done) | (simp [*]; done)), H', ⟨by have := HJ1.out; have := HJ12.out; have := HJ18.out; first | omega | exact Nat.le_refl _⟩, ⟨by (with_reducible repeat (first | refine blk_drewN ?_ _ | refine blk_drew ?_ | refine blk_alloc ?_ _)); exact BK145.out⟩, ⟨by repeat (first | (with_reducible first | exact HB.out | apply below_alloc | apply pw_below_drewN | apply below_drew1 | refine below_set ?_ GE145.out) | exact HB.out)⟩⟩
           ·rw [if_neg c26] at H
            have c26b0 : (a0_0 == 11) = false := beq_eq_false_iff_ne.mpr c26
            have c26b1 : (a0_0 != 11) = true := bne_iff_ne.mpr c26
            (first | rw [c26b0] | (simp only [i64_w, i32_w]; rw [c26b0]) | skip)
            have H' := Aside0.mk H
            clear H
            go_wp2
            go_meet
            case rel => exact ⟨_, ((a0_0 == 12)), (by first | rfl | (simp; done) | (simp [*]; done)), H', ⟨by have := HJ1.out; have := HJ12.out; have := HJ18.out; first | omega | exact Nat.le_refl _⟩, ⟨by (with_reducible repeat (first | refine blk_drewN ?_ _ | refine blk_drew ?_ | refine blk_alloc ?_ _)); exact BK145.out⟩, ⟨by repeat (first | (with_reducible first | exact HB.out | apply below_alloc | apply pw_below_drewN | apply below_drew1 | refine below_set ?_ GE145.out) | exact HB.out)⟩⟩
          case rest =>
           clear HC25
           try clear c1
           try clear c2
           try clear p2
           try clear c5
           try clear c5b0
           try clear c5b1
           try clear c6
           try clear c6b0
           try clear c6b1
           try clear c7
           try clear c7b0
           try clear c7b1
           try clear c8
           try clear c8b0
           try clear c8b1
           try clear c9
           try clear c14
           try clear c14b0
           try clear c14b1
           try clear c15
           try clear c20
           try clear c20b0
           try clear c20b1
           try clear c21
           try clear c26
           try clear c26b0
           try clear c26b1
           try clear hcz10_0
           try clear hcz10_1
           try clear hcz10_2
           try clear hcz10_3
           try clear hcz10_4
           try clear hcz10_5
           try clear hcz10_6
           try clear hcz10_7
           try clear hcz16_0
           try clear hcz16_1
           try clear hcz16_2
           try clear hcz16_3
           try clear hcz16_4
           try clear hcz16_5
           try clear hcz16_6
           try clear hcz16_7
           try clear hcz22_0
           try clear hcz22_1
           try clear hcz22_2
           try clear hcz22_3
           try clear hcz22_4
           try clear hcz22_5
           try clear hcz22_6
           try clear hcz22_7
           try clear hcz4_0
           try clear hcz4_1
           try clear hcz4_2
           try clear hcz4_3
           try clear hcz4_4
           try clear hcz4_5
           try clear hcz4_6
           try clear hcz4_7
           try clear hfz10_0
           try clear hfz10_1
           try clear hfz10_2
           try clear hfz10_3
           try clear hfz10_4
           try clear hfz10_5
           try clear hfz10_6
           try clear hfz10_7
           try clear hfz16_0
           try clear hfz16_1
           try clear hfz16_2
           try clear hfz16_3
           try clear hfz16_4
           try clear hfz16_5
           try clear hfz16_6
           try clear hfz16_7
           try clear hfz22_0
           try clear hfz22_1
           try clear hfz22_2
           try clear hfz22_3
           try clear hfz22_4
           try clear hfz22_5
           try clear hfz22_6
           try clear hfz22_7
           try clear hfz4_0
           try clear hfz4_1
           try clear hfz4_2
           try clear hfz4_3
           try clear hfz4_4
           try clear hfz4_5
           try clear hfz4_6
           try clear hfz4_7
           try clear p2
           obtain ⟨kq, x30_24, rfl, HA, HJ24, BK145, HB⟩ := hcut
           cases kq with
           | zero => exact absurd HA.out (by simp [crosstreeref08_Reads.j3])
           | succ kj24 =>
            have H := HA.out
            clear HA
            simp only [crosstreeref08_Reads.j3] at H
            by_cases c27 : x30_24 = true
            ·subst c27
             have H1 : (some (([a0_1, a0_2, a0_3] : List Int))) = some r := by rw [if_pos rfl] at H; exact H
             clear H
             have H := H1
             clear H1
             obtain ⟨y155, hy155⟩ : ∃ y_ : List Int, y_ = (([a0_1, a0_2, a0_3] : List Int)) := ⟨_, rfl⟩
             replace H : (some y155) = some r := by first | (rw [hy155]; with_reducible exact H) | (have H2_ := (Option.bind_some _ _).symm.trans H; rw [hy155]; with_reducible exact H2_) | (have H2_ := (Option.bind_some _ _).symm.trans H; with_reducible exact H2_) | with_reducible exact H | (rw [hy155]; exact H) | exact H
             have Ny155 := Aside0.mk hy155
             clear hy155
             obtain rfl := Option.some.inj H
             have hcz28_0 : wc.cell? ⟨gb145, 0, none⟩ = some (.int .i64 a0_0) := (blk_cell BK145.out 0).trans rfl
             have hcz28_1 : wc.cell? ⟨gb145, 1, none⟩ = some (.int .i64 a0_1) := (blk_cell BK145.out 1).trans rfl
             have hcz28_2 : wc.cell? ⟨gb145, 2, none⟩ = some (.int .i64 a0_2) := (blk_cell BK145.out 2).trans rfl
             have hcz28_3 : wc.cell? ⟨gb145, 3, none⟩ = some (.int .i64 a0_3) := (blk_cell BK145.out 3).trans rfl
             have hcz28_4 : wc.cell? ⟨gb145, 4, none⟩ = some (.int .i64 a0_4) := (blk_cell BK145.out 4).trans rfl
             have hcz28_5 : wc.cell? ⟨gb145, 5, none⟩ = some (.int .i64 a0_5) := (blk_cell BK145.out 5).trans rfl
             have hcz28_6 : wc.cell? ⟨gb145, 6, none⟩ = some (.string a0_6) := (blk_cell BK145.out 6).trans rfl
             have hcz28_7 : wc.cell? ⟨gb145, 7, none⟩ = some (.slice A0_7 l0_7.length c0_7) := (blk_cell BK145.out 7).trans rfl
             have hfz28_0 := blk_frozen BK145.out 0
             have hfz28_1 := blk_frozen BK145.out 1
             have hfz28_2 := blk_frozen BK145.out 2
             have hfz28_3 := blk_frozen BK145.out 3
             have hfz28_4 := blk_frozen BK145.out 4
             have hfz28_5 := blk_frozen BK145.out 5
             have hfz28_6 := blk_frozen BK145.out 6
             have hfz28_7 := blk_frozen BK145.out 7
             go_wp2_with (first | ((with_reducible refine gate_dst (N := 39) rfl ?_); refine Kd.R_lit (Kd.int .i64) _ 3 ?hg (N := 39) ?hd (xs := ([a0_1, a0_2, a0_3] : List Int)) (inner := [.int .i64 a0_1, .int .i64 a0_2, .int .i64 a0_3]) (ok := fun _ => True) (okp := fun _ => True) ?hr ?hp (fun _ hk => hk) trivial (Below.refl _ _) (Nat.le_refl _) (by simp) ?_; (case hd => rfl); (case hg => rfl); (case hr => first | (go_simp; done) | (go_simp; rfl)); (case hp => exact (Reps.one (show Kd.M (Kd.int .i64) _ _ _ a0_1 [.int .i64 a0_1] from rfl) (Reps.one (show Kd.M (Kd.int .i64) _ _ _ a0_2 [.int .i64 a0_2] from rfl) (Reps.one (show Kd.M (Kd.int .i64) _ _ _ a0_3 [.int .i64 a0_3] from rfl) (Reps.none _ _))))); intro v156 w29 ho30 hb hg_ hnew_; clear hg_ hnew_; (first | rw [← Ny155.out] at ho30 | (simp only [Int.reduceToNat] at ho30; rw [← Ny155.out] at ho30)); have n0_ := Aside0.mk (Kd.R_lower ho30 (below_size (by repeat (first | (with_reducible first | exact HB.out | apply below_alloc | apply pw_below_drewN | apply below_drew1 | refine below_set ?_ GE145.out) | exact HB.out)))); have n1_ := Aside0.mk (blk_below (g := gb145) (o := .cells #[.int .i64 a0_0, .int .i64 a0_1, .int .i64 a0_2, .int .i64 a0_3, .int .i64 a0_4, .int .i64 a0_5, .string a0_6, .slice A0_7 l0_7.length c0_7] 39 (0, 0)) (by (with_reducible repeat (first | refine blk_drewN ?_ _ | refine blk_drew ?_ | refine blk_alloc ?_ _)); exact BK145.out) hb); have n2_ := Aside0.mk (below_step (by repeat (first | (with_reducible first | exact HB.out | apply below_alloc | apply pw_below_drewN | apply below_drew1 | refine below_set ?_ GE145.out) | exact HB.out)) hb); clear BK145; clear HB; have HO157 := n0_; have BK145 := n1_; have HB := n2_; clear n0_ n1_ n2_; clear hb ho30))
             go_ret
             exact ⟨_, by first | rfl | (simp [errW_none, errW_some] <;> rfl) | (simp [*, errW_none, errW_some] <;> rfl), by (with_reducible repeat (first | apply Kd.R_alloc | apply Kd.R_drewN | apply Kd.R_drew)); exact HO157.out, by repeat (first | (with_reducible first | exact HB.out | apply below_alloc | apply pw_below_drewN | apply below_drew1 | refine below_set ?_ GE145.out) | exact HB.out)⟩
            ·replace c27 := Bool.eq_false_iff.mpr c27
             subst c27
             have H1 : (if a0_0 = 14 then (crosstreeref08_Reads.j4 kj24 a0_0 (a0_0 == 14) a0_0 a0_1 a0_2 a0_3 a0_4 a0_5 a0_6 l0_7) else (crosstreeref08_Reads.j4 kj24 a0_0 (a0_0 == 18) a0_0 a0_1 a0_2 a0_3 a0_4 a0_5 a0_6 l0_7)) = some r := by rw [if_neg (show ¬ (false = true) by decide)] at H; exact H
             clear H
             have H := H1
             clear H1
             have HC31 := Aside0.mk H
             clear H
             go_upto_if 40 with (fail)
             go_cut [40] (fun v40 wc => ∃ (kq : Nat) (x40_30 : Bool), v40 = .bool x40_30 ∧ Aside0 (crosstreeref08_Reads.j4 kq a0_0 x40_30 a0_0 a0_1 a0_2 a0_3 a0_4 a0_5 a0_6 l0_7 = some r) ∧ Aside0 (kq ≤ kj24) ∧ Aside0 (wc.heap[gb145]? = some (.cells #[.int .i64 a0_0, .int .i64 a0_1, .int .i64 a0_2, .int .i64 a0_3, .int .i64 a0_4, .int .i64 a0_5, .string a0_6, (.slice A0_7 l0_7.length c0_7)] 39 (0, 0))) ∧ Aside0 (Below w.heap.size w wc))
             case first =>
              have H := HC31.out
              clear HC31
              by_cases c32 : a0_0 = 14
              ·rw [if_pos c32] at H
               have c32b0 : (a0_0 == 14) = true := beq_iff_eq.mpr c32
               have c32b1 : (a0_0 != 14) = false := bne_eq_false_iff_eq.mpr c32
               clear c32
               (first | rw [c32b0] | (simp only [i64_w, i32_w]; rw [c32b0]) | skip)
               have H' := Aside0.mk H
               clear H
               go_wp2
               go_meet
               case rel => exact ⟨_, ((a0_0 == 14)), (by first | rfl | (simp; done) | (simp [*]; done)), H', ⟨by have := HJ1.out; have := HJ12.out; have := HJ18.out; have := HJ24.out; first | omega | exact Nat.le_refl _⟩, ⟨by (with_reducible repeat (first | refine blk_drewN ?_ _ | refine blk_drew ?_ | refine blk_alloc ?_ _)); exact BK145.out⟩, ⟨by repeat (first | (with_reducible first | exact HB.out | apply below_alloc | apply pw_below_drewN | apply below_drew1 | refine below_set ?_ GE145.out) | exact HB.out)⟩⟩
              ·rw [if_neg c32] at H
               have c32b0 : (a0_0 == 14) = false := beq_eq_false_iff_ne.mpr c32
               have c32b1 : (a0_0 != 14) = true := bne_iff_ne.mpr c32
               (first | rw [c32b0] | (simp only [i64_w, i32_w]; rw [c32b0]) | skip)
               have H' := Aside0.mk H
               clear H
               go_wp2
               go_meet
               case rel => exact ⟨_, ((a0_0 == 18)), (by first | rfl | (simp; done) | (simp [*]; done)), H', ⟨by have := HJ1.out; have := HJ12.out; have := HJ18.out; have := HJ24.out; first | omega | exact Nat.le_refl _⟩, ⟨by (with_reducible repeat (first | refine blk_drewN ?_ _ | refine blk_drew ?_ | refine blk_alloc ?_ _)); exact BK145.out⟩, ⟨by repeat (first | (with_reducible first | exact HB.out | apply below_alloc | apply pw_below_drewN | apply below_drew1 | refine below_set ?_ GE145.out) | exact HB.out)⟩⟩
             case rest =>
              clear HC31
              try clear c1
              try clear c2
              try clear p2
              try clear c3
              try clear c5
              try clear c5b0
              try clear c5b1
              try clear c6
              try clear c6b0
              try clear c6b1
              try clear c7
              try clear c7b0
              try clear c7b1
              try clear c8
              try clear c8b0
              try clear c8b1
              try clear c9
              try clear c14
              try clear c14b0
              try clear c14b1
              try clear c15
              try clear c20
              try clear c20b0
              try clear c20b1
              try clear c21
              try clear c26
              try clear c26b0
              try clear c26b1
              try clear c27
              try clear c32
              try clear c32b0
              try clear c32b1
              try clear hcz10_0
              try clear hcz10_1
              try clear hcz10_2
              try clear hcz10_3
              try clear hcz10_4
              try clear hcz10_5
              try clear hcz10_6
              try clear hcz10_7
              try clear hcz16_0
              try clear hcz16_1
              try clear hcz16_2
              try clear hcz16_3
              try clear hcz16_4
              try clear hcz16_5
              try clear hcz16_6
              try clear hcz16_7
              try clear hcz22_0
              try clear hcz22_1
              try clear hcz22_2
              try clear hcz22_3
              try clear hcz22_4
              try clear hcz22_5
              try clear hcz22_6
              try clear hcz22_7
              try clear hcz28_0
              try clear hcz28_1
              try clear hcz28_2
              try clear hcz28_3
              try clear hcz28_4
              try clear hcz28_5
              try clear hcz28_6
              try clear hcz28_7
              try clear hcz4_0
              try clear hcz4_1
              try clear hcz4_2
              try clear hcz4_3
              try clear hcz4_4
              try clear hcz4_5
              try clear hcz4_6
              try clear hcz4_7
              try clear hfz10_0
              try clear hfz10_1
              try clear hfz10_2
              try clear hfz10_3
              try clear hfz10_4
              try clear hfz10_5
              try clear hfz10_6
              try clear hfz10_7
              try clear hfz16_0
              try clear hfz16_1
              try clear hfz16_2
              try clear hfz16_3
              try clear hfz16_4
              try clear hfz16_5
              try clear hfz16_6
              try clear hfz16_7
              try clear hfz22_0
              try clear hfz22_1
              try clear hfz22_2
              try clear hfz22_3
              try clear hfz22_4
              try clear hfz22_5
              try clear hfz22_6
              try clear hfz22_7
              try clear hfz28_0
              try clear hfz28_1
              try clear hfz28_2
              try clear hfz28_3
              try clear hfz28_4
              try clear hfz28_5
              try clear hfz28_6
              try clear hfz28_7
              try clear hfz4_0
              try clear hfz4_1
              try clear hfz4_2
              try clear hfz4_3
              try clear hfz4_4
              try clear hfz4_5
              try clear hfz4_6
              try clear hfz4_7
              try clear p2
              obtain ⟨kq, x40_30, rfl, HA, HJ30, BK145, HB⟩ := hcut
              cases kq with
              | zero => exact absurd HA.out (by simp [crosstreeref08_Reads.j4])
              | succ kj30 =>
               have H := HA.out
               clear HA
               simp only [crosstreeref08_Reads.j4] at H
               by_cases c33 : x40_30 = true
               ·subst c33
                have H1 : (some (([a0_1] : List Int))) = some r := by rw [if_pos rfl] at H; exact H
                clear H
                have H := H1
                clear H1
                obtain ⟨y158, hy158⟩ : ∃ y_ : List Int, y_ = (([a0_1] : List Int)) := ⟨_, rfl⟩
                replace H : (some y158) = some r := by first | (rw [hy158]; with_reducible exact H) | (have H2_ := (Option.bind_some _ _).symm.trans H; rw [hy158]; with_reducible exact H2_) | (have H2_ := (Option.bind_some _ _).symm.trans H; with_reducible exact H2_) | with_reducible exact H | (rw [hy158]; exact H) | exact H
                have Ny158 := Aside0.mk hy158
                clear hy158
                obtain rfl := Option.some.inj H
                have hcz34_0 : wc.cell? ⟨gb145, 0, none⟩ = some (.int .i64 a0_0) := (blk_cell BK145.out 0).trans rfl
                have hcz34_1 : wc.cell? ⟨gb145, 1, none⟩ = some (.int .i64 a0_1) := (blk_cell BK145.out 1).trans rfl
                have hcz34_2 : wc.cell? ⟨gb145, 2, none⟩ = some (.int .i64 a0_2) := (blk_cell BK145.out 2).trans rfl
                have hcz34_3 : wc.cell? ⟨gb145, 3, none⟩ = some (.int .i64 a0_3) := (blk_cell BK145.out 3).trans rfl
                have hcz34_4 : wc.cell? ⟨gb145, 4, none⟩ = some (.int .i64 a0_4) := (blk_cell BK145.out 4).trans rfl
                have hcz34_5 : wc.cell? ⟨gb145, 5, none⟩ = some (.int .i64 a0_5) := (blk_cell BK145.out 5).trans rfl
                have hcz34_6 : wc.cell? ⟨gb145, 6, none⟩ = some (.string a0_6) := (blk_cell BK145.out 6).trans rfl
                have hcz34_7 : wc.cell? ⟨gb145, 7, none⟩ = some (.slice A0_7 l0_7.length c0_7) := (blk_cell BK145.out 7).trans rfl
                have hfz34_0 := blk_frozen BK145.out 0
                have hfz34_1 := blk_frozen BK145.out 1
                have hfz34_2 := blk_frozen BK145.out 2
                have hfz34_3 := blk_frozen BK145.out 3
                have hfz34_4 := blk_frozen BK145.out 4
                have hfz34_5 := blk_frozen BK145.out 5
                have hfz34_6 := blk_frozen BK145.out 6
                have hfz34_7 := blk_frozen BK145.out 7
                go_wp2_with (first | ((with_reducible refine gate_dst (N := 45) rfl ?_); refine Kd.R_lit (Kd.int .i64) _ 3 ?hg (N := 45) ?hd (xs := ([a0_1] : List Int)) (inner := [.int .i64 a0_1]) (ok := fun _ => True) (okp := fun _ => True) ?hr ?hp (fun _ hk => hk) trivial (Below.refl _ _) (Nat.le_refl _) (by simp) ?_; (case hd => rfl); (case hg => rfl); (case hr => first | (go_simp; done) | (go_simp; rfl)); (case hp => exact (Reps.one (show Kd.M (Kd.int .i64) _ _ _ a0_1 [.int .i64 a0_1] from rfl) (Reps.none _ _))); intro v159 w35 ho36 hb hg_ hnew_; clear hg_ hnew_; (first | rw [← Ny158.out] at ho36 | (simp only [Int.reduceToNat] at ho36; rw [← Ny158.out] at ho36)); have n0_ := Aside0.mk (Kd.R_lower ho36 (below_size (by repeat (first | (with_reducible first | exact HB.out | apply below_alloc | apply pw_below_drewN | apply below_drew1 | refine below_set ?_ GE145.out) | exact HB.out)))); have n1_ := Aside0.mk (blk_below (g := gb145) (o := .cells #[.int .i64 a0_0, .int .i64 a0_1, .int .i64 a0_2, .int .i64 a0_3, .int .i64 a0_4, .int .i64 a0_5, .string a0_6, .slice A0_7 l0_7.length c0_7] 39 (0, 0)) (by (with_reducible repeat (first | refine blk_drewN ?_ _ | refine blk_drew ?_ | refine blk_alloc ?_ _)); exact BK145.out) hb); have n2_ := Aside0.mk (below_step (by repeat (first | (with_reducible first | exact HB.out | apply below_alloc | apply pw_below_drewN | apply below_drew1 | refine below_set ?_ GE145.out) | exact HB.out)) hb); clear BK145; clear HB; have HO160 := n0_; have BK145 := n1_; have HB := n2_; clear n0_ n1_ n2_; clear hb ho36))
                go_ret
                exact ⟨_, by first | rfl | (simp [errW_none, errW_some] <;> rfl) | (simp [*, errW_none, errW_some] <;> rfl), by (with_reducible repeat (first | apply Kd.R_alloc | apply Kd.R_drewN | apply Kd.R_drew)); exact HO160.out, by repeat (first | (with_reducible first | exact HB.out | apply below_alloc | apply pw_below_drewN | apply below_drew1 | refine below_set ?_ GE145.out) | exact HB.out)⟩
               ·replace c33 := Bool.eq_false_iff.mpr c33
                subst c33
                have H1 : (if a0_0 = 15 then ((some (([] : List Int) : List Int)).bind fun y161 => (if y161.length + l0_7.length < 17592186044416 then (some (y161 ++ l0_7)) else (none))) else (if a0_0 = 16 then ((some (([a0_2] : List Int) : List Int)).bind fun y167 => (if y167.length + l0_7.length < 17592186044416 then (some (y167 ++ l0_7)) else (none))) else (if a0_0 = 19 then (if a0_1 = (-1) then (some ([] : List Int)) else (some (([a0_1] : List Int)))) else (some ([] : List Int))))) = some r := by rw [if_neg (show ¬ (false = true) by decide)] at H; exact H
                clear H
                have H := H1
                clear H1
                by_cases c37 : a0_0 = 15
                ·rw [if_pos c37] at H
                 have c37b0 : (a0_0 == 15) = true := beq_iff_eq.mpr c37
                 have c37b1 : (a0_0 != 15) = false := bne_eq_false_iff_eq.mpr c37
                 clear c37
                 obtain ⟨y161, hy161⟩ : ∃ y_ : List Int, y_ = (([] : List Int)) := ⟨_, rfl⟩
                 replace H : (if y161.length + l0_7.length < 17592186044416 then (some (y161 ++ l0_7)) else (none)) = some r := by first | (rw [hy161]; with_reducible exact H) | (have H2_ := (Option.bind_some _ _).symm.trans H; rw [hy161]; with_reducible exact H2_) | (have H2_ := (Option.bind_some _ _).symm.trans H; with_reducible exact H2_) | with_reducible exact H | (rw [hy161]; exact H) | exact H
                 have Ny161 := Aside0.mk hy161
                 clear hy161
                 by_cases c38 : y161.length + l0_7.length < 17592186044416
                 ·rw [if_pos c38] at H
                  have LMc38 := Aside0.mk c38
                  clear c38
                  obtain ⟨y164, hy164⟩ : ∃ y_ : List Int, y_ = (y161 ++ l0_7) := ⟨_, rfl⟩
                  replace H : (some y164) = some r := by first | (rw [hy164]; with_reducible exact H) | (have H2_ := (Option.bind_some _ _).symm.trans H; rw [hy164]; with_reducible exact H2_) | (have H2_ := (Option.bind_some _ _).symm.trans H; with_reducible exact H2_) | with_reducible exact H | (rw [hy164]; exact H) | exact H
                  have Ny164 := Aside0.mk hy164
                  clear hy164
                  obtain rfl := Option.some.inj H
                  go_wp2_with (first | ((with_reducible refine gate_dst (N := 48) rfl ?_); refine Kd.R_lit (Kd.int .i64) _ 3 ?hg (N := 48) ?hd (xs := ([] : List Int)) (inner := []) (ok := fun _ => True) (okp := fun _ => True) ?hr ?hp (fun _ hk => hk) trivial (Below.refl _ _) (Nat.le_refl _) (by simp) ?_; (case hd => rfl); (case hg => rfl); (case hr => first | (go_simp; done) | (go_simp; rfl)); (case hp => exact (Reps.none _ _)); intro v162 w39 ho40 hb hg_ hnew_; clear hg_ hnew_; (first | rw [← Ny161.out] at ho40 | (simp only [Int.reduceToNat] at ho40; rw [← Ny161.out] at ho40)); have n0_ := Aside0.mk (Kd.R_lower ho40 (below_size (by repeat (first | (with_reducible first | exact HB.out | apply below_alloc | apply pw_below_drewN | apply below_drew1 | refine below_set ?_ GE145.out) | exact HB.out)))); have n1_ := Aside0.mk (blk_below (g := gb145) (o := .cells #[.int .i64 a0_0, .int .i64 a0_1, .int .i64 a0_2, .int .i64 a0_3, .int .i64 a0_4, .int .i64 a0_5, .string a0_6, .slice A0_7 l0_7.length c0_7] 39 (0, 0)) (by (with_reducible repeat (first | refine blk_drewN ?_ _ | refine blk_drew ?_ | refine blk_alloc ?_ _)); exact BK145.out) hb); have n2_ := Aside0.mk (below_step (by repeat (first | (with_reducible first | exact HB.out | apply below_alloc | apply pw_below_drewN | apply below_drew1 | refine below_set ?_ GE145.out) | exact HB.out)) hb); clear BK145; clear HB; have HO163 := n0_; have BK145 := n1_; have HB := n2_; clear n0_ n1_ n2_; clear hb ho40; have hcz41_0 : w39.cell? ⟨gb145, 0, none⟩ = some (.int .i64 a0_0) := (blk_cell BK145.out 0).trans rfl; have hcz41_1 : w39.cell? ⟨gb145, 1, none⟩ = some (.int .i64 a0_1) := (blk_cell BK145.out 1).trans rfl; have hcz41_2 : w39.cell? ⟨gb145, 2, none⟩ = some (.int .i64 a0_2) := (blk_cell BK145.out 2).trans rfl; have hcz41_3 : w39.cell? ⟨gb145, 3, none⟩ = some (.int .i64 a0_3) := (blk_cell BK145.out 3).trans rfl; have hcz41_4 : w39.cell? ⟨gb145, 4, none⟩ = some (.int .i64 a0_4) := (blk_cell BK145.out 4).trans rfl; have hcz41_5 : w39.cell? ⟨gb145, 5, none⟩ = some (.int .i64 a0_5) := (blk_cell BK145.out 5).trans rfl; have hcz41_6 : w39.cell? ⟨gb145, 6, none⟩ = some (.string a0_6) := (blk_cell BK145.out 6).trans rfl; have hcz41_7 : w39.cell? ⟨gb145, 7, none⟩ = some (.slice A0_7 l0_7.length c0_7) := (blk_cell BK145.out 7).trans rfl; have hfz41_0 := blk_frozen BK145.out 0; have hfz41_1 := blk_frozen BK145.out 1; have hfz41_2 := blk_frozen BK145.out 2; have hfz41_3 := blk_frozen BK145.out 3; have hfz41_4 := blk_frozen BK145.out 4; have hfz41_5 := blk_frozen BK145.out 5; have hfz41_6 := blk_frozen BK145.out 6; have hfz41_7 := blk_frozen BK145.out 7) | ((with_reducible refine gate_builtin (b := .append) (xs := #[.tmp 48, .tmp 50]) rfl ?_); at_builtin; refine Kd.R_append_rows (Kd.int .i64) (w0 := w) w.heap.size rfl (.tmp 48) (.tmp 50) 33 3 (.int .i64 0) 8 rfl Tryd.underlying33 info3 rfl (by decide) (by omega) v162 y161 l0_7 _ _ _ (fun _ => True) (fun _ => False) rfl rfl ?aO ?aR (fun _ _ h => h) (fun _ h => h.elim) ?aF ?aB ?aS ?aL ?_; (case aR => repeat (first | exact (Kd.C_below HR0_7.out HB.out) | (with_reducible refine Kd.C_alloc ?_ _) | (with_reducible refine Kd.C_drewN ?_ _) | (with_reducible refine Kd.C_drew ?_))); (case aB => exact (by repeat (first | (with_reducible first | exact HB.out | apply below_alloc | apply pw_below_drewN | apply below_drew1 | refine below_set ?_ GE145.out) | exact HB.out))); (case aF => exact (fun _ _ => trivial)); (case aO => exact (by (with_reducible repeat (first | apply Kd.R_alloc | apply Kd.R_drewN | apply Kd.R_drew)); exact HO163.out)); (case aS => exact (below_size (by repeat (first | (with_reducible first | exact HB.out | apply below_alloc | apply pw_below_drewN | apply below_drew1 | refine below_set ?_ GE145.out) | exact HB.out)))); (case aL => have := LMc38.out; omega); intro v165 w42 ho hb hg hat; rw [← Ny164.out] at ho; have n0_ := Aside0.mk (blk_grown (g := gb145) (o := .cells #[.int .i64 a0_0, .int .i64 a0_1, .int .i64 a0_2, .int .i64 a0_3, .int .i64 a0_4, .int .i64 a0_5, .string a0_6, .slice A0_7 l0_7.length c0_7] 39 (0, 0)) (by (with_reducible repeat (first | refine blk_drewN ?_ _ | refine blk_drew ?_ | refine blk_alloc ?_ _)); exact BK145.out) hg (Kd.R_ne HO163.out BK145.out (by decide))); have n1_ := Aside0.mk (hb); have n2_ := Aside0.mk (ho); clear BK145; clear HB; clear HO163; have BK145 := n0_; have HB := n1_; have HO166 := n2_; clear n0_ n1_ n2_; clear ho hb hg hat))
                  go_ret
                  exact ⟨_, by first | rfl | (simp [errW_none, errW_some] <;> rfl) | (simp [*, errW_none, errW_some] <;> rfl), by (with_reducible repeat (first | apply Kd.R_alloc | apply Kd.R_drewN | apply Kd.R_drew)); exact HO166.out, by repeat (first | (with_reducible first | exact HB.out | apply below_alloc | apply pw_below_drewN | apply below_drew1 | refine below_set ?_ GE145.out) | exact HB.out)⟩
                 ·rw [if_neg c38] at H
                  exact absurd H (by simp)
                ·rw [if_neg c37] at H
                 have c37b0 : (a0_0 == 15) = false := beq_eq_false_iff_ne.mpr c37
                 have c37b1 : (a0_0 != 15) = true := bne_iff_ne.mpr c37
                 by_cases c43 : a0_0 = 16
                 ·rw [if_pos c43] at H
                  have c43b0 : (a0_0 == 16) = true := beq_iff_eq.mpr c43
                  have c43b1 : (a0_0 != 16) = false := bne_eq_false_iff_eq.mpr c43
                  clear c43
                  obtain ⟨y167, hy167⟩ : ∃ y_ : List Int, y_ = (([a0_2] : List Int)) := ⟨_, rfl⟩
                  replace H : (if y167.length + l0_7.length < 17592186044416 then (some (y167 ++ l0_7)) else (none)) = some r := by first | (rw [hy167]; with_reducible exact H) | (have H2_ := (Option.bind_some _ _).symm.trans H; rw [hy167]; with_reducible exact H2_) | (have H2_ := (Option.bind_some _ _).symm.trans H; with_reducible exact H2_) | with_reducible exact H | (rw [hy167]; exact H) | exact H
                  have Ny167 := Aside0.mk hy167
                  clear hy167
                  by_cases c44 : y167.length + l0_7.length < 17592186044416
                  ·rw [if_pos c44] at H
                   have LMc44 := Aside0.mk c44
                   clear c44
                   obtain ⟨y170, hy170⟩ : ∃ y_ : List Int, y_ = (y167 ++ l0_7) := ⟨_, rfl⟩
                   replace H : (some y170) = some r := by first | (rw [hy170]; with_reducible exact H) | (have H2_ := (Option.bind_some _ _).symm.trans H; rw [hy170]; with_reducible exact H2_) | (have H2_ := (Option.bind_some _ _).symm.trans H; with_reducible exact H2_) | with_reducible exact H | (rw [hy170]; exact H) | exact H
                   have Ny170 := Aside0.mk hy170
                   clear hy170
                   obtain rfl := Option.some.inj H
                   have hcz45_0 : wc.cell? ⟨gb145, 0, none⟩ = some (.int .i64 a0_0) := (blk_cell BK145.out 0).trans rfl
                   have hcz45_1 : wc.cell? ⟨gb145, 1, none⟩ = some (.int .i64 a0_1) := (blk_cell BK145.out 1).trans rfl
                   have hcz45_2 : wc.cell? ⟨gb145, 2, none⟩ = some (.int .i64 a0_2) := (blk_cell BK145.out 2).trans rfl
                   have hcz45_3 : wc.cell? ⟨gb145, 3, none⟩ = some (.int .i64 a0_3) := (blk_cell BK145.out 3).trans rfl
                   have hcz45_4 : wc.cell? ⟨gb145, 4, none⟩ = some (.int .i64 a0_4) := (blk_cell BK145.out 4).trans rfl
                   have hcz45_5 : wc.cell? ⟨gb145, 5, none⟩ = some (.int .i64 a0_5) := (blk_cell BK145.out 5).trans rfl
                   have hcz45_6 : wc.cell? ⟨gb145, 6, none⟩ = some (.string a0_6) := (blk_cell BK145.out 6).trans rfl
                   have hcz45_7 : wc.cell? ⟨gb145, 7, none⟩ = some (.slice A0_7 l0_7.length c0_7) := (blk_cell BK145.out 7).trans rfl
                   have hfz45_0 := blk_frozen BK145.out 0
                   have hfz45_1 := blk_frozen BK145.out 1
                   have hfz45_2 := blk_frozen BK145.out 2
                   have hfz45_3 := blk_frozen BK145.out 3
                   have hfz45_4 := blk_frozen BK145.out 4
                   have hfz45_5 := blk_frozen BK145.out 5
                   have hfz45_6 := blk_frozen BK145.out 6
                   have hfz45_7 := blk_frozen BK145.out 7
                   go_wp2_with (first | ((with_reducible refine gate_dst (N := 56) rfl ?_); refine Kd.R_lit (Kd.int .i64) _ 3 ?hg (N := 56) ?hd (xs := ([a0_2] : List Int)) (inner := [.int .i64 a0_2]) (ok := fun _ => True) (okp := fun _ => True) ?hr ?hp (fun _ hk => hk) trivial (Below.refl _ _) (Nat.le_refl _) (by simp) ?_; (case hd => rfl); (case hg => rfl); (case hr => first | (go_simp; done) | (go_simp; rfl)); (case hp => exact (Reps.one (show Kd.M (Kd.int .i64) _ _ _ a0_2 [.int .i64 a0_2] from rfl) (Reps.none _ _))); intro v168 w46 ho47 hb hg_ hnew_; clear hg_ hnew_; (first | rw [← Ny167.out] at ho47 | (simp only [Int.reduceToNat] at ho47; rw [← Ny167.out] at ho47)); have n0_ := Aside0.mk (Kd.R_lower ho47 (below_size (by repeat (first | (with_reducible first | exact HB.out | apply below_alloc | apply pw_below_drewN | apply below_drew1 | refine below_set ?_ GE145.out) | exact HB.out)))); have n1_ := Aside0.mk (blk_below (g := gb145) (o := .cells #[.int .i64 a0_0, .int .i64 a0_1, .int .i64 a0_2, .int .i64 a0_3, .int .i64 a0_4, .int .i64 a0_5, .string a0_6, .slice A0_7 l0_7.length c0_7] 39 (0, 0)) (by (with_reducible repeat (first | refine blk_drewN ?_ _ | refine blk_drew ?_ | refine blk_alloc ?_ _)); exact BK145.out) hb); have n2_ := Aside0.mk (below_step (by repeat (first | (with_reducible first | exact HB.out | apply below_alloc | apply pw_below_drewN | apply below_drew1 | refine below_set ?_ GE145.out) | exact HB.out)) hb); clear BK145; clear HB; have HO169 := n0_; have BK145 := n1_; have HB := n2_; clear n0_ n1_ n2_; clear hb ho47; have hcz48_0 : w46.cell? ⟨gb145, 0, none⟩ = some (.int .i64 a0_0) := (blk_cell BK145.out 0).trans rfl; have hcz48_1 : w46.cell? ⟨gb145, 1, none⟩ = some (.int .i64 a0_1) := (blk_cell BK145.out 1).trans rfl; have hcz48_2 : w46.cell? ⟨gb145, 2, none⟩ = some (.int .i64 a0_2) := (blk_cell BK145.out 2).trans rfl; have hcz48_3 : w46.cell? ⟨gb145, 3, none⟩ = some (.int .i64 a0_3) := (blk_cell BK145.out 3).trans rfl; have hcz48_4 : w46.cell? ⟨gb145, 4, none⟩ = some (.int .i64 a0_4) := (blk_cell BK145.out 4).trans rfl; have hcz48_5 : w46.cell? ⟨gb145, 5, none⟩ = some (.int .i64 a0_5) := (blk_cell BK145.out 5).trans rfl; have hcz48_6 : w46.cell? ⟨gb145, 6, none⟩ = some (.string a0_6) := (blk_cell BK145.out 6).trans rfl; have hcz48_7 : w46.cell? ⟨gb145, 7, none⟩ = some (.slice A0_7 l0_7.length c0_7) := (blk_cell BK145.out 7).trans rfl; have hfz48_0 := blk_frozen BK145.out 0; have hfz48_1 := blk_frozen BK145.out 1; have hfz48_2 := blk_frozen BK145.out 2; have hfz48_3 := blk_frozen BK145.out 3; have hfz48_4 := blk_frozen BK145.out 4; have hfz48_5 := blk_frozen BK145.out 5; have hfz48_6 := blk_frozen BK145.out 6; have hfz48_7 := blk_frozen BK145.out 7) | ((with_reducible refine gate_builtin (b := .append) (xs := #[.tmp 56, .tmp 58]) rfl ?_); at_builtin; refine Kd.R_append_rows (Kd.int .i64) (w0 := w) w.heap.size rfl (.tmp 56) (.tmp 58) 33 3 (.int .i64 0) 8 rfl Tryd.underlying33 info3 rfl (by decide) (by omega) v168 y167 l0_7 _ _ _ (fun _ => True) (fun _ => False) rfl rfl ?aO ?aR (fun _ _ h => h) (fun _ h => h.elim) ?aF ?aB ?aS ?aL ?_; (case aR => repeat (first | exact (Kd.C_below HR0_7.out HB.out) | (with_reducible refine Kd.C_alloc ?_ _) | (with_reducible refine Kd.C_drewN ?_ _) | (with_reducible refine Kd.C_drew ?_))); (case aB => exact (by repeat (first | (with_reducible first | exact HB.out | apply below_alloc | apply pw_below_drewN | apply below_drew1 | refine below_set ?_ GE145.out) | exact HB.out))); (case aF => exact (fun _ _ => trivial)); (case aO => exact (by (with_reducible repeat (first | apply Kd.R_alloc | apply Kd.R_drewN | apply Kd.R_drew)); exact HO169.out)); (case aS => exact (below_size (by repeat (first | (with_reducible first | exact HB.out | apply below_alloc | apply pw_below_drewN | apply below_drew1 | refine below_set ?_ GE145.out) | exact HB.out)))); (case aL => have := LMc44.out; omega); intro v171 w49 ho hb hg hat; rw [← Ny170.out] at ho; have n0_ := Aside0.mk (blk_grown (g := gb145) (o := .cells #[.int .i64 a0_0, .int .i64 a0_1, .int .i64 a0_2, .int .i64 a0_3, .int .i64 a0_4, .int .i64 a0_5, .string a0_6, .slice A0_7 l0_7.length c0_7] 39 (0, 0)) (by (with_reducible repeat (first | refine blk_drewN ?_ _ | refine blk_drew ?_ | refine blk_alloc ?_ _)); exact BK145.out) hg (Kd.R_ne HO169.out BK145.out (by decide))); have n1_ := Aside0.mk (hb); have n2_ := Aside0.mk (ho); clear BK145; clear HB; clear HO169; have BK145 := n0_; have HB := n1_; have HO172 := n2_; clear n0_ n1_ n2_; clear ho hb hg hat))
                   go_ret
                   exact ⟨_, by first | rfl | (simp [errW_none, errW_some] <;> rfl) | (simp [*, errW_none, errW_some] <;> rfl), by (with_reducible repeat (first | apply Kd.R_alloc | apply Kd.R_drewN | apply Kd.R_drew)); exact HO172.out, by repeat (first | (with_reducible first | exact HB.out | apply below_alloc | apply pw_below_drewN | apply below_drew1 | refine below_set ?_ GE145.out) | exact HB.out)⟩
                  ·rw [if_neg c44] at H
                   exact absurd H (by simp)
                 ·rw [if_neg c43] at H
                  have c43b0 : (a0_0 == 16) = false := beq_eq_false_iff_ne.mpr c43
                  have c43b1 : (a0_0 != 16) = true := bne_iff_ne.mpr c43
                  by_cases c50 : a0_0 = 19
                  ·rw [if_pos c50] at H
                   have c50b0 : (a0_0 == 19) = true := beq_iff_eq.mpr c50
                   have c50b1 : (a0_0 != 19) = false := bne_eq_false_iff_eq.mpr c50
                   clear c50
                   by_cases c51 : a0_1 = (-1)
                   ·rw [if_pos c51] at H
                    have c51b0 : (a0_1 == (-1)) = true := beq_iff_eq.mpr c51
                    have c51b1 : (a0_1 != (-1)) = false := bne_eq_false_iff_eq.mpr c51
                    clear c51
                    obtain rfl := Option.some.inj H
                    have hcz52_0 : wc.cell? ⟨gb145, 0, none⟩ = some (.int .i64 a0_0) := (blk_cell BK145.out 0).trans rfl
                    have hcz52_1 : wc.cell? ⟨gb145, 1, none⟩ = some (.int .i64 a0_1) := (blk_cell BK145.out 1).trans rfl
                    have hcz52_2 : wc.cell? ⟨gb145, 2, none⟩ = some (.int .i64 a0_2) := (blk_cell BK145.out 2).trans rfl
                    have hcz52_3 : wc.cell? ⟨gb145, 3, none⟩ = some (.int .i64 a0_3) := (blk_cell BK145.out 3).trans rfl
                    have hcz52_4 : wc.cell? ⟨gb145, 4, none⟩ = some (.int .i64 a0_4) := (blk_cell BK145.out 4).trans rfl
                    have hcz52_5 : wc.cell? ⟨gb145, 5, none⟩ = some (.int .i64 a0_5) := (blk_cell BK145.out 5).trans rfl
                    have hcz52_6 : wc.cell? ⟨gb145, 6, none⟩ = some (.string a0_6) := (blk_cell BK145.out 6).trans rfl
                    have hcz52_7 : wc.cell? ⟨gb145, 7, none⟩ = some (.slice A0_7 l0_7.length c0_7) := (blk_cell BK145.out 7).trans rfl
                    have hfz52_0 := blk_frozen BK145.out 0
                    have hfz52_1 := blk_frozen BK145.out 1
                    have hfz52_2 := blk_frozen BK145.out 2
                    have hfz52_3 := blk_frozen BK145.out 3
                    have hfz52_4 := blk_frozen BK145.out 4
                    have hfz52_5 := blk_frozen BK145.out 5
                    have hfz52_6 := blk_frozen BK145.out 6
                    have hfz52_7 := blk_frozen BK145.out 7
                    go_wp2
                    go_ret
                    exact ⟨_, by first | rfl | (simp [errW_none, errW_some] <;> rfl) | (simp [*, errW_none, errW_some] <;> rfl), by first | exact Kd.R_nil _ _ _ _ _ | exact Kd.N_nil _ _ _ _ _ | exact Kd.V_nil _ _ _ _ _ | exact Kd.Q_nil _ _ _ _ _ | exact Kd.S_nil _ _ _ _ _, by repeat (first | (with_reducible first | exact HB.out | apply below_alloc | apply pw_below_drewN | apply below_drew1 | refine below_set ?_ GE145.out) | exact HB.out)⟩
                   ·rw [if_neg c51] at H
                    have c51b0 : (a0_1 == (-1)) = false := beq_eq_false_iff_ne.mpr c51
                    have c51b1 : (a0_1 != (-1)) = true := bne_iff_ne.mpr c51
                    obtain ⟨y173, hy173⟩ : ∃ y_ : List Int, y_ = (([a0_1] : List Int)) := ⟨_, rfl⟩
                    replace H : (some y173) = some r := by first | (rw [hy173]; with_reducible exact H) | (have H2_ := (Option.bind_some _ _).symm.trans H; rw [hy173]; with_reducible exact H2_) | (have H2_ := (Option.bind_some _ _).symm.trans H; with_reducible exact H2_) | with_reducible exact H | (rw [hy173]; exact H) | exact H
                    have Ny173 := Aside0.mk hy173
                    clear hy173
                    obtain rfl := Option.some.inj H
                    have hcz53_0 : wc.cell? ⟨gb145, 0, none⟩ = some (.int .i64 a0_0) := (blk_cell BK145.out 0).trans rfl
                    have hcz53_1 : wc.cell? ⟨gb145, 1, none⟩ = some (.int .i64 a0_1) := (blk_cell BK145.out 1).trans rfl
                    have hcz53_2 : wc.cell? ⟨gb145, 2, none⟩ = some (.int .i64 a0_2) := (blk_cell BK145.out 2).trans rfl
                    have hcz53_3 : wc.cell? ⟨gb145, 3, none⟩ = some (.int .i64 a0_3) := (blk_cell BK145.out 3).trans rfl
                    have hcz53_4 : wc.cell? ⟨gb145, 4, none⟩ = some (.int .i64 a0_4) := (blk_cell BK145.out 4).trans rfl
                    have hcz53_5 : wc.cell? ⟨gb145, 5, none⟩ = some (.int .i64 a0_5) := (blk_cell BK145.out 5).trans rfl
                    have hcz53_6 : wc.cell? ⟨gb145, 6, none⟩ = some (.string a0_6) := (blk_cell BK145.out 6).trans rfl
                    have hcz53_7 : wc.cell? ⟨gb145, 7, none⟩ = some (.slice A0_7 l0_7.length c0_7) := (blk_cell BK145.out 7).trans rfl
                    have hfz53_0 := blk_frozen BK145.out 0
                    have hfz53_1 := blk_frozen BK145.out 1
                    have hfz53_2 := blk_frozen BK145.out 2
                    have hfz53_3 := blk_frozen BK145.out 3
                    have hfz53_4 := blk_frozen BK145.out 4
                    have hfz53_5 := blk_frozen BK145.out 5
                    have hfz53_6 := blk_frozen BK145.out 6
                    have hfz53_7 := blk_frozen BK145.out 7
                    go_wp2_with (first | ((with_reducible refine gate_dst (N := 67) rfl ?_); refine Kd.R_lit (Kd.int .i64) _ 3 ?hg (N := 67) ?hd (xs := ([a0_1] : List Int)) (inner := [.int .i64 a0_1]) (ok := fun _ => True) (okp := fun _ => True) ?hr ?hp (fun _ hk => hk) trivial (Below.refl _ _) (Nat.le_refl _) (by simp) ?_; (case hd => rfl); (case hg => rfl); (case hr => first | (go_simp; done) | (go_simp; rfl)); (case hp => exact (Reps.one (show Kd.M (Kd.int .i64) _ _ _ a0_1 [.int .i64 a0_1] from rfl) (Reps.none _ _))); intro v174 w54 ho55 hb hg_ hnew_; clear hg_ hnew_; (first | rw [← Ny173.out] at ho55 | (simp only [Int.reduceToNat] at ho55; rw [← Ny173.out] at ho55)); have n0_ := Aside0.mk (Kd.R_lower ho55 (below_size (by repeat (first | (with_reducible first | exact HB.out | apply below_alloc | apply pw_below_drewN | apply below_drew1 | refine below_set ?_ GE145.out) | exact HB.out)))); have n1_ := Aside0.mk (blk_below (g := gb145) (o := .cells #[.int .i64 a0_0, .int .i64 a0_1, .int .i64 a0_2, .int .i64 a0_3, .int .i64 a0_4, .int .i64 a0_5, .string a0_6, .slice A0_7 l0_7.length c0_7] 39 (0, 0)) (by (with_reducible repeat (first | refine blk_drewN ?_ _ | refine blk_drew ?_ | refine blk_alloc ?_ _)); exact BK145.out) hb); have n2_ := Aside0.mk (below_step (by repeat (first | (with_reducible first | exact HB.out | apply below_alloc | apply pw_below_drewN | apply below_drew1 | refine below_set ?_ GE145.out) | exact HB.out)) hb); clear BK145; clear HB; have HO175 := n0_; have BK145 := n1_; have HB := n2_; clear n0_ n1_ n2_; clear hb ho55))
                    go_ret
                    exact ⟨_, by first | rfl | (simp [errW_none, errW_some] <;> rfl) | (simp [*, errW_none, errW_some] <;> rfl), by (with_reducible repeat (first | apply Kd.R_alloc | apply Kd.R_drewN | apply Kd.R_drew)); exact HO175.out, by repeat (first | (with_reducible first | exact HB.out | apply below_alloc | apply pw_below_drewN | apply below_drew1 | refine below_set ?_ GE145.out) | exact HB.out)⟩
                  ·rw [if_neg c50] at H
                   have c50b0 : (a0_0 == 19) = false := beq_eq_false_iff_ne.mpr c50
                   have c50b1 : (a0_0 != 19) = true := bne_iff_ne.mpr c50
                   obtain rfl := Option.some.inj H
                   go_wp2
                   go_ret
                   exact ⟨_, by first | rfl | (simp [errW_none, errW_some] <;> rfl) | (simp [*, errW_none, errW_some] <;> rfl), by first | exact Kd.R_nil _ _ _ _ _ | exact Kd.N_nil _ _ _ _ _ | exact Kd.V_nil _ _ _ _ _ | exact Kd.Q_nil _ _ _ _ _ | exact Kd.S_nil _ _ _ _ _, by repeat (first | (with_reducible first | exact HB.out | apply below_alloc | apply pw_below_drewN | apply below_drew1 | refine below_set ?_ GE145.out) | exact HB.out)⟩
end Go.Proofs.YtmiacdacebaagaaDoor.G
set_option linter.unusedVariables false
set_option linter.unusedSimpArgs false
namespace Go.Proofs.YtmiacdacebaagaaDoor.G
open Go.RowKit Go.Proofs.YtmiacdacebaagaaDoor.B Go.Proofs.YtmiacdacebaagaaDoorW.PrintWords Go.Proofs.YtmiacdacebaagaaDoorW.PrintLast Go.Proofs.YtmiacdacebaagaaDoorW.PrintMore
theorem refReads_ok (a0 a1 a2 a3 a4 a5 : Int) (s : ByteArray) (l : List Int) (hl : l.length * 8 ≤ 140737488351232) :
    crosstreeref08_Reads.f 6 a0 a1 a2 a3 a4 a5 s l = some (readsS a1 a2 a3 l (rowS a0).data.toList) := by
  have h1 : ([] : List Int).length + l.length < 17592186044416 := by simp; omega
  have h2 : ([a2] : List Int).length + l.length < 17592186044416 := by simp; omega
  by_cases h : 1 ≤ a0 ∧ a0 ≤ 20
  · rcases ops_cases h.1 h.2 with rfl | rfl | rfl | rfl | rfl | rfl | rfl | rfl | rfl | rfl | rfl | rfl | rfl | rfl | rfl | rfl | rfl | rfl | rfl | rfl
    case inr.inr.inr.inr.inr.inr.inr.inr.inr.inr.inr.inr.inr.inr.inr.inr.inr.inr.inl =>
      by_cases e : a1 = -1
      · simp [crosstreeref08_Reads.f, crosstreeref08_Reads.j0, crosstreeref08_Reads.j1, crosstreeref08_Reads.j2, crosstreeref08_Reads.j3, crosstreeref08_Reads.j4, e, rowS, readsS, stepR]
      · simp [crosstreeref08_Reads.f, crosstreeref08_Reads.j0, crosstreeref08_Reads.j1, crosstreeref08_Reads.j2, crosstreeref08_Reads.j3, crosstreeref08_Reads.j4, e, rowS, readsS, stepR]
    all_goals simp [crosstreeref08_Reads.f, crosstreeref08_Reads.j0, crosstreeref08_Reads.j1, crosstreeref08_Reads.j2, crosstreeref08_Reads.j3, crosstreeref08_Reads.j4, rowS, readsS, stepR]
    all_goals simp at h1 h2
    · omega
    · omega
  · have hs : rowS a0 = ⟨#[]⟩ := by unfold rowS; rw [if_pos (by omega)]
    rw [hs]
    have n3 : a0 ≠ 3 := by omega
    have n4 : a0 ≠ 4 := by omega
    have n5 : a0 ≠ 5 := by omega
    have n6 : a0 ≠ 6 := by omega
    have n7 : a0 ≠ 7 := by omega
    have n8 : a0 ≠ 8 := by omega
    have n9 : a0 ≠ 9 := by omega
    have n10 : a0 ≠ 10 := by omega
    have n11 : a0 ≠ 11 := by omega
    have n12 : a0 ≠ 12 := by omega
    have n13 : a0 ≠ 13 := by omega
    have n14 : a0 ≠ 14 := by omega
    have n15 : a0 ≠ 15 := by omega
    have n16 : a0 ≠ 16 := by omega
    have n18 : a0 ≠ 18 := by omega
    have n19 : a0 ≠ 19 := by omega
    simp [crosstreeref08_Reads.f, crosstreeref08_Reads.j0, crosstreeref08_Reads.j1, crosstreeref08_Reads.j2, crosstreeref08_Reads.j3, crosstreeref08_Reads.j4, *]
    rfl
theorem ints_l0 (xs : List Int) (hm : xs.length ≤ 9223372036854775807) : ∀ (d i k : Nat), xs.length - i = d → i ≤ xs.length → d < k → crosstreeref06_Ints.l0 k xs xs i = some true := by
  intro d
  induction d with
  | zero =>
    intro i k h hi hk
    obtain ⟨k, rfl⟩ : ∃ m, k = m + 1 := ⟨k - 1, by omega⟩
    simp only [crosstreeref06_Ints.l0]
    rw [if_neg (by omega)]
  | succ d ih =>
    intro i k h hi hk
    obtain ⟨k, rfl⟩ : ∃ m, k = m + 1 := ⟨k - 1, by omega⟩
    simp only [crosstreeref06_Ints.l0]
    rw [if_pos (by omega), if_pos (by omega), if_pos (by omega)]
    simp only [if_true]
    rw [show wrap64 ((i : Int) + 1) = ((i + 1 : Nat) : Int) by unfold wrap64; omega]
    exact ih (i + 1) k (by omega) (by omega) (by omega)
theorem ints_same (xs : List Int) (hm : xs.length ≤ 9223372036854775807) : crosstreeref06_Ints.f (xs.length + 1) xs xs = some true := by
  unfold crosstreeref06_Ints.f
  rw [if_pos rfl]
  exact ints_l0 xs hm xs.length 0 _ (by omega) (Nat.zero_le _) (by omega)
theorem ints_calls (xs : List Int) (A B : Option Addr) (c d : Nat) (w : World) (hA : Kd.C (Kd.int .i64) w A xs.length xs) (hc : xs.length ≤ c) (hB : Kd.C (Kd.int .i64) w B xs.length xs) (hd : xs.length ≤ d) :
    Calls Tryd.prog 12 #[.slice A xs.length c, .slice B xs.length d] w fun e w' => e = .returned (.bool true) ∧ Below w.heap.size w w' :=
  (crosstreeref06_Ints.calls _ A c xs B d xs true w hA hc hB hd (ints_same xs hA.2.1)).mono fun _ _ ⟨h1, h2⟩ => ⟨h1, h2.below⟩
theorem C_lit {w : World} {g : Nat} (xs : List Int) (hb : w.heap[g]? = some (.cells (nums .i64 xs).toArray 3 (0, 0))) (hm : xs.length ≤ 9223372036854775807) : Kd.C (Kd.int .i64) w (some ⟨g, 0, none⟩) xs.length xs := by
  refine ⟨rfl, hm, fun _ => ⟨_, rfl, fun j p hj => ⟨[.int .i64 p], rfl, rfl, fun i u hu => ?_⟩⟩⟩
  match i, hu with
  | 0, hu =>
    obtain rfl : Value.int .i64 p = u := by simpa using hu
    show w.cell? ((⟨g, 0, none⟩ : Addr).add (j * 1 + 0)) = _
    rw [add_plain, blk_cell hb]
    simp [nums, hj]
end Go.Proofs.YtmiacdacebaagaaDoor.G
set_option linter.unusedVariables false
set_option linter.unusedSimpArgs false
namespace Go.Proofs.YtmiacdacebaagaaDoor.G
open Go.RowKit Go.Proofs.YtmiacdacebaagaaDoor.B Go.Proofs.YtmiacdacebaagaaDoorW.PrintWords Go.Proofs.YtmiacdacebaagaaDoorW.PrintLast Go.Proofs.YtmiacdacebaagaaDoorW.PrintMore
theorem cell8 {W : World} {g t : Nat} {a b c d e f h i : Value} (hb : W.heap[g]? = some (.cells #[a, b, c, d, e, f, h, i] t (0, 0))) :
    W.cell? ⟨g, 0, none⟩ = some a ∧ W.cell? ⟨g, 1, none⟩ = some b ∧ W.cell? ⟨g, 2, none⟩ = some c ∧ W.cell? ⟨g, 3, none⟩ = some d ∧ W.cell? ⟨g, 4, none⟩ = some e ∧ W.cell? ⟨g, 5, none⟩ = some f ∧ W.cell? ⟨g, 6, none⟩ = some h ∧ W.cell? ⟨g, 7, none⟩ = some i :=
  ⟨(blk_cell hb 0).trans rfl, (blk_cell hb 1).trans rfl, (blk_cell hb 2).trans rfl, (blk_cell hb 3).trans rfl, (blk_cell hb 4).trans rfl, (blk_cell hb 5).trans rfl, (blk_cell hb 6).trans rfl, (blk_cell hb 7).trans rfl⟩
theorem reads_shown : readsS 3 4 0 [] (rowS 9).data.toList = [3, 4] := by simp [rowS, readsS, stepR]
theorem next_calls (a0 a1 a2 a3 a4 a5 : Int) (s : ByteArray) (A : Option Addr) (c : Nat) (l : List Int) (pc : Int) (w : World) (hC : Kd.C (Kd.int .i64) w A l.length l) (hc : l.length ≤ c) (r : List Int) (h : ir_Next.f a0 a1 a2 a3 a4 a5 s l pc = some r) :
    Calls Tryd.prog 11 #[.agg #[.int .i64 a0, .int .i64 a1, .int .i64 a2, .int .i64 a3, .int .i64 a4, .int .i64 a5, .string s, .slice A l.length c], .int .i64 pc] w fun e w' => ∃ A1 c1, e = .returned (.slice A1 r.length c1) ∧ r.length ≤ c1 ∧ Kd.C (Kd.int .i64) w' A1 r.length r ∧ Below w.heap.size w w' :=
  (ir_Next.calls a0 a1 a2 a3 a4 a5 s A c l pc r w hC hc h).mono fun _ _ ⟨v, h1, h2, h3⟩ => by
    obtain ⟨A1, c1, rfl, h4, h5⟩ := Kd.R_reads h2
    exact ⟨A1, c1, h1, h4, h5, h3⟩
theorem readsC (a0 a1 a2 a3 a4 a5 : Int) (s : ByteArray) (A : Option Addr) (c : Nat) (l : List Int) (w : World) (hC : Kd.C (Kd.int .i64) w A l.length l) (hl : l.length * 8 ≤ 140737488351232) (r : List Int) (hr : readsS a1 a2 a3 l (rowS a0).data.toList = r) :
    Calls Tryd.prog 9 #[.agg #[.int .i64 a0, .int .i64 a1, .int .i64 a2, .int .i64 a3, .int .i64 a4, .int .i64 a5, .string s, .slice A l.length c]] w fun e w' => ∃ A1 c1, e = .returned (.slice A1 r.length c1) ∧ r.length ≤ c1 ∧ Kd.C (Kd.int .i64) w' A1 r.length r ∧ Below w.heap.size w w' :=
  (reads_calls a0 a1 a2 a3 a4 a5 s A c l w hC hl).mono fun _ _ ⟨v, h1, h2, h3⟩ => by
    rw [hr] at h2
    obtain ⟨A1, c1, rfl, h4, h5⟩ := Kd.R_reads h2
    exact ⟨A1, c1, h1, h4, h5, h3⟩
theorem shown_calls (w : World) : Calls Tryd.prog 6 #[] w fun e w' => e = .returned (.bool true) ∧ Below w.heap.size w w' := by
  have HX := Aside0.mk (blk_new w (.cells #[.int .i64 9, .int .i64 3, .int .i64 4, .int .i64 0, .int .i64 8, .int .i64 0, .string ⟨#[]⟩, .slice none 0 0] 39))
  have HB := Aside0.mk (below_alloc (Below.refl w.heap.size w) (.cells #[.int .i64 9, .int .i64 3, .int .i64 4, .int .i64 0, .int .i64 8, .int .i64 0, .string ⟨#[]⟩, .slice none 0 0] 39))
  go_enter Tryd.func6, Tryd.ntmps6
  go_upto_region 2 with (fail)
  generalize w.alloc (.cells #[.int .i64 9, .int .i64 3, .int .i64 4, .int .i64 0, .int .i64 8, .int .i64 0, .string ⟨#[]⟩, .slice none 0 0] 39) = W at HB HX ⊢
  have hx := cell8 HX.out
  go_wp2_with fail
  refine (readsC 9 3 4 0 8 0 ⟨#[]⟩ none 0 [] W (Kd.C_nil _ _) (by simp) [3, 4] reads_shown).mono ?_
  rintro e w1 ⟨A1, c1, rfl, hc1, hC1, hb1⟩
  have HC1 := Aside0.mk hC1
  have HL1 := Aside0.mk hc1
  have HB1 := Aside0.mk (below_step HB.out hb1)
  replace HX := Aside0.mk (blk_below HX.out hb1)
  clear hC1 hc1 hb1 HB hx
  go_wp2_with fail
  refine (ints_calls [3, 4] A1 _ c1 2 _ (Kd.C_below HC1.out (below_alloc (Below.refl _ _) _)) HL1.out (C_lit [3, 4] (blk_new w1 (.cells (nums .i64 [3, 4]).toArray 3)) (by simp)) (Nat.le_refl _)).mono ?_
  rintro e w2 ⟨rfl, hb2⟩
  have hb12 := below_step (below_alloc (Below.refl w1.heap.size w1) (.cells #[.int .i64 3, .int .i64 4] 3)) hb2
  have HB2 := Aside0.mk (below_step HB1.out hb12)
  have hx := cell8 (blk_below HX.out hb12)
  clear HC1 HL1 HB1 HX hb2 hb12
  go_wp2_with fail
  refine (writes_calls 9 3 4 0 8 0 ⟨#[]⟩ none 0 0 w2).mono ?_
  rw [show (if wr 9 = true then (3 : Int) else -1) = -1 from rfl]
  rintro e w3 ⟨rfl, hb3⟩
  have HB3 := Aside0.mk (below_step HB2.out hb3)
  clear hx HB2 hb3
  go_wp2_with fail
  refine (next_calls 18 0 0 0 0 7 ⟨#[]⟩ none 0 [] 2 w3 (Kd.C_nil _ _) (Nat.le_refl _) [3, 7] (by unfold ir_Next.f; simp [wrap64])).mono ?_
  rintro e w4 ⟨A4, c4, rfl, hc4, hC4, hb4⟩
  have HC4 := Aside0.mk hC4
  have HL4 := Aside0.mk hc4
  have HB4 := Aside0.mk (below_step HB3.out hb4)
  clear HB3 hb4 hC4 hc4
  go_wp2_with fail
  refine (ints_calls [3, 7] A4 _ c4 2 _ (Kd.C_below HC4.out (below_alloc (Below.refl _ _) _)) HL4.out (C_lit [3, 7] (blk_new w4 (.cells (nums .i64 [3, 7]).toArray 3)) (by simp)) (Nat.le_refl _)).mono ?_
  rintro e w5 ⟨rfl, hb5⟩
  have HB5 := Aside0.mk (below_step HB4.out (below_step (below_alloc (Below.refl w4.heap.size w4) (.cells #[.int .i64 3, .int .i64 7] 3)) hb5))
  clear HC4 HL4 HB4 hb5
  go_wp2_with fail
  go_ret
  exact ⟨rfl, HB5.out⟩
end Go.Proofs.YtmiacdacebaagaaDoor.G
namespace Go.Proofs.YtmiacdacebaagaaDoor.G
open Go.RowKit Go.Proofs.YtmiacdacebaagaaDoorW.PrintWords Go.Proofs.YtmiacdacebaagaaDoorW.PrintLast Go.Proofs.YtmiacdacebaagaaDoorW.PrintMore
attribute [local go_sem] max2_int min2_int max_two min_two max_three min_three max_four min_four
set_option linter.unusedVariables false
set_option linter.unusedSimpArgs false
def crosstreeref08_Next.f (a0_0 : Int) (a0_1 : Int) (a0_2 : Int) (a0_3 : Int) (a0_4 : Int) (a0_5 : Int) (a0_6 : ByteArray) (l0_7 : List Int) (a1 : Int) : Option (List Int) := if a0_0 = 19 then (some ([] : List Int)) else (if a0_0 = 17 then (some (([a0_5] : List Int))) else (if a0_0 = 18 then (if a0_5 = (wrap64 (a1 + 1)) then (some (([wrap64 (a1 + 1)] : List Int))) else (some (([wrap64 (a1 + 1), a0_5] : List Int)))) else (some (([wrap64 (a1 + 1)] : List Int)))))
set_option maxHeartbeats 8000000 in
set_option maxRecDepth 100000 in
theorem crosstreeref08_Next.calls (a0_0 : Int) (a0_1 : Int) (a0_2 : Int) (a0_3 : Int) (a0_4 : Int) (a0_5 : Int) (a0_6 : ByteArray) (A0_7 : Option Addr) (c0_7 : Nat) (l0_7 : List Int) (a1 : Int) (r : List Int) (w : World) (hr0_7 : Kd.C (Kd.int .i64) w A0_7 l0_7.length l0_7) (hc0_7 : l0_7.length ≤ c0_7) (h : crosstreeref08_Next.f a0_0 a0_1 a0_2 a0_3 a0_4 a0_5 a0_6 l0_7 a1 = some r) :
  Calls Tryd.prog 23 #[.agg #[.int .i64 a0_0, .int .i64 a0_1, .int .i64 a0_2, .int .i64 a0_3, .int .i64 a0_4, .int .i64 a0_5, .string a0_6, .slice A0_7 l0_7.length c0_7], .int .i64 a1] w fun e w' => ∃ v0_ : Value, e = .returned (v0_) ∧ Kd.R (Kd.int .i64) 3 w' w.heap.size (fun _ => True) v0_ r ∧ Below w.heap.size w w' := by
 have hu39 := Tryd.underlying39
 have HR0_7 := Aside0.mk hr0_7
 have HC0_7 := Aside0.mk hc0_7
 clear hr0_7 hc0_7
 have HB := Aside0.mk (Below.refl w.heap.size w)
 have H : (if a0_0 = 19 then (some ([] : List Int)) else (if a0_0 = 17 then (some (([a0_5] : List Int))) else (if a0_0 = 18 then (if a0_5 = (wrap64 (a1 + 1)) then (some (([wrap64 (a1 + 1)] : List Int))) else (some (([wrap64 (a1 + 1), a0_5] : List Int)))) else (some (([wrap64 (a1 + 1)] : List Int)))))) = some r := h
 clear h
 by_cases c3 : a0_0 = 19
 ·rw [if_pos c3] at H
  have c3b0 : (a0_0 == 19) = true := beq_iff_eq.mpr c3
  have c3b1 : (a0_0 != 19) = false := bne_eq_false_iff_eq.mpr c3
  clear c3
  obtain rfl := Option.some.inj H
  go_enter Tryd.func23, Tryd.ntmps23
  go_wp2_with (first | ((with_reducible refine gate_dst (N := 2) rfl ?_); refine box_event ?hg (N := 2) ?hd (cs := #[.int .i64 a0_0, .int .i64 a0_1, .int .i64 a0_2, .int .i64 a0_3, .int .i64 a0_4, .int .i64 a0_5, .string a0_6, .slice A0_7 l0_7.length c0_7]) (t := 39) ?hr ?_; (case hd => rfl); (case hg => rfl); (case hr => first | (go_simp; done) | (go_simp; rfl)); intro gb191 hg w4 hbox hb; have n0_ := Aside0.mk (below_step (by repeat (first | (with_reducible first | exact HB.out | apply below_alloc | apply pw_below_drewN | apply below_drew1) | exact HB.out)) hb); have n1_ := Aside0.mk (hbox); have n2_ := Aside0.mk ((by rw [hg]; exact (below_size (by repeat (first | (with_reducible first | exact HB.out | apply below_alloc | apply pw_below_drewN | apply below_drew1) | exact HB.out))) : w.heap.size ≤ gb191)); have n3_ := Aside0.mk ((by rw [hg]; exact (below_size (by repeat (first | (with_reducible first | exact HB.out | apply below_alloc | apply pw_below_drewN | apply below_drew1) | exact HB.out))) : w.heap.size ≤ gb191)); clear HB; have HB := n0_; have BK191 := n1_; have GW191 := n2_; have GE191 := n3_; clear n0_ n1_ n2_ n3_; clear hb hbox hg; have hcz5_0 : w4.cell? ⟨gb191, 0, none⟩ = some (.int .i64 a0_0) := (blk_cell BK191.out 0).trans rfl; have hcz5_1 : w4.cell? ⟨gb191, 1, none⟩ = some (.int .i64 a0_1) := (blk_cell BK191.out 1).trans rfl; have hcz5_2 : w4.cell? ⟨gb191, 2, none⟩ = some (.int .i64 a0_2) := (blk_cell BK191.out 2).trans rfl; have hcz5_3 : w4.cell? ⟨gb191, 3, none⟩ = some (.int .i64 a0_3) := (blk_cell BK191.out 3).trans rfl; have hcz5_4 : w4.cell? ⟨gb191, 4, none⟩ = some (.int .i64 a0_4) := (blk_cell BK191.out 4).trans rfl; have hcz5_5 : w4.cell? ⟨gb191, 5, none⟩ = some (.int .i64 a0_5) := (blk_cell BK191.out 5).trans rfl; have hcz5_6 : w4.cell? ⟨gb191, 6, none⟩ = some (.string a0_6) := (blk_cell BK191.out 6).trans rfl; have hcz5_7 : w4.cell? ⟨gb191, 7, none⟩ = some (.slice A0_7 l0_7.length c0_7) := (blk_cell BK191.out 7).trans rfl; have hfz5_0 := blk_frozen BK191.out 0; have hfz5_1 := blk_frozen BK191.out 1; have hfz5_2 := blk_frozen BK191.out 2; have hfz5_3 := blk_frozen BK191.out 3; have hfz5_4 := blk_frozen BK191.out 4; have hfz5_5 := blk_frozen BK191.out 5; have hfz5_6 := blk_frozen BK191.out 6; have hfz5_7 := blk_frozen BK191.out 7))
  go_ret
  exact ⟨_, by first | rfl | (simp [errW_none, errW_some] <;> rfl) | (simp [*, errW_none, errW_some] <;> rfl), by first | exact Kd.R_nil _ _ _ _ _ | exact Kd.N_nil _ _ _ _ _ | exact Kd.V_nil _ _ _ _ _ | exact Kd.Q_nil _ _ _ _ _ | exact Kd.S_nil _ _ _ _ _, by repeat (first | (with_reducible first | exact HB.out | apply below_alloc | apply pw_below_drewN | apply below_drew1 | refine below_set ?_ GE191.out) | exact HB.out)⟩
 ·rw [if_neg c3] at H
  have c3b0 : (a0_0 == 19) = false := beq_eq_false_iff_ne.mpr c3
  have c3b1 : (a0_0 != 19) = true := bne_iff_ne.mpr c3
  by_cases c6 : a0_0 = 17
  ·rw [if_pos c6] at H
   have c6b0 : (a0_0 == 17) = true := beq_iff_eq.mpr c6
   have c6b1 : (a0_0 != 17) = false := bne_eq_false_iff_eq.mpr c6
   clear c6
   obtain ⟨y192, hy192⟩ : ∃ y_ : List Int, y_ = (([a0_5] : List Int)) := ⟨_, rfl⟩
   replace H : (some y192) = some r := by first | (rw [hy192]; with_reducible exact H) | (have H2_ := (Option.bind_some _ _).symm.trans H; rw [hy192]; with_reducible exact H2_) | (have H2_ := (Option.bind_some _ _).symm.trans H; with_reducible exact H2_) | with_reducible exact H | (rw [hy192]; exact H) | exact H
   have Ny192 := Aside0.mk hy192
   clear hy192
   obtain rfl := Option.some.inj H
   go_enter Tryd.func23, Tryd.ntmps23
   go_wp2_with (first | ((with_reducible refine gate_dst (N := 2) rfl ?_); refine box_event ?hg (N := 2) ?hd (cs := #[.int .i64 a0_0, .int .i64 a0_1, .int .i64 a0_2, .int .i64 a0_3, .int .i64 a0_4, .int .i64 a0_5, .string a0_6, .slice A0_7 l0_7.length c0_7]) (t := 39) ?hr ?_; (case hd => rfl); (case hg => rfl); (case hr => first | (go_simp; done) | (go_simp; rfl)); intro gb191 hg w7 hbox hb; have n0_ := Aside0.mk (below_step (by repeat (first | (with_reducible first | exact HB.out | apply below_alloc | apply pw_below_drewN | apply below_drew1) | exact HB.out)) hb); have n1_ := Aside0.mk (hbox); have n2_ := Aside0.mk ((by rw [hg]; exact (below_size (by repeat (first | (with_reducible first | exact HB.out | apply below_alloc | apply pw_below_drewN | apply below_drew1) | exact HB.out))) : w.heap.size ≤ gb191)); have n3_ := Aside0.mk ((by rw [hg]; exact (below_size (by repeat (first | (with_reducible first | exact HB.out | apply below_alloc | apply pw_below_drewN | apply below_drew1) | exact HB.out))) : w.heap.size ≤ gb191)); clear HB; have HB := n0_; have BK191 := n1_; have GW191 := n2_; have GE191 := n3_; clear n0_ n1_ n2_ n3_; clear hb hbox hg; have hcz8_0 : w7.cell? ⟨gb191, 0, none⟩ = some (.int .i64 a0_0) := (blk_cell BK191.out 0).trans rfl; have hcz8_1 : w7.cell? ⟨gb191, 1, none⟩ = some (.int .i64 a0_1) := (blk_cell BK191.out 1).trans rfl; have hcz8_2 : w7.cell? ⟨gb191, 2, none⟩ = some (.int .i64 a0_2) := (blk_cell BK191.out 2).trans rfl; have hcz8_3 : w7.cell? ⟨gb191, 3, none⟩ = some (.int .i64 a0_3) := (blk_cell BK191.out 3).trans rfl; have hcz8_4 : w7.cell? ⟨gb191, 4, none⟩ = some (.int .i64 a0_4) := (blk_cell BK191.out 4).trans rfl; have hcz8_5 : w7.cell? ⟨gb191, 5, none⟩ = some (.int .i64 a0_5) := (blk_cell BK191.out 5).trans rfl; have hcz8_6 : w7.cell? ⟨gb191, 6, none⟩ = some (.string a0_6) := (blk_cell BK191.out 6).trans rfl; have hcz8_7 : w7.cell? ⟨gb191, 7, none⟩ = some (.slice A0_7 l0_7.length c0_7) := (blk_cell BK191.out 7).trans rfl; have hfz8_0 := blk_frozen BK191.out 0; have hfz8_1 := blk_frozen BK191.out 1; have hfz8_2 := blk_frozen BK191.out 2; have hfz8_3 := blk_frozen BK191.out 3; have hfz8_4 := blk_frozen BK191.out 4; have hfz8_5 := blk_frozen BK191.out 5; have hfz8_6 := blk_frozen BK191.out 6; have hfz8_7 := blk_frozen BK191.out 7) | ((with_reducible refine gate_dst (N := 13) rfl ?_); refine Kd.R_lit (Kd.int .i64) _ 3 ?hg (N := 13) ?hd (xs := ([a0_5] : List Int)) (inner := [.int .i64 a0_5]) (ok := fun _ => True) (okp := fun _ => True) ?hr ?hp (fun _ hk => hk) trivial (Below.refl _ _) (Nat.le_refl _) (by simp) ?_; (case hd => rfl); (case hg => rfl); (case hr => first | (go_simp; done) | (go_simp; rfl)); (case hp => exact (Reps.one (show Kd.M (Kd.int .i64) _ _ _ a0_5 [.int .i64 a0_5] from rfl) (Reps.none _ _))); intro v193 w9 ho10 hb hg_ hnew_; clear hg_ hnew_; (first | rw [← Ny192.out] at ho10 | (simp only [Int.reduceToNat] at ho10; rw [← Ny192.out] at ho10)); have n0_ := Aside0.mk (Kd.R_lower ho10 (below_size (by repeat (first | (with_reducible first | exact HB.out | apply below_alloc | apply pw_below_drewN | apply below_drew1 | refine below_set ?_ GE191.out) | exact HB.out)))); have n1_ := Aside0.mk (blk_below (g := gb191) (o := .cells #[.int .i64 a0_0, .int .i64 a0_1, .int .i64 a0_2, .int .i64 a0_3, .int .i64 a0_4, .int .i64 a0_5, .string a0_6, .slice A0_7 l0_7.length c0_7] 39 (0, 0)) (by (with_reducible repeat (first | refine blk_drewN ?_ _ | refine blk_drew ?_ | refine blk_alloc ?_ _)); exact BK191.out) hb); have n2_ := Aside0.mk (below_step (by repeat (first | (with_reducible first | exact HB.out | apply below_alloc | apply pw_below_drewN | apply below_drew1 | refine below_set ?_ GE191.out) | exact HB.out)) hb); clear BK191; clear HB; have HO194 := n0_; have BK191 := n1_; have HB := n2_; clear n0_ n1_ n2_; clear hb ho10))
   go_ret
   exact ⟨_, by first | rfl | (simp [errW_none, errW_some] <;> rfl) | (simp [*, errW_none, errW_some] <;> rfl), by (with_reducible repeat (first | apply Kd.R_alloc | apply Kd.R_drewN | apply Kd.R_drew)); exact HO194.out, by repeat (first | (with_reducible first | exact HB.out | apply below_alloc | apply pw_below_drewN | apply below_drew1 | refine below_set ?_ GE191.out) | exact HB.out)⟩
  ·rw [if_neg c6] at H
   have c6b0 : (a0_0 == 17) = false := beq_eq_false_iff_ne.mpr c6
   have c6b1 : (a0_0 != 17) = true := bne_iff_ne.mpr c6
   by_cases c11 : a0_0 = 18
   ·rw [if_pos c11] at H
    have c11b0 : (a0_0 == 18) = true := beq_iff_eq.mpr c11
    have c11b1 : (a0_0 != 18) = false := bne_eq_false_iff_eq.mpr c11
    clear c11
    by_cases c12 : a0_5 = (wrap64 (a1 + 1))
    ·rw [if_pos c12] at H
     have c12b0 : (a0_5 == (wrap64 (a1 + 1))) = true := beq_iff_eq.mpr c12
     have c12b1 : (a0_5 != (wrap64 (a1 + 1))) = false := bne_eq_false_iff_eq.mpr c12
     clear c12
     obtain ⟨y195, hy195⟩ : ∃ y_ : List Int, y_ = (([wrap64 (a1 + 1)] : List Int)) := ⟨_, rfl⟩
     replace H : (some y195) = some r := by first | (rw [hy195]; with_reducible exact H) | (have H2_ := (Option.bind_some _ _).symm.trans H; rw [hy195]; with_reducible exact H2_) | (have H2_ := (Option.bind_some _ _).symm.trans H; with_reducible exact H2_) | with_reducible exact H | (rw [hy195]; exact H) | exact H
     have Ny195 := Aside0.mk hy195
     clear hy195
     obtain rfl := Option.some.inj H
     go_enter Tryd.func23, Tryd.ntmps23
     go_wp2_with (first | ((with_reducible refine gate_dst (N := 2) rfl ?_); refine box_event ?hg (N := 2) ?hd (cs := #[.int .i64 a0_0, .int .i64 a0_1, .int .i64 a0_2, .int .i64 a0_3, .int .i64 a0_4, .int .i64 a0_5, .string a0_6, .slice A0_7 l0_7.length c0_7]) (t := 39) ?hr ?_; (case hd => rfl); (case hg => rfl); (case hr => first | (go_simp; done) | (go_simp; rfl)); intro gb191 hg w13 hbox hb; have n0_ := Aside0.mk (below_step (by repeat (first | (with_reducible first | exact HB.out | apply below_alloc | apply pw_below_drewN | apply below_drew1) | exact HB.out)) hb); have n1_ := Aside0.mk (hbox); have n2_ := Aside0.mk ((by rw [hg]; exact (below_size (by repeat (first | (with_reducible first | exact HB.out | apply below_alloc | apply pw_below_drewN | apply below_drew1) | exact HB.out))) : w.heap.size ≤ gb191)); have n3_ := Aside0.mk ((by rw [hg]; exact (below_size (by repeat (first | (with_reducible first | exact HB.out | apply below_alloc | apply pw_below_drewN | apply below_drew1) | exact HB.out))) : w.heap.size ≤ gb191)); clear HB; have HB := n0_; have BK191 := n1_; have GW191 := n2_; have GE191 := n3_; clear n0_ n1_ n2_ n3_; clear hb hbox hg; have hcz14_0 : w13.cell? ⟨gb191, 0, none⟩ = some (.int .i64 a0_0) := (blk_cell BK191.out 0).trans rfl; have hcz14_1 : w13.cell? ⟨gb191, 1, none⟩ = some (.int .i64 a0_1) := (blk_cell BK191.out 1).trans rfl; have hcz14_2 : w13.cell? ⟨gb191, 2, none⟩ = some (.int .i64 a0_2) := (blk_cell BK191.out 2).trans rfl; have hcz14_3 : w13.cell? ⟨gb191, 3, none⟩ = some (.int .i64 a0_3) := (blk_cell BK191.out 3).trans rfl; have hcz14_4 : w13.cell? ⟨gb191, 4, none⟩ = some (.int .i64 a0_4) := (blk_cell BK191.out 4).trans rfl; have hcz14_5 : w13.cell? ⟨gb191, 5, none⟩ = some (.int .i64 a0_5) := (blk_cell BK191.out 5).trans rfl; have hcz14_6 : w13.cell? ⟨gb191, 6, none⟩ = some (.string a0_6) := (blk_cell BK191.out 6).trans rfl; have hcz14_7 : w13.cell? ⟨gb191, 7, none⟩ = some (.slice A0_7 l0_7.length c0_7) := (blk_cell BK191.out 7).trans rfl; have hfz14_0 := blk_frozen BK191.out 0; have hfz14_1 := blk_frozen BK191.out 1; have hfz14_2 := blk_frozen BK191.out 2; have hfz14_3 := blk_frozen BK191.out 3; have hfz14_4 := blk_frozen BK191.out 4; have hfz14_5 := blk_frozen BK191.out 5; have hfz14_6 := blk_frozen BK191.out 6; have hfz14_7 := blk_frozen BK191.out 7) | ((with_reducible refine gate_dst (N := 31) rfl ?_); refine Kd.R_lit (Kd.int .i64) _ 3 ?hg (N := 31) ?hd (xs := ([wrap64 (a1 + 1)] : List Int)) (inner := [.int .i64 (wrap64 (a1 + 1))]) (ok := fun _ => True) (okp := fun _ => True) ?hr ?hp (fun _ hk => hk) trivial (Below.refl _ _) (Nat.le_refl _) (by simp) ?_; (case hd => rfl); (case hg => rfl); (case hr => first | (go_simp; done) | (go_simp; rfl)); (case hp => exact (Reps.one (show Kd.M (Kd.int .i64) _ _ _ (wrap64 (a1 + 1)) [.int .i64 (wrap64 (a1 + 1))] from rfl) (Reps.none _ _))); intro v196 w15 ho16 hb hg_ hnew_; clear hg_ hnew_; (first | rw [← Ny195.out] at ho16 | (simp only [Int.reduceToNat] at ho16; rw [← Ny195.out] at ho16)); have n0_ := Aside0.mk (Kd.R_lower ho16 (below_size (by repeat (first | (with_reducible first | exact HB.out | apply below_alloc | apply pw_below_drewN | apply below_drew1 | refine below_set ?_ GE191.out) | exact HB.out)))); have n1_ := Aside0.mk (blk_below (g := gb191) (o := .cells #[.int .i64 a0_0, .int .i64 a0_1, .int .i64 a0_2, .int .i64 a0_3, .int .i64 a0_4, .int .i64 a0_5, .string a0_6, .slice A0_7 l0_7.length c0_7] 39 (0, 0)) (by (with_reducible repeat (first | refine blk_drewN ?_ _ | refine blk_drew ?_ | refine blk_alloc ?_ _)); exact BK191.out) hb); have n2_ := Aside0.mk (below_step (by repeat (first | (with_reducible first | exact HB.out | apply below_alloc | apply pw_below_drewN | apply below_drew1 | refine below_set ?_ GE191.out) | exact HB.out)) hb); clear BK191; clear HB; have HO197 := n0_; have BK191 := n1_; have HB := n2_; clear n0_ n1_ n2_; clear hb ho16))
     go_ret
     exact ⟨_, by first | rfl | (simp [errW_none, errW_some] <;> rfl) | (simp [*, errW_none, errW_some] <;> rfl), by (with_reducible repeat (first | apply Kd.R_alloc | apply Kd.R_drewN | apply Kd.R_drew)); exact HO197.out, by repeat (first | (with_reducible first | exact HB.out | apply below_alloc | apply pw_below_drewN | apply below_drew1 | refine below_set ?_ GE191.out) | exact HB.out)⟩
    ·rw [if_neg c12] at H
     have c12b0 : (a0_5 == (wrap64 (a1 + 1))) = false := beq_eq_false_iff_ne.mpr c12
     have c12b1 : (a0_5 != (wrap64 (a1 + 1))) = true := bne_iff_ne.mpr c12
     obtain ⟨y198, hy198⟩ : ∃ y_ : List Int, y_ = (([wrap64 (a1 + 1), a0_5] : List Int)) := ⟨_, rfl⟩
     replace H : (some y198) = some r := by first | (rw [hy198]; with_reducible exact H) | (have H2_ := (Option.bind_some _ _).symm.trans H; rw [hy198]; with_reducible exact H2_) | (have H2_ := (Option.bind_some _ _).symm.trans H; with_reducible exact H2_) | with_reducible exact H | (rw [hy198]; exact H) | exact H
     have Ny198 := Aside0.mk hy198
     clear hy198
     obtain rfl := Option.some.inj H
     go_enter Tryd.func23, Tryd.ntmps23
     go_wp2_with (first | ((with_reducible refine gate_dst (N := 2) rfl ?_); refine box_event ?hg (N := 2) ?hd (cs := #[.int .i64 a0_0, .int .i64 a0_1, .int .i64 a0_2, .int .i64 a0_3, .int .i64 a0_4, .int .i64 a0_5, .string a0_6, .slice A0_7 l0_7.length c0_7]) (t := 39) ?hr ?_; (case hd => rfl); (case hg => rfl); (case hr => first | (go_simp; done) | (go_simp; rfl)); intro gb191 hg w17 hbox hb; have n0_ := Aside0.mk (below_step (by repeat (first | (with_reducible first | exact HB.out | apply below_alloc | apply pw_below_drewN | apply below_drew1) | exact HB.out)) hb); have n1_ := Aside0.mk (hbox); have n2_ := Aside0.mk ((by rw [hg]; exact (below_size (by repeat (first | (with_reducible first | exact HB.out | apply below_alloc | apply pw_below_drewN | apply below_drew1) | exact HB.out))) : w.heap.size ≤ gb191)); have n3_ := Aside0.mk ((by rw [hg]; exact (below_size (by repeat (first | (with_reducible first | exact HB.out | apply below_alloc | apply pw_below_drewN | apply below_drew1) | exact HB.out))) : w.heap.size ≤ gb191)); clear HB; have HB := n0_; have BK191 := n1_; have GW191 := n2_; have GE191 := n3_; clear n0_ n1_ n2_ n3_; clear hb hbox hg; have hcz18_0 : w17.cell? ⟨gb191, 0, none⟩ = some (.int .i64 a0_0) := (blk_cell BK191.out 0).trans rfl; have hcz18_1 : w17.cell? ⟨gb191, 1, none⟩ = some (.int .i64 a0_1) := (blk_cell BK191.out 1).trans rfl; have hcz18_2 : w17.cell? ⟨gb191, 2, none⟩ = some (.int .i64 a0_2) := (blk_cell BK191.out 2).trans rfl; have hcz18_3 : w17.cell? ⟨gb191, 3, none⟩ = some (.int .i64 a0_3) := (blk_cell BK191.out 3).trans rfl; have hcz18_4 : w17.cell? ⟨gb191, 4, none⟩ = some (.int .i64 a0_4) := (blk_cell BK191.out 4).trans rfl; have hcz18_5 : w17.cell? ⟨gb191, 5, none⟩ = some (.int .i64 a0_5) := (blk_cell BK191.out 5).trans rfl; have hcz18_6 : w17.cell? ⟨gb191, 6, none⟩ = some (.string a0_6) := (blk_cell BK191.out 6).trans rfl; have hcz18_7 : w17.cell? ⟨gb191, 7, none⟩ = some (.slice A0_7 l0_7.length c0_7) := (blk_cell BK191.out 7).trans rfl; have hfz18_0 := blk_frozen BK191.out 0; have hfz18_1 := blk_frozen BK191.out 1; have hfz18_2 := blk_frozen BK191.out 2; have hfz18_3 := blk_frozen BK191.out 3; have hfz18_4 := blk_frozen BK191.out 4; have hfz18_5 := blk_frozen BK191.out 5; have hfz18_6 := blk_frozen BK191.out 6; have hfz18_7 := blk_frozen BK191.out 7) | ((with_reducible refine gate_dst (N := 28) rfl ?_); refine Kd.R_lit (Kd.int .i64) _ 3 ?hg (N := 28) ?hd (xs := ([wrap64 (a1 + 1), a0_5] : List Int)) (inner := [.int .i64 (wrap64 (a1 + 1)), .int .i64 a0_5]) (ok := fun _ => True) (okp := fun _ => True) ?hr ?hp (fun _ hk => hk) trivial (Below.refl _ _) (Nat.le_refl _) (by simp) ?_; (case hd => rfl); (case hg => rfl); (case hr => first | (go_simp; done) | (go_simp; rfl)); (case hp => exact (Reps.one (show Kd.M (Kd.int .i64) _ _ _ (wrap64 (a1 + 1)) [.int .i64 (wrap64 (a1 + 1))] from rfl) (Reps.one (show Kd.M (Kd.int .i64) _ _ _ a0_5 [.int .i64 a0_5] from rfl) (Reps.none _ _)))); intro v199 w19 ho20 hb hg_ hnew_; clear hg_ hnew_; (first | rw [← Ny198.out] at ho20 | (simp only [Int.reduceToNat] at ho20; rw [← Ny198.out] at ho20)); have n0_ := Aside0.mk (Kd.R_lower ho20 (below_size (by repeat (first | (with_reducible first | exact HB.out | apply below_alloc | apply pw_below_drewN | apply below_drew1 | refine below_set ?_ GE191.out) | exact HB.out)))); have n1_ := Aside0.mk (blk_below (g := gb191) (o := .cells #[.int .i64 a0_0, .int .i64 a0_1, .int .i64 a0_2, .int .i64 a0_3, .int .i64 a0_4, .int .i64 a0_5, .string a0_6, .slice A0_7 l0_7.length c0_7] 39 (0, 0)) (by (with_reducible repeat (first | refine blk_drewN ?_ _ | refine blk_drew ?_ | refine blk_alloc ?_ _)); exact BK191.out) hb); have n2_ := Aside0.mk (below_step (by repeat (first | (with_reducible first | exact HB.out | apply below_alloc | apply pw_below_drewN | apply below_drew1 | refine below_set ?_ GE191.out) | exact HB.out)) hb); clear BK191; clear HB; have HO200 := n0_; have BK191 := n1_; have HB := n2_; clear n0_ n1_ n2_; clear hb ho20))
     go_ret
     exact ⟨_, by first | rfl | (simp [errW_none, errW_some] <;> rfl) | (simp [*, errW_none, errW_some] <;> rfl), by (with_reducible repeat (first | apply Kd.R_alloc | apply Kd.R_drewN | apply Kd.R_drew)); exact HO200.out, by repeat (first | (with_reducible first | exact HB.out | apply below_alloc | apply pw_below_drewN | apply below_drew1 | refine below_set ?_ GE191.out) | exact HB.out)⟩
   ·rw [if_neg c11] at H
    have c11b0 : (a0_0 == 18) = false := beq_eq_false_iff_ne.mpr c11
    have c11b1 : (a0_0 != 18) = true := bne_iff_ne.mpr c11
    obtain ⟨y201, hy201⟩ : ∃ y_ : List Int, y_ = (([wrap64 (a1 + 1)] : List Int)) := ⟨_, rfl⟩
    replace H : (some y201) = some r := by first | (rw [hy201]; with_reducible exact H) | (have H2_ := (Option.bind_some _ _).symm.trans H; rw [hy201]; with_reducible exact H2_) | (have H2_ := (Option.bind_some _ _).symm.trans H; with_reducible exact H2_) | with_reducible exact H | (rw [hy201]; exact H) | exact H
    have Ny201 := Aside0.mk hy201
    clear hy201
    obtain rfl := Option.some.inj H
    go_enter Tryd.func23, Tryd.ntmps23
    go_wp2_with (first | ((with_reducible refine gate_dst (N := 2) rfl ?_); refine box_event ?hg (N := 2) ?hd (cs := #[.int .i64 a0_0, .int .i64 a0_1, .int .i64 a0_2, .int .i64 a0_3, .int .i64 a0_4, .int .i64 a0_5, .string a0_6, .slice A0_7 l0_7.length c0_7]) (t := 39) ?hr ?_; (case hd => rfl); (case hg => rfl); (case hr => first | (go_simp; done) | (go_simp; rfl)); intro gb191 hg w21 hbox hb; have n0_ := Aside0.mk (below_step (by repeat (first | (with_reducible first | exact HB.out | apply below_alloc | apply pw_below_drewN | apply below_drew1) | exact HB.out)) hb); have n1_ := Aside0.mk (hbox); have n2_ := Aside0.mk ((by rw [hg]; exact (below_size (by repeat (first | (with_reducible first | exact HB.out | apply below_alloc | apply pw_below_drewN | apply below_drew1) | exact HB.out))) : w.heap.size ≤ gb191)); have n3_ := Aside0.mk ((by rw [hg]; exact (below_size (by repeat (first | (with_reducible first | exact HB.out | apply below_alloc | apply pw_below_drewN | apply below_drew1) | exact HB.out))) : w.heap.size ≤ gb191)); clear HB; have HB := n0_; have BK191 := n1_; have GW191 := n2_; have GE191 := n3_; clear n0_ n1_ n2_ n3_; clear hb hbox hg; have hcz22_0 : w21.cell? ⟨gb191, 0, none⟩ = some (.int .i64 a0_0) := (blk_cell BK191.out 0).trans rfl; have hcz22_1 : w21.cell? ⟨gb191, 1, none⟩ = some (.int .i64 a0_1) := (blk_cell BK191.out 1).trans rfl; have hcz22_2 : w21.cell? ⟨gb191, 2, none⟩ = some (.int .i64 a0_2) := (blk_cell BK191.out 2).trans rfl; have hcz22_3 : w21.cell? ⟨gb191, 3, none⟩ = some (.int .i64 a0_3) := (blk_cell BK191.out 3).trans rfl; have hcz22_4 : w21.cell? ⟨gb191, 4, none⟩ = some (.int .i64 a0_4) := (blk_cell BK191.out 4).trans rfl; have hcz22_5 : w21.cell? ⟨gb191, 5, none⟩ = some (.int .i64 a0_5) := (blk_cell BK191.out 5).trans rfl; have hcz22_6 : w21.cell? ⟨gb191, 6, none⟩ = some (.string a0_6) := (blk_cell BK191.out 6).trans rfl; have hcz22_7 : w21.cell? ⟨gb191, 7, none⟩ = some (.slice A0_7 l0_7.length c0_7) := (blk_cell BK191.out 7).trans rfl; have hfz22_0 := blk_frozen BK191.out 0; have hfz22_1 := blk_frozen BK191.out 1; have hfz22_2 := blk_frozen BK191.out 2; have hfz22_3 := blk_frozen BK191.out 3; have hfz22_4 := blk_frozen BK191.out 4; have hfz22_5 := blk_frozen BK191.out 5; have hfz22_6 := blk_frozen BK191.out 6; have hfz22_7 := blk_frozen BK191.out 7) | ((with_reducible refine gate_dst (N := 31) rfl ?_); refine Kd.R_lit (Kd.int .i64) _ 3 ?hg (N := 31) ?hd (xs := ([wrap64 (a1 + 1)] : List Int)) (inner := [.int .i64 (wrap64 (a1 + 1))]) (ok := fun _ => True) (okp := fun _ => True) ?hr ?hp (fun _ hk => hk) trivial (Below.refl _ _) (Nat.le_refl _) (by simp) ?_; (case hd => rfl); (case hg => rfl); (case hr => first | (go_simp; done) | (go_simp; rfl)); (case hp => exact (Reps.one (show Kd.M (Kd.int .i64) _ _ _ (wrap64 (a1 + 1)) [.int .i64 (wrap64 (a1 + 1))] from rfl) (Reps.none _ _))); intro v202 w23 ho24 hb hg_ hnew_; clear hg_ hnew_; (first | rw [← Ny201.out] at ho24 | (simp only [Int.reduceToNat] at ho24; rw [← Ny201.out] at ho24)); have n0_ := Aside0.mk (Kd.R_lower ho24 (below_size (by repeat (first | (with_reducible first | exact HB.out | apply below_alloc | apply pw_below_drewN | apply below_drew1 | refine below_set ?_ GE191.out) | exact HB.out)))); have n1_ := Aside0.mk (blk_below (g := gb191) (o := .cells #[.int .i64 a0_0, .int .i64 a0_1, .int .i64 a0_2, .int .i64 a0_3, .int .i64 a0_4, .int .i64 a0_5, .string a0_6, .slice A0_7 l0_7.length c0_7] 39 (0, 0)) (by (with_reducible repeat (first | refine blk_drewN ?_ _ | refine blk_drew ?_ | refine blk_alloc ?_ _)); exact BK191.out) hb); have n2_ := Aside0.mk (below_step (by repeat (first | (with_reducible first | exact HB.out | apply below_alloc | apply pw_below_drewN | apply below_drew1 | refine below_set ?_ GE191.out) | exact HB.out)) hb); clear BK191; clear HB; have HO203 := n0_; have BK191 := n1_; have HB := n2_; clear n0_ n1_ n2_; clear hb ho24))
    go_ret
    exact ⟨_, by first | rfl | (simp [errW_none, errW_some] <;> rfl) | (simp [*, errW_none, errW_some] <;> rfl), by (with_reducible repeat (first | apply Kd.R_alloc | apply Kd.R_drewN | apply Kd.R_drew)); exact HO203.out, by repeat (first | (with_reducible first | exact HB.out | apply below_alloc | apply pw_below_drewN | apply below_drew1 | refine below_set ?_ GE191.out) | exact HB.out)⟩
end Go.Proofs.YtmiacdacebaagaaDoor.G
namespace Go.Proofs
open Go.Shelf
def Tryd.lays157_ren : Go.Shelf.Ren := ⟨fun | 157 => 32 | 229 => 34 | 199 => 35 | 261 => 36 | 311 => 37 | 312 => 38 | n => n, fun | 9 => 9 | 31 => 64 | 3 => 3 | 5 => 5 | 4 => 4 | 119 => 68 | 0 => 0 | 40 => 70 | 152 => 71 | 21 => 21 | 154 => 73 | 51 => 74 | 141 => 76 | 196 => 80 | 193 => 77 | 198 => 83 | 49 => 81 | 194 => 78 | 201 => 86 | 226 => 88 | 46 => 89 | 227 => 90 | n => n, fun | 0 => 0 | 6 => 1 | n => n⟩
theorem Tryd.lays157 : Go.Proofs.Lays.n157 Tryd.prog Tryd.lays157_ren := {
  mixed := by kernel_rfl
  f157 := Tryd.func32.trans (congrArg some (by kernel_rfl))
  f199 := Tryd.func35.trans (congrArg some (by kernel_rfl))
  f229 := Tryd.func34.trans (congrArg some (by kernel_rfl))
  f261 := Tryd.func36.trans (congrArg some (by kernel_rfl))
  f311 := Tryd.func37.trans (congrArg some (by kernel_rfl))
  f312 := Tryd.func38.trans (congrArg some (by kernel_rfl))
  t0 := Tryd.underlying0
  a0 := Tryd.isAgg0
  z0 := Tryd.sizeOf0
  v0 := Tryd.zeroValue0
  t3 := Tryd.underlying3
  a3 := Tryd.isAgg3
  z3 := Tryd.sizeOf3
  v3 := Tryd.zeroValue3
  t4 := Tryd.underlying4
  a4 := Tryd.isAgg4
  z4 := Tryd.sizeOf4
  v4 := Tryd.zeroValue4
  t5 := Tryd.underlying5
  a5 := Tryd.isAgg5
  z5 := Tryd.sizeOf5
  v5 := Tryd.zeroValue5
  t9 := Tryd.underlying9
  a9 := Tryd.isAgg9
  z9 := Tryd.sizeOf9
  v9 := Tryd.zeroValue9
  t21 := Tryd.underlying21
  a21 := Tryd.isAgg21
  z21 := Tryd.sizeOf21
  v21 := Tryd.zeroValue21
  t31 := Tryd.underlying64
  a31 := Tryd.isAgg64
  z31 := Tryd.sizeOf64
  v31 := Tryd.zeroValue64
  t40 := Tryd.underlying70
  a40 := Tryd.isAgg70
  z40 := Tryd.sizeOf70
  v40 := Tryd.zeroValue70
  t46 := Tryd.underlying89
  a46 := Tryd.isAgg89
  z46 := Tryd.sizeOf89
  v46 := Tryd.zeroValue89
  t49 := Tryd.underlying81
  a49 := Tryd.isAgg81
  z49 := Tryd.sizeOf81
  v49 := Tryd.zeroValue81
  t51 := Tryd.underlying74
  a51 := Tryd.isAgg74
  z51 := Tryd.sizeOf74
  v51 := Tryd.zeroValue74
  t119 := Tryd.underlying68
  a119 := Tryd.isAgg68
  z119 := Tryd.sizeOf68
  t141 := Tryd.underlying76
  a141 := Tryd.isAgg76
  z141 := Tryd.sizeOf76
  v141 := Tryd.zeroValue76
  t152 := Tryd.underlying71
  a152 := Tryd.isAgg71
  z152 := Tryd.sizeOf71
  v152 := Tryd.zeroValue71
  t154 := Tryd.underlying73
  a154 := Tryd.isAgg73
  z154 := Tryd.sizeOf73
  v154 := Tryd.zeroValue73
  t193 := Tryd.underlying77
  a193 := Tryd.isAgg77
  z193 := Tryd.sizeOf77
  v193 := Tryd.zeroValue77
  t194 := Tryd.underlying78
  a194 := Tryd.isAgg78
  z194 := Tryd.sizeOf78
  v194 := Tryd.zeroValue78
  t196 := Tryd.underlying80
  a196 := Tryd.isAgg80
  z196 := Tryd.sizeOf80
  v196 := Tryd.zeroValue80
  t198 := Tryd.underlying83
  a198 := Tryd.isAgg83
  z198 := Tryd.sizeOf83
  v198 := Tryd.zeroValue83
  t201 := Tryd.underlying86
  a201 := Tryd.isAgg86
  z201 := Tryd.sizeOf86
  v201 := Tryd.zeroValue86
  t226 := Tryd.underlying88
  a226 := Tryd.isAgg88
  z226 := Tryd.sizeOf88
  v226 := Tryd.zeroValue88
  t227 := Tryd.underlying90
  a227 := Tryd.isAgg90
  z227 := Tryd.sizeOf90
  v227 := Tryd.zeroValue90
  g0 := by kernel_rfl
  g6 := by kernel_rfl }
open Go.RowKit Go.Lib in
theorem Tryd.strings_Fields (s : ByteArray) (w : World) (hs : s.size < 4294967281) (hascii : ∀ (j : Nat) b, s.data.toList[j]? = some b → b.toNat < 128) (htab : Lib.TabIs Tryd.prog w "strings.asciiSpace" .u8 Lib.asciiSpaceTab) :
    Calls Tryd.prog 32 #[.string s] w fun e w' =>
      e = .returned (.slice (some ⟨w.heap.size, 0, none⟩) (Lib.fields s.data.toList).length (Lib.fields s.data.toList).length) ∧ w' = w.alloc (.cells ((Lib.fields s.data.toList).map fun l => Value.string ⟨l.toArray⟩).toArray 9) := Any.strings_Fields Tryd.lays157 (by kernel_rfl) (by kernel_rfl) s w hs hascii htab
end Go.Proofs
set_option linter.unusedVariables false
set_option linter.unusedSimpArgs false
namespace Go.Proofs.YtmiacdacebaagaaDoor.G
open Go.RowKit Go.Proofs.YtmiacdacebaagaaDoor.B Go.Proofs.YtmiacdacebaagaaDoorW.PrintWords Go.Proofs.YtmiacdacebaagaaDoorW.PrintLast Go.Proofs.YtmiacdacebaagaaDoorW.PrintMore
theorem w64 {x : Int} (h0 : -1000000000000000000 ≤ x) (h1 : x ≤ 1000000000000000000) : wrap64 x = x := by unfold wrap64; omega
theorem idx_l0 (l : List ByteArray) (s : ByteArray) (hl : l.length ≤ 1000) : ∀ (k i : Nat), i ≤ l.length → l.length - i < k → ∃ r : Int, slices_Index_string_string.l0 k l s (l.length : Int) (i : Int) = some r ∧ decide (r ≥ 0) = decide (s.toList ∈ (l.drop i).map ByteArray.toList) := by
  intro k
  induction k with
  | zero => intro i h1 h2; omega
  | succ k ih =>
    intro i h1 h2
    unfold slices_Index_string_string.l0
    by_cases hlt : i < l.length
    · have hr : rdOf ByteArray.empty l (i : Int) = l[i] := by unfold rdOf; rw [Int.toNat_natCast, List.getD_eq_getElem?_getD, List.getElem?_eq_getElem hlt]; rfl
      rw [if_pos (by omega), if_pos (by omega), if_pos (by omega), hr, List.drop_eq_getElem_cons hlt, List.map_cons]
      by_cases he : s.toList = l[i].toList
      · rw [if_pos he, ← he]
        exact ⟨_, rfl, by simp⟩
      · rw [if_neg he, w64 (x := (i : Int) + 1) (by omega) (by omega), show (i : Int) + 1 = ((i + 1 : Nat) : Int) by omega]
        obtain ⟨r, h3, h4⟩ := ih (i + 1) (by omega) (by omega)
        refine ⟨r, h3, h4.trans ?_⟩
        rw [decide_eq_decide, List.mem_cons]
        exact ⟨.inr, fun h => h.resolve_left he⟩
    · rw [if_neg (by omega), List.drop_eq_nil_of_le (by omega)]
      exact ⟨_, rfl, by simp⟩
theorem contains_f (l : List ByteArray) (s : ByteArray) (hl : l.length ≤ 1000) : slices_Contains_string_string.f 2000 l s = some (decide (s.toList ∈ l.map ByteArray.toList)) := by
  unfold slices_Contains_string_string.f slices_Index_string_string.f
  obtain ⟨r, h1, h2⟩ := idx_l0 l s hl 2000 0 (Nat.zero_le _) (by omega)
  rw [show ((0 : Nat) : Int) = 0 from rfl] at h1
  rw [h1]
  simp only [Option.bind_some]
  rw [h2, List.drop_zero]
theorem contains_c {W : World} {A : Option Addr} {c : Nat} {l : List ByteArray} (hC : Kd.C Kd.string W A l.length l) (hc : l.length ≤ c) (hl : l.length ≤ 1000) (s : ByteArray) :
    Calls Tryd.prog 31 #[.slice A l.length c, .string s] W fun e w' => e = .returned (.bool (decide (s.toList ∈ l.map ByteArray.toList))) ∧ Below W.heap.size W w' :=
  (slices_Contains_string_string.calls 2000 A c l s _ W hC hc (contains_f l s hl)).mono fun e w' ⟨he, hd⟩ => ⟨he, hd.below⟩
def signB : List (List UInt8) := [[43], [45], [42], [47], [37], [38], [124], [94], [60, 60], [62, 62], [61, 61], [33, 61], [60], [60, 61], [62], [62, 61]]
theorem fields_signs : Lib.fields (⟨#[43, 32, 45, 32, 42, 32, 47, 32, 37, 32, 38, 32, 124, 32, 94, 32, 60, 60, 32, 62, 62, 32, 61, 61, 32, 33, 61, 32, 60, 32, 60, 61, 32, 62, 32, 62, 61]⟩ : ByteArray).data.toList = signB := by rfl
def Tab (W : World) : Prop := Lib.TabIs Tryd.prog W "strings.asciiSpace" .u8 Lib.asciiSpaceTab
theorem Tab.below {W W' : World} (h : Tab W) (hb : Below W.heap.size W W') : Tab W' := Lib.tabBelow_of_tabIs h _ hb
def signT : List ByteArray := signB.map fun l => ⟨l.toArray⟩
theorem signT_list : signT.map ByteArray.toList = signB := by
  unfold signT
  rw [List.map_map]
  exact (List.map_congr_left (fun l _ => by show (⟨l.toArray⟩ : ByteArray).toList = l; rw [bytes_toList])).trans (List.map_id _)
theorem C_strs {w : World} {g : Nat} (xs : List ByteArray) (hb : w.heap[g]? = some (.cells (xs.map Value.string).toArray 9 (0, 0))) (hm : xs.length ≤ 9223372036854775807) : Kd.C Kd.string w (some ⟨g, 0, none⟩) xs.length xs := by
  refine ⟨rfl, hm, fun _ => ⟨_, rfl, fun j p hj => ⟨[.string p], rfl, rfl, fun i u hu => ?_⟩⟩⟩
  match i, hu with
  | 0, hu =>
    obtain rfl : Value.string p = u := by simpa using hu
    show w.cell? ((⟨g, 0, none⟩ : Addr).add (j * 1 + 0)) = _
    rw [add_plain, blk_cell hb]
    simp [hj]
theorem ascii_signs : ∀ (j : Nat) (b : UInt8), (⟨#[43, 32, 45, 32, 42, 32, 47, 32, 37, 32, 38, 32, 124, 32, 94, 32, 60, 60, 32, 62, 62, 32, 61, 61, 32, 33, 61, 32, 60, 32, 60, 61, 32, 62, 32, 62, 61]⟩ : ByteArray).data.toList[j]? = some b → b.toNat < 128 := by
  intro j b h
  have hm := List.mem_of_getElem? h
  have key : ∀ b ∈ (⟨#[43, 32, 45, 32, 42, 32, 47, 32, 37, 32, 38, 32, 124, 32, 94, 32, 60, 60, 32, 62, 62, 32, 61, 61, 32, 33, 61, 32, 60, 32, 60, 61, 32, 62, 32, 62, 61]⟩ : ByteArray).data.toList, b.toNat < 128 := by decide
  exact key b hm
theorem fields_c (W : World) (hg : Tab W) : Calls Tryd.prog 32 #[.string ⟨#[43, 32, 45, 32, 42, 32, 47, 32, 37, 32, 38, 32, 124, 32, 94, 32, 60, 60, 32, 62, 62, 32, 61, 61, 32, 33, 61, 32, 60, 32, 60, 61, 32, 62, 32, 62, 61]⟩] W fun e w' => ∃ g, e = .returned (.slice (some ⟨g, 0, none⟩) 16 16) ∧ Kd.C Kd.string w' (some ⟨g, 0, none⟩) signT.length signT ∧ Below W.heap.size W w' := by
  refine (Tryd.strings_Fields ⟨#[43, 32, 45, 32, 42, 32, 47, 32, 37, 32, 38, 32, 124, 32, 94, 32, 60, 60, 32, 62, 62, 32, 61, 61, 32, 33, 61, 32, 60, 32, 60, 61, 32, 62, 32, 62, 61]⟩ W (by decide) ascii_signs hg).mono ?_
  rintro e w' ⟨rfl, rfl⟩
  rw [fields_signs]
  refine ⟨W.heap.size, rfl, C_strs signT ?_ (by decide), below_alloc (Below.refl _ _) _⟩
  have := blk_new W (.cells (signB.map fun l => Value.string ⟨l.toArray⟩).toArray 9)
  rw [this]
  unfold signT
  rw [List.map_map]
  rfl
end Go.Proofs.YtmiacdacebaagaaDoor.G
set_option linter.unusedVariables false
set_option linter.unusedSimpArgs false
namespace Go.Proofs.YtmiacdacebaagaaDoor.G
open Go.RowKit Go.Proofs.YtmiacdacebaagaaDoor.B Go.Proofs.YtmiacdacebaagaaDoorW.PrintWords Go.Proofs.YtmiacdacebaagaaDoorW.PrintLast Go.Proofs.YtmiacdacebaagaaDoorW.PrintMore
structure PV where
 sites : List S48
 fns : List S36
 main : Int
 A0 : Option Addr
 c0 : Nat
 A1 : Option Addr
 c1 : Nat
structure RdP (W : World) (p : PV) : Prop where
 sites : Kd.C k48 W p.A0 p.sites.length p.sites
 sc : p.sites.length ≤ p.c0
 fns : Kd.C k36 W p.A1 p.fns.length p.fns
 fc : p.fns.length ≤ p.c1
theorem RdP.below {W W' : World} {p : PV} (h : RdP W p) (hb : Below W.heap.size W W') : RdP W' p := ⟨Kd.C_below h.sites hb, h.sc, Kd.C_below h.fns hb, h.fc⟩
def kindS (sites : List S48) (n : Int) : Int := if n < 0 ∨ (sites.length : Int) ≤ n then 0 else (rd_T48 sites n).f0
theorem kind_f (sites : List S48) (fns : List S36) (m n : Int) : ir_kind.f sites fns m n = some (kindS sites n) := by
 unfold ir_kind.f kindS
 by_cases h1 : n < 0
 ·rw [if_pos h1, if_pos (.inl h1)]
 ·rw [if_neg h1]
  by_cases h2 : (sites.length : Int) ≤ n
  ·rw [if_pos h2, if_pos (.inr h2)]
  ·rw [if_neg h2, if_pos (by omega), if_pos (by omega), if_neg (by omega)]
theorem rkind_f (sites : List S48) (fns : List S36) (m n : Int) : crosstreeref08_Kind.f sites fns m n = some (kindS sites n) := kind_f sites fns m n
theorem kind_c {W : World} {p : PV} (h : RdP W p) (n : Int) : Calls Tryd.prog 18 #[.agg #[.slice p.A0 p.sites.length p.c0, .slice p.A1 p.fns.length p.c1, .int .i64 p.main], .int .i64 n] W fun e w' => e = .returned (.int .i64 (kindS p.sites n)) ∧ Below W.heap.size W w' :=
 ir_kind.calls p.A0 p.c0 p.sites p.A1 p.c1 p.fns p.main n _ W h.sites h.sc h.fns h.fc (kind_f _ _ _ _)
def fitsS (p : PV) (i : S39) : Bool :=
 if i.f0 = 2 then kindS p.sites i.f2 != 0
 else if i.f0 = 5 then decide (i.f6.toList ∈ signB)
 else if i.f0 = 6 then (i.f6.toList == [45]) || (i.f6.toList == [126])
 else if i.f0 = 7 ∨ i.f0 = 8 ∨ i.f0 = 9 then (i.f4 == 1) || ((i.f4 == 4) || (i.f4 == 8))
 else if i.f0 = 10 then decide (0 ≤ i.f5) && decide (i.f5 ≤ 4096)
 else if i.f0 = 13 then decide (0 ≤ i.f5) && (decide (i.f5 < p.sites.length) && (kindS p.sites i.f5 == 3))
 else if i.f0 = 15 then decide (0 ≤ i.f5) && (decide (i.f5 < p.fns.length) && ((i.f7.length : Int) == (rd_T36 p.fns i.f5).f2))
 else if i.f0 = 16 then decide (i.f7.length ≤ 6)
 else true
theorem wpStill_off {P : Program} {ops : Array Oper} {w : World} {Q : Act → Prop} {a : Act} {o : Oper} {rest : List Oper} (h : Region.wanted o (yielded ops a.tmps) = false) (hK : wpStill P ops w Q rest (a.put o.dst undef)) : wpStill P ops w Q (o :: rest) a := by
 unfold wpStill
 rw [if_neg (by rw [h]; simp)]
 exact hK
theorem wpStill_on {P : Program} {ops : Array Oper} {w : World} {Q : Act → Prop} {a : Act} {o : Oper} {rest : List Oper} (hw : Region.wanted o (yielded ops a.tmps) = true) (h : ∀ K : Act → Prop, (∀ a, wpStill P ops w Q rest a → K a) → o.still P a w K) : wpStill P ops w Q (o :: rest) a := by
 unfold wpStill
 rw [if_pos hw]
 exact h _ (fun _ h => h)
set_option maxRecDepth 100000 in
set_option maxHeartbeats 8000000 in
theorem fits_c (p : PV) (op a b c wd n : Int) (sg : ByteArray) (l : List Int) (A : Option Addr) (d : Nat) (w : World) (h : RdP w p) (hg : Tab w) :
  Calls Tryd.prog 28 #[.agg #[.slice p.A0 p.sites.length p.c0, .slice p.A1 p.fns.length p.c1, .int .i64 p.main], .agg #[.int .i64 op, .int .i64 a, .int .i64 b, .int .i64 c, .int .i64 wd, .int .i64 n, .string sg, .slice A l.length d]] w
   fun e w' => e = .returned (.bool (fitsS p ⟨op, a, b, c, wd, n, sg, l⟩)) ∧ Below w.heap.size w w' := by
 have HP := Aside0.mk h
 have HG := Aside0.mk hg
 clear h hg
 go_enter Tryd.func28, Tryd.ntmps28
 go_upto_region 1 with (fail)
 have HX := Aside0.mk (blk_alloc (blk_at_ (W := w) (n := w.heap.size) (.cells #[.slice p.A0 p.sites.length p.c0, .slice p.A1 p.fns.length p.c1, .int .i64 p.main] 25) rfl) (.cells #[.int .i64 op, .int .i64 a, .int .i64 b, .int .i64 c, .int .i64 wd, .int .i64 n, .string sg, .slice A l.length d] 39))
 have HY := Aside0.mk (blk_at_ (W := w.alloc (.cells #[.slice p.A0 p.sites.length p.c0, .slice p.A1 p.fns.length p.c1, .int .i64 p.main] 25)) (n := w.heap.size + 1) (.cells #[.int .i64 op, .int .i64 a, .int .i64 b, .int .i64 c, .int .i64 wd, .int .i64 n, .string sg, .slice A l.length d] 39) (by simp))
 have HB := Aside0.mk (show Below w.heap.size w ((w.alloc (.cells #[.slice p.A0 p.sites.length p.c0, .slice p.A1 p.fns.length p.c1, .int .i64 p.main] 25)).alloc (.cells #[.int .i64 op, .int .i64 a, .int .i64 b, .int .i64 c, .int .i64 wd, .int .i64 n, .string sg, .slice A l.length d] 39)) from below_alloc (below_alloc (Below.refl _ _) _) _)
 generalize (w.alloc (.cells #[.slice p.A0 p.sites.length p.c0, .slice p.A1 p.fns.length p.c1, .int .i64 p.main] 25)).alloc (.cells #[.int .i64 op, .int .i64 a, .int .i64 b, .int .i64 c, .int .i64 wd, .int .i64 n, .string sg, .slice A l.length d] 39) = W at HX HY HB ⊢
 obtain ⟨x0, x1, x2⟩ := cell3 HX.out
 obtain ⟨y0, y1, y2, y3, y4, y5, y6, y7⟩ := cell8 HY.out
 have HPW := Aside0.mk (HP.out.below HB.out)
 have HGW := Aside0.mk (HG.out.below HB.out)
 by_cases o2 : op = 2
 ·subst o2
  go_wp2_with (go_at_call 18; with_reducible refine (kind_c HPW.out _).mono ?_; rintro e w1 ⟨rfl, hk⟩; have HB1 := Aside0.mk (below_step HB.out hk); clear hk)
  go_ret
  exact ⟨rfl, HB1.out⟩
 have n2 : (op == 2) = false := beq_eq_false_iff_ne.mpr o2
 by_cases o5 : op = 5
 ·subst o5
  clear n2
  have HK := Aside0.mk (fun (W2 : World) (hb : Below W.heap.size W W2) => And.intro (show W2.cell? ⟨w.heap.size + 1, 6, none⟩ = some (.string sg) from (blk_cell (blk_below HY.out hb) 6).trans rfl) hb)
  go_upto_region 5 with (fail)
  refine wp_region_held_drew (S := fun w' => w'.cell? ⟨w.heap.size + 1, 6, none⟩ = some (.string sg) ∧ Below W.heap.size W w') (by kernel_rfl) ⟨y6, below_drew (Below.refl _ _)⟩ (fun hHeld => ?_)
  refine wpAnyH_take (i := 1) (oi := { dst := (some 17), op := (Op.fieldAddr 39 (Operand.tmp 3) 6), type := 0, pos := "ir.go:80", after := #[], guard := none }) (v := ?_) rfl (by kernel_rfl) (by kernel_rfl) (by kernel_rfl) (fun _ _ _ h => h) (Or.inl ⟨by rfl, ?_⟩) hHeld ?_
  rotate_left
  ·intro w hSw; (try dsimp only at hSw); go_simp; try with_reducible rfl
  try simp only [Act.put, List.setIfInBounds_toArray, List.set_cons_zero, List.set_cons_succ]
  refine wpAnyH_take (i := 2) (oi := { dst := (some 18), op := (Op.load 9 (Operand.tmp 17)), type := 9, pos := "ir.go:80", after := #[{ on := 1, ground := Ground.data }], guard := none }) (v := ?_) rfl (by kernel_rfl) (by kernel_rfl) (by kernel_rfl) (fun _ _ _ h => h) (Or.inl ⟨by rfl, ?_⟩) hHeld ?_
  rotate_left
  ·intro w hSw; (try dsimp only at hSw); go_simp; try with_reducible rfl
  try simp only [Act.put, List.setIfInBounds_toArray, List.set_cons_zero, List.set_cons_succ]
  refine wpAnyH_ready (rs := [0]) (by kernel_rfl) (by simp) ?_
  refine AllReadyH.cons (o := { dst := (some 16), op := (Op.call { callee := (Callee.value (Operand.func 32)), args := #[(Operand.const (Value.string { data := #[43, 32, 45, 32, 42, 32, 47, 32, 37, 32, 38, 32, 124, 32, 94, 32, 60, 60, 32, 62, 62, 32, 61, 61, 32, 33, 61, 32, 60, 32, 60, 61, 32, 62, 32, 62, 61] }))], argTypes := #[9] }), type := 64, pos := "ir.go:80", after := #[], guard := none }) rfl (fun K hK => ?_) AllReadyH.nil
  go_simp
  refine (fields_c _ (HGW.out.below hHeld.2)).mono ?_
  rintro e w2 ⟨gA, rfl, hCA, hb2⟩
  have HCA := Aside0.mk hCA
  clear hCA
  go_wp2_with fail
  refine hK.out _ _ (HK.out _ (below_step hHeld.2 hb2)) (fun hHeld => ?_)
  clear hK K
  try simp only [Act.put, List.setIfInBounds_toArray, List.set_cons_zero, List.set_cons_succ]
  refine wpAnyH_ready (rs := [3]) (by kernel_rfl) (by simp) ?_
  refine AllReadyH.cons (o := { dst := (some 19), op := (Op.call { callee := (Callee.value (Operand.func 31)), args := #[(Operand.tmp 16), (Operand.tmp 18)], argTypes := #[64, 9] }), type := 4, pos := "ir.go:80", after := #[{ on := 0, ground := Ground.data }, { on := 2, ground := Ground.data }, { on := 0, ground := Ground.chain }], guard := none }) rfl (fun K hK => ?_) AllReadyH.nil
  go_simp
  refine (contains_c HCA.out (by decide) (by decide) sg).mono ?_
  rintro e w3 ⟨rfl, hb2⟩
  rw [signT_list]
  go_wp2_with fail
  refine hK.out _ _ (HK.out _ (below_step hHeld.2 hb2)) (fun hHeld => ?_)
  clear hK K
  try simp only [Act.put, List.setIfInBounds_toArray, List.set_cons_zero, List.set_cons_succ]
  refine wpAnyH_take (i := 4) (oi := { dst := (some 4), op := (Op.assign (Operand.tmp 19)), type := 4, pos := "ir.go:80", after := #[{ on := 3, ground := Ground.data }, { on := 3, ground := Ground.chain }, { on := 0, ground := Ground.phase }, { on := 1, ground := Ground.phase }, { on := 2, ground := Ground.phase }, { on := 3, ground := Ground.phase }], guard := none }) (v := ?_) rfl (by kernel_rfl) (by kernel_rfl) (by kernel_rfl) (fun _ _ _ h => h) (Or.inl ⟨by rfl, ?_⟩) hHeld ?_
  rotate_left
  ·intro w hSw; (try dsimp only at hSw); go_simp; try with_reducible rfl
  try simp only [Act.put, List.setIfInBounds_toArray, List.set_cons_zero, List.set_cons_succ]
  refine wpAnyH_done (by kernel_rfl) ?_ _
  have HBd := Aside0.mk (below_step HB.out hHeld.2)
  clear hHeld
  go_wp2_with fail
  go_ret
  exact ⟨by simp [fitsS], HBd.out⟩
 have n5 : (op == 5) = false := beq_eq_false_iff_ne.mpr o5
 by_cases o6 : op = 6
 ·subst o6
  clear n2 n5
  cases r1 : (sg.toList == [45]) with
  | true =>
   go_wp2_with fail
   go_ret
   exact ⟨by simp [fitsS, r1], HB.out⟩
  | false =>
   go_wp2_with fail
   go_ret
   exact ⟨by simp [fitsS, r1], HB.out⟩
 have n6 : (op == 6) = false := beq_eq_false_iff_ne.mpr o6
 by_cases o7 : op = 7 ∨ op = 8 ∨ op = 9
 ·have hf : fitsS p ⟨op, a, b, c, wd, n, sg, l⟩ = ((wd == 1) || ((wd == 4) || (wd == 8))) := by unfold fitsS; simp [o2, o5, o6, o7]
  have HF := Aside0.mk hf
  clear o2 o5 o6 hf
  rcases o7 with o | o | o
  all_goals
   subst o
   clear n2 n5 n6
   cases r1 : (wd == 1) with
   | true =>
    go_wp2_with fail
    go_ret
    refine ⟨?_, HB.out⟩
    rw [HF.out, r1]
    rfl
   | false =>
    cases r2 : (wd == 4) with
    | true =>
     go_wp2_with fail
     go_ret
     refine ⟨?_, HB.out⟩
     rw [HF.out, r1, r2]
     rfl
    | false =>
     go_wp2_with fail
     go_ret
     refine ⟨?_, HB.out⟩
     rw [HF.out, r1, r2]
     rfl
 have n7 : (op == 7) = false := beq_eq_false_iff_ne.mpr (fun h => o7 (.inl h))
 have n8 : (op == 8) = false := beq_eq_false_iff_ne.mpr (fun h => o7 (.inr (.inl h)))
 have n9 : (op == 9) = false := beq_eq_false_iff_ne.mpr (fun h => o7 (.inr (.inr h)))
 by_cases o10 : op = 10
 ·have hf : fitsS p ⟨op, a, b, c, wd, n, sg, l⟩ = (decide (0 ≤ n) && decide (n ≤ 4096)) := by unfold fitsS; simp [o10]
  have HF := Aside0.mk hf
  clear o2 o5 o6 o7 hf
  subst o10
  clear n2 n5 n6 n7 n8 n9
  by_cases r1 : 0 ≤ n
  ·go_wp2_with fail
   go_ret
   refine ⟨?_, HB.out⟩
   rw [HF.out, decide_eq_true r1]
   rfl
  ·have hd := decide_eq_false r1
   go_wp2_with fail
   go_ret
   refine ⟨?_, HB.out⟩
   rw [HF.out, hd]
   rfl
 have n10 : (op == 10) = false := beq_eq_false_iff_ne.mpr o10
 by_cases o13 : op = 13
 ·have hf : fitsS p ⟨op, a, b, c, wd, n, sg, l⟩ = (decide (0 ≤ n) && (decide (n < p.sites.length) && (kindS p.sites n == 3))) := by unfold fitsS; simp [o13]
  have HF := Aside0.mk hf
  clear o2 o5 o6 o7 o10 hf
  subst o13
  clear n2 n5 n6 n7 n8 n9 n10
  by_cases r1 : 0 ≤ n
  ·by_cases r2 : n < (p.sites.length : Int)
   ·have hd1 := decide_eq_true r1
    have hd2 := decide_eq_true r2
    go_wp2_with (go_at_call 18; with_reducible refine (kind_c HPW.out _).mono ?_; rintro e w1 ⟨rfl, hk⟩; have HB1 := Aside0.mk (below_step HB.out hk); clear hk)
    go_ret
    refine ⟨?_, HB1.out⟩
    rw [HF.out, hd1, hd2]
    rfl
   ·have hd1 := decide_eq_true r1
    have hd2 := decide_eq_false r2
    go_wp2_with fail
    go_ret
    refine ⟨?_, HB.out⟩
    rw [HF.out, hd1, hd2]
    rfl
  ·have hd := decide_eq_false r1
   go_wp2_with fail
   go_ret
   refine ⟨?_, HB.out⟩
   rw [HF.out, hd]
   rfl
 have n13 : (op == 13) = false := beq_eq_false_iff_ne.mpr o13
 by_cases o15 : op = 15
 ·have hf : fitsS p ⟨op, a, b, c, wd, n, sg, l⟩ = (decide (0 ≤ n) && (decide (n < p.fns.length) && ((l.length : Int) == (rd_T36 p.fns n).f2))) := by unfold fitsS; simp [o15]
  have HF := Aside0.mk hf
  clear o2 o5 o6 o7 o10 o13 hf
  subst o15
  clear n2 n5 n6 n7 n8 n9 n10 n13
  by_cases r1 : 0 ≤ n
  ·by_cases r2 : n < (p.fns.length : Int)
   ·obtain ⟨ad, A3, c3, A4, c4, hA, z0, z1, z2, _⟩ := at_T36 HPW.out.fns n r1 r2
    have hd1 := decide_eq_true r1
    have hd2 := decide_eq_true r2
    rw [hA] at x1 ⊢
    go_upto_region 17 with (fail)
    go_still (by kernel_rfl)
    change Exit.then _ _ _ _ W.drew
    have HBd := Aside0.mk (below_drew HB.out)
    generalize W.drew = Wd at HBd ⊢
    go_wp2_with fail
    go_ret
    refine ⟨?_, HBd.out⟩
    rw [HF.out, hd1, hd2]
    rfl
   ·have hd1 := decide_eq_true r1
    have HD : Aside0 (decide (n < (p.fns.length : Int)) = false) := Aside0.mk (decide_eq_false r2)
    clear r2
    go_upto_region 17 with (fail)
    refine wp_region_still_lit rfl (by kernel_rfl) ?_
    iterate 10 (refine wpStill_on (by rfl) (fun K hK => ?_); go_simp; refine hK _ ?_; clear hK K)
    (refine wpStill_on (by rfl) (fun K hK => ?_); go_simp; (try rw [if_neg (of_decide_eq_false HD.out)]); (try go_simp); refine hK _ ?_; clear hK K)
    (refine wpStill_on (by rfl) (fun K hK => ?_); go_simp; refine hK _ ?_; clear hK K)
    iterate 11 (refine wpStill_off (by simp [Region.wanted, yielded, HD.out]) ?_; simp only [Act.put, List.setIfInBounds_toArray, List.set_cons_succ, List.set_cons_zero])
    (refine wpStill_on (by rfl) (fun K hK => ?_); go_simp; (try rw [if_neg (of_decide_eq_false HD.out)]); (try go_simp); refine hK _ ?_; clear hK K)
    (refine wpStill_on (by rfl) (fun K hK => ?_); go_simp; refine hK _ ?_; clear hK K)
    refine wpStill_nil ?_
    change Exit.then _ _ _ _ W.drew
    have HBd := Aside0.mk (below_drew HB.out)
    generalize W.drew = Wd at HBd ⊢
    go_wp2_with fail
    go_ret
    refine ⟨?_, HBd.out⟩
    rw [HF.out, hd1, HD.out]
    rfl
  ·have HD : Aside0 (decide (0 ≤ n) = false) := Aside0.mk (decide_eq_false r1)
   clear r1
   go_upto_region 17 with (fail)
   refine wp_region_still_lit rfl (by kernel_rfl) ?_
   iterate 4 (refine wpStill_on (by rfl) (fun K hK => ?_); go_simp; refine hK _ ?_; clear hK K)
   iterate 6 (refine wpStill_off (by simp [Region.wanted, yielded, HD.out]) ?_; simp only [Act.put, List.setIfInBounds_toArray, List.set_cons_succ, List.set_cons_zero])
   (refine wpStill_on (by rfl) (fun K hK => ?_); go_simp; refine hK _ ?_; clear hK K)
   (refine wpStill_on (by rfl) (fun K hK => ?_); go_simp; refine hK _ ?_; clear hK K)
   iterate 11 (refine wpStill_off (by simp [Region.wanted, yielded, if_neg (of_decide_eq_false HD.out)]) ?_; simp only [Act.put, List.setIfInBounds_toArray, List.set_cons_succ, List.set_cons_zero])
   (refine wpStill_on (by rfl) (fun K hK => ?_); go_simp; (try rw [if_neg (of_decide_eq_false HD.out)]); (try go_simp); refine hK _ ?_; clear hK K)
   (refine wpStill_on (by rfl) (fun K hK => ?_); go_simp; refine hK _ ?_; clear hK K)
   refine wpStill_nil ?_
   change Exit.then _ _ _ _ W.drew
   have HBd := Aside0.mk (below_drew HB.out)
   generalize W.drew = Wd at HBd ⊢
   go_wp2_with fail
   go_ret
   refine ⟨?_, HBd.out⟩
   rw [HF.out, HD.out]
   rfl
 have n15 : (op == 15) = false := beq_eq_false_iff_ne.mpr o15
 by_cases o16 : op = 16
 ·have hf : fitsS p ⟨op, a, b, c, wd, n, sg, l⟩ = decide (l.length ≤ 6) := by unfold fitsS; simp [o16]
  have HF := Aside0.mk hf
  clear o2 o5 o6 o7 o10 o13 o15 hf
  subst o16
  clear n2 n5 n6 n7 n8 n9 n10 n13 n15
  by_cases r1 : l.length ≤ 6
  ·have hd := decide_eq_true r1
   have hd2 : (l.length : Int) ≤ 6 := by omega
   go_wp2_with fail
   go_ret
   refine ⟨?_, HB.out⟩
   rw [HF.out, hd]
   first | rfl | simp [hd2]
  ·have hd := decide_eq_false r1
   have hd2 : ¬ (l.length : Int) ≤ 6 := by omega
   go_wp2_with fail
   go_ret
   refine ⟨?_, HB.out⟩
   rw [HF.out, hd]
   first | rfl | simp [hd2]
 ·have hf : fitsS p ⟨op, a, b, c, wd, n, sg, l⟩ = true := by unfold fitsS; simp [o2, o5, o6, o7, o10, o13, o15, o16]
  have HF := Aside0.mk hf
  have n16 : (op == 16) = false := beq_eq_false_iff_ne.mpr o16
  clear o2 o5 o6 o7 o10 o13 o15 o16 hf
  go_wp2_with fail
  go_ret
  refine ⟨?_, HB.out⟩
  rw [HF.out]
  rfl
end Go.Proofs.YtmiacdacebaagaaDoor.G
set_option linter.unusedVariables false
set_option linter.unusedSimpArgs false
namespace Go.Proofs.YtmiacdacebaagaaDoor.G
open Go.RowKit Go.Proofs.YtmiacdacebaagaaDoor.B Go.Proofs.YtmiacdacebaagaaDoorW.PrintWords Go.Proofs.YtmiacdacebaagaaDoorW.PrintLast Go.Proofs.YtmiacdacebaagaaDoorW.PrintMore
theorem bad_c {W : World} {g : Nat} {regs : Int} (h : W.cell? ⟨g, 1, none⟩ = some (.int .i64 regs)) (r : Int) :
    Calls Tryd.prog 25 #[.int .i64 r, .pointer (some ⟨g, 0, none⟩)] W fun e w' => e = .returned (.bool (decide (r < 0) || decide (regs ≤ r))) ∧ Below W.heap.size W w' := by
  have HB := Aside0.mk (Below.refl W.heap.size W)
  by_cases h1 : r < 0
  · have h2 := decide_eq_true h1
    have HD := Aside0.mk h2
    go_enter Tryd.func25, Tryd.ntmps25
    go_wp2_with fail
    go_ret
    refine ⟨?_, HB.out⟩
    rw [HD.out]
    rfl
  · have h2 := decide_eq_false h1
    have HD := Aside0.mk h2
    go_enter Tryd.func25, Tryd.ntmps25
    go_wp2_with fail
    go_ret
    refine ⟨?_, HB.out⟩
    first | rfl | (rw [HD.out]; rfl)
theorem leads_c {W : World} {g : Nat} {A : Option Addr} {n c : Nat} (h : W.cell? ⟨g, 4, none⟩ = some (.slice A n c)) (r : Int) :
    Calls Tryd.prog 26 #[.int .i64 r, .pointer (some ⟨g, 0, none⟩)] W fun e w' => e = .returned (.bool (decide (r < 0) || decide ((n : Int) ≤ r))) ∧ Below W.heap.size W w' := by
  have HB := Aside0.mk (Below.refl W.heap.size W)
  by_cases h1 : r < 0
  · have h2 := decide_eq_true h1
    have HD := Aside0.mk h2
    go_enter Tryd.func26, Tryd.ntmps26
    go_wp2_with fail
    go_ret
    refine ⟨?_, HB.out⟩
    rw [HD.out]
    rfl
  · have h2 := decide_eq_false h1
    have HD := Aside0.mk h2
    go_enter Tryd.func26, Tryd.ntmps26
    go_wp2_with fail
    go_ret
    refine ⟨?_, HB.out⟩
    first | rfl | (rw [HD.out]; rfl)
end Go.Proofs.YtmiacdacebaagaaDoor.G
set_option linter.unusedVariables false
set_option linter.unusedSimpArgs false
namespace Go.Proofs.YtmiacdacebaagaaDoor.G
open Go.RowKit Go.Proofs.YtmiacdacebaagaaDoor.B Go.Proofs.YtmiacdacebaagaaDoorW.PrintWords Go.Proofs.YtmiacdacebaagaaDoorW.PrintLast Go.Proofs.YtmiacdacebaagaaDoorW.PrintMore
set_option maxHeartbeats 4000000 in
theorem index25 (p1 : Value) (p : Int → Bool) {A : Option Addr} {c : Nat} {l : List Int} (w : World) (hC : Kd.C (Kd.int .i64) w A l.length l) (hl : l.length ≤ 9000000000000000000)
    (hf : ∀ (W : World) (r : Int), Below w.heap.size w W → Calls Tryd.prog 25 #[.int .i64 r, p1] W fun e w' => e = .returned (.bool (p r)) ∧ Below W.heap.size W w') :
    Calls Tryd.prog 30 #[.slice A l.length c, .func (.func 25) #[] #[p1]] w fun e w' => (∃ i : Int, e = .returned (.int .i64 i) ∧ decide (0 ≤ i) = l.any p) ∧ Below w.heap.size w w' := by
  have HF := Aside0.mk hf
  have HC := Aside0.mk hC
  clear hf hC
  go_enter Tryd.func30, Tryd.ntmps30
  go_upto_block 0 with (fail)
  go_wp2_with fail
  go_loopw [8] (fun iv wx => ∃ (i : Nat), i ≤ l.length ∧ iv = .int .i64 (i : Int) ∧ Hid (l.any p = (l.drop i).any p) ∧ Hid (Below w.heap.size w wx)) (fun iv _ => l.length - (intOf iv).toNat)
  case atStart => exact ⟨0, Nat.zero_le _, rfl, rfl, Below.refl _ _⟩
  case round =>
    obtain ⟨i, hi, rfl, hp, hB⟩ := hrel
    have HP := Aside0.mk (show l.any p = (l.drop i).any p from hp)
    have HB : Aside0 (Below w.heap.size w wr) := Aside0.mk hB
    clear hp hB
    by_cases hlt : (i : Int) < (l.length : Int)
    · have hi1 : i < l.length := by omega
      obtain ⟨ad, hA, z0⟩ := Kd.at_int (Kd.C_below HC.out HB.out) (i : Int) (Int.natCast_nonneg i) hlt
      subst hA
      obtain ⟨x, hx⟩ : ∃ x, l[i]? = some x := ⟨_, List.getElem?_eq_getElem hi1⟩
      have hr : rd l (i : Int) = x := by
        unfold rd
        rw [Int.toNat_natCast, List.getD_eq_getElem?_getD, hx]
        rfl
      rw [hr, Int.toNat_natCast] at z0
      have HD : Aside0 ((l.drop i).any p = (p x || (l.drop (i + 1)).any p)) := Aside0.mk (by
        rw [List.drop_eq_getElem_cons hi1, List.any_cons]
        have : l[i] = x := by rw [List.getElem?_eq_getElem hi1] at hx; injection hx
        rw [this])
      have hwi : IntKind.i64.wrap ((i : Int) + 1) = (i : Int) + 1 := by rw [IntKind.wrap_i64]; omega
      clear hx hr
      cases hpx : p x with
      | true =>
        have HPX := Aside0.mk hpx
        clear hpx
        go_wp2_with (go_at_call 25; with_reducible refine (HF.out _ x HB.out).mono ?_; rintro e w1 ⟨rfl, hk⟩; rw [HPX.out]; replace HB := Aside0.mk (below_step HB.out hk); clear hk)
        go_ret
        exact ⟨⟨_, rfl, by rw [HP.out, HD.out, HPX.out]; simp⟩, HB.out⟩
      | false =>
        have HPX := Aside0.mk hpx
        clear hpx
        go_wp2_with (go_at_call 25; with_reducible refine (HF.out _ x HB.out).mono ?_; rintro e w1 ⟨rfl, hk⟩; rw [HPX.out]; replace HB := Aside0.mk (below_step HB.out hk); clear hk)
        go_roundw
        case rel => exact ⟨i + 1, by omega, by go_num, by show _ = _; rw [HP.out, HD.out, HPX.out]; rfl, HB.out⟩
        case measure => simp [intOf]; omega
    · have hn : Aside0 (l.any p = false) := Aside0.mk (by rw [HP.out, List.drop_eq_nil_of_le (by omega)]; rfl)
      go_wp2_with fail
      go_ret
      exact ⟨⟨_, rfl, by rw [hn.out]; rfl⟩, HB.out⟩
theorem contains25 (p1 : Value) (p : Int → Bool) {A : Option Addr} {c : Nat} {l : List Int} (w : World) (hC : Kd.C (Kd.int .i64) w A l.length l) (hl : l.length ≤ 9000000000000000000)
    (hf : ∀ (W : World) (r : Int), Below w.heap.size w W → Calls Tryd.prog 25 #[.int .i64 r, p1] W fun e w' => e = .returned (.bool (p r)) ∧ Below W.heap.size W w') :
    Calls Tryd.prog 27 #[.slice A l.length c, .func (.func 25) #[] #[p1]] w fun e w' => e = .returned (.bool (l.any p)) ∧ Below w.heap.size w w' := by
  have HI := Aside0.mk (index25 p1 p (c := c) w hC hl hf)
  clear hf hC
  go_enter Tryd.func27, Tryd.ntmps27
  go_wp2_with (go_at_call 30; with_reducible refine HI.out.mono ?_; rintro e w1 ⟨⟨i, rfl, hi⟩, hk⟩; have HB := Aside0.mk hk; have HII := Aside0.mk hi; clear hk hi)
  go_ret
  refine ⟨?_, HB.out⟩
  rw [← HII.out]
  rfl
set_option maxHeartbeats 4000000 in
theorem index26 (p1 : Value) (p : Int → Bool) {A : Option Addr} {c : Nat} {l : List Int} (w : World) (hC : Kd.C (Kd.int .i64) w A l.length l) (hl : l.length ≤ 9000000000000000000)
    (hf : ∀ (W : World) (r : Int), Below w.heap.size w W → Calls Tryd.prog 26 #[.int .i64 r, p1] W fun e w' => e = .returned (.bool (p r)) ∧ Below W.heap.size W w') :
    Calls Tryd.prog 30 #[.slice A l.length c, .func (.func 26) #[] #[p1]] w fun e w' => (∃ i : Int, e = .returned (.int .i64 i) ∧ decide (0 ≤ i) = l.any p) ∧ Below w.heap.size w w' := by
  have HF := Aside0.mk hf
  have HC := Aside0.mk hC
  clear hf hC
  go_enter Tryd.func30, Tryd.ntmps30
  go_upto_block 0 with (fail)
  go_wp2_with fail
  go_loopw [8] (fun iv wx => ∃ (i : Nat), i ≤ l.length ∧ iv = .int .i64 (i : Int) ∧ Hid (l.any p = (l.drop i).any p) ∧ Hid (Below w.heap.size w wx)) (fun iv _ => l.length - (intOf iv).toNat)
  case atStart => exact ⟨0, Nat.zero_le _, rfl, rfl, Below.refl _ _⟩
  case round =>
    obtain ⟨i, hi, rfl, hp, hB⟩ := hrel
    have HP := Aside0.mk (show l.any p = (l.drop i).any p from hp)
    have HB : Aside0 (Below w.heap.size w wr) := Aside0.mk hB
    clear hp hB
    by_cases hlt : (i : Int) < (l.length : Int)
    · have hi1 : i < l.length := by omega
      obtain ⟨ad, hA, z0⟩ := Kd.at_int (Kd.C_below HC.out HB.out) (i : Int) (Int.natCast_nonneg i) hlt
      subst hA
      obtain ⟨x, hx⟩ : ∃ x, l[i]? = some x := ⟨_, List.getElem?_eq_getElem hi1⟩
      have hr : rd l (i : Int) = x := by
        unfold rd
        rw [Int.toNat_natCast, List.getD_eq_getElem?_getD, hx]
        rfl
      rw [hr, Int.toNat_natCast] at z0
      have HD : Aside0 ((l.drop i).any p = (p x || (l.drop (i + 1)).any p)) := Aside0.mk (by
        rw [List.drop_eq_getElem_cons hi1, List.any_cons]
        have : l[i] = x := by rw [List.getElem?_eq_getElem hi1] at hx; injection hx
        rw [this])
      have hwi : IntKind.i64.wrap ((i : Int) + 1) = (i : Int) + 1 := by rw [IntKind.wrap_i64]; omega
      clear hx hr
      cases hpx : p x with
      | true =>
        have HPX := Aside0.mk hpx
        clear hpx
        go_wp2_with (go_at_call 26; with_reducible refine (HF.out _ x HB.out).mono ?_; rintro e w1 ⟨rfl, hk⟩; rw [HPX.out]; replace HB := Aside0.mk (below_step HB.out hk); clear hk)
        go_ret
        exact ⟨⟨_, rfl, by rw [HP.out, HD.out, HPX.out]; simp⟩, HB.out⟩
      | false =>
        have HPX := Aside0.mk hpx
        clear hpx
        go_wp2_with (go_at_call 26; with_reducible refine (HF.out _ x HB.out).mono ?_; rintro e w1 ⟨rfl, hk⟩; rw [HPX.out]; replace HB := Aside0.mk (below_step HB.out hk); clear hk)
        go_roundw
        case rel => exact ⟨i + 1, by omega, by go_num, by show _ = _; rw [HP.out, HD.out, HPX.out]; rfl, HB.out⟩
        case measure => simp [intOf]; omega
    · have hn : Aside0 (l.any p = false) := Aside0.mk (by rw [HP.out, List.drop_eq_nil_of_le (by omega)]; rfl)
      go_wp2_with fail
      go_ret
      exact ⟨⟨_, rfl, by rw [hn.out]; rfl⟩, HB.out⟩
theorem contains26 (p1 : Value) (p : Int → Bool) {A : Option Addr} {c : Nat} {l : List Int} (w : World) (hC : Kd.C (Kd.int .i64) w A l.length l) (hl : l.length ≤ 9000000000000000000)
    (hf : ∀ (W : World) (r : Int), Below w.heap.size w W → Calls Tryd.prog 26 #[.int .i64 r, p1] W fun e w' => e = .returned (.bool (p r)) ∧ Below W.heap.size W w') :
    Calls Tryd.prog 27 #[.slice A l.length c, .func (.func 26) #[] #[p1]] w fun e w' => e = .returned (.bool (l.any p)) ∧ Below w.heap.size w w' := by
  have HI := Aside0.mk (index26 p1 p (c := c) w hC hl hf)
  clear hf hC
  go_enter Tryd.func27, Tryd.ntmps27
  go_wp2_with (go_at_call 30; with_reducible refine HI.out.mono ?_; rintro e w1 ⟨⟨i, rfl, hi⟩, hk⟩; have HB := Aside0.mk hk; have HII := Aside0.mk hi; clear hk hi)
  go_ret
  refine ⟨?_, HB.out⟩
  rw [← HII.out]
  rfl
end Go.Proofs.YtmiacdacebaagaaDoor.G
