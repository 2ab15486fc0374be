/- Parts of a pointer, moved one by one, in a Mem of one block. No program here. -/
import Derived.Test.YteogfjhmjlelnaaMv
set_option linter.unusedVariables false
set_option linter.unusedSimpArgs false
namespace Go.Proofs.Yteogfjhmjlelnaa.G
open Go.RowKit Go.Proofs.Yteogfjhmjlelnaa.B Go.Proofs.YteogfjhmjlelnaaW.PrintWords Go.Proofs.YteogfjhmjlelnaaW.PrintLast Go.Proofs.YteogfjhmjlelnaaW.PrintMore

def q0 : List Bt := List.replicate 32 z1
theorem pa_a : allocS [] 0 32 true = (one 0 q0, 1, 0) := rfl
def pv (v : Vl) (i : Nat) : Vl := ⟨v.n, v.b, (i : Int) + 1⟩
def pb (v : Vl) (i : Nat) : Bt := ⟨2, 0, pv v i⟩
theorem ptr_get (v : Vl) {i : Nat} (h : i < 8) : (ptrSeg v)[i]? = some (pb v i) := by
  rw [ptrSeg, List.getElem?_map, List.getElem?_range h]; rfl
theorem ptr_len (v : Vl) : (ptrSeg v).length = 8 := by simp [ptrSeg]
theorem pa_s {v : Vl} (hb : 0 < v.b) (hf : v.f = 0) : storeS (one 0 q0) (vat 3) 8 v = (one 0 (over q0 3 (ptrSeg v)), 0) := by
  unfold storeS
  rw [if_pos (show isW 8 = true from rfl), one_ok (by decide) (by decide) (by decide) (by decide)]
  have h0 : (v.b == 0 && v.f == 0) = false := by simp; omega
  have h1 : (decide (0 < v.b) && v.f == 0) = true := by simp [hb, hf]
  have he : encS 8 v = some (ptrSeg v) := by
    unfold encS
    rw [h0, h1, if_neg (by decide), if_pos ⟨rfl, rfl⟩]
  simp only [he]
  rfl
/-- Behind k moves, from place T on. -/
structure PInv (v : Vl) (T : Nat) (l : List Bt) (k : Nat) : Prop where
  len : l.length = 32
  old : ∀ i, i < 8 → l[3 + i]? = some (pb v i)
  new : ∀ q, q < k → l[20 + (q + T) % 8]? = some (pb v ((q + T) % 8))
theorem pinv0 (v : Vl) (T : Nat) : PInv v T (over q0 3 (ptrSeg v)) 0 := by
  have h : 3 + (ptrSeg v).length ≤ q0.length := by rw [ptr_len]; decide
  refine ⟨by rw [over_length h]; rfl, fun i hi => ?_, fun q hq => by omega⟩
  rw [over_get h, if_neg (by omega), if_pos (by rw [ptr_len]; omega), show 3 + i - 3 = i by omega, ptr_get v hi]
theorem PInv.step {v : Vl} {T k : Nat} {l : List Bt} (h : PInv v T l k) {i : Nat} (hi : i = (k + T) % 8) : PInv v T (l.set (20 + i) (pb v i)) (k + 1) := by
  have hl := h.len
  refine ⟨by rw [List.length_set]; exact hl, fun j hj => ?_, fun q hq => ?_⟩
  · rw [List.getElem?_set_ne (by omega)]; exact h.old j hj
  · by_cases he : (q + T) % 8 = i
    · rw [he, List.getElem?_set_self (by omega)]
    · rw [List.getElem?_set_ne (by omega)]
      refine h.new q ?_
      have : q ≠ k := fun hh => he (by rw [hh, hi])
      omega
theorem PInv.all {v : Vl} {T : Nat} {l : List Bt} (h : PInv v T l 8) : ∀ i, i < 8 → l[20 + i]? = some (pb v i) := by
  intro i hi
  have := h.new ((i + 8 - T % 8) % 8) (by omega)
  rw [show ((i + 8 - T % 8) % 8 + T) % 8 = i by omega] at this
  exact this
theorem pa_load {v : Vl} {l : List Bt} {i q : Nat} (hl : l.length = 32) (h : l[q + i]? = some (pb v i)) (p : Int) (hp : p = ((q + i : Nat) : Int)) : loadS (one 0 l) (vat p) 1 = (pv v i, 0) := by
  subst hp
  rw [load_one (x := pb v i) (by omega) (by omega) (by rw [Int.toNat_natCast]; exact h)]
  exact byte_part 0 _
theorem pa_put {v : Vl} {l : List Bt} {i q : Nat} (hl : l.length = 32) (hi : i < 8) (hq : q < 8) (hb : 0 < v.b) (p : Int) (hp : p = ((20 + q : Nat) : Int)) : storeS (one 0 l) (vat p) 1 (pv v i) = (one 0 (l.set (20 + q) (pb v i)), 0) := by
  subst hp
  unfold storeS
  rw [if_pos (show isW 1 = true from rfl), one_ok (by omega) (by decide) (by decide) (by omega)]
  have h0 : ((pv v i).b == 0 && (pv v i).f == 0) = false := by
    have : ((pv v i).b == 0) = false := beq_eq_false_iff_ne.mpr (show v.b ≠ 0 by omega)
    rw [this]; rfl
  have h1 : (decide (0 < (pv v i).b) && (pv v i).f == 0) = false := by
    have : ((pv v i).f == 0) = false := beq_eq_false_iff_ne.mpr (show (i : Int) + 1 ≠ 0 by omega)
    rw [this, Bool.and_false]
  have he : encS 1 (pv v i) = some [pb v i] := by
    unfold encS
    rw [h0, h1, if_neg (by decide), if_neg (by simp), if_pos ⟨show 0 < (i : Int) + 1 by omega, rfl⟩]
    rfl
  simp only [he]
  show (one 0 (over l ((20 + q : Nat) : Int).toNat [pb v i]), (0 : Int)) = _
  have h2 := over_snoc (l := l) (i := 20 + q) (seg := []) (x := pb v i) (by simp; omega)
  rw [over_nil] at h2
  rw [Int.toNat_natCast]
  have h3 : over l (20 + q) [pb v i] = l.set (20 + q) (pb v i) := by simpa using h2.symm
  rw [h3]
theorem pa_seg {l : List Bt} (hl : l.length = 32) (i : Nat) (hi : i < 8) : ((l.drop 20).take 8).getD i zb = (l[20 + i]?).getD zb := by
  rw [List.getD_eq_getElem?_getD, List.getElem?_take_of_lt hi, List.getElem?_drop]
theorem pa_at {l : List Bt} (hl : l.length = 32) : loadS (one 0 l) (vat 20) 8 = loadR 8 ((l.drop 20).take 8) := by
  unfold loadS
  rw [if_pos (show isW 8 = true from rfl), one_ok (by decide) (by decide) (by decide) (by rw [hl]; decide)]
  rfl
theorem partB_all {seg : List Bt} (h : ∀ i, i < 8 → isPart (seg.getD i zb) (seg.getD 0 zb) i = true) : ∀ k, k ≤ 8 → partB 8 seg k = true
  | 0, _ => rfl
  | k + 1, hk => by rw [partB, partB_all h k (by omega), h k (by omega)]; rfl
theorem partB_one {seg : List Bt} {j : Nat} (h : isPart (seg.getD j zb) (seg.getD 0 zb) j = false) : ∀ k, j < k → partB 8 seg k = false
  | 0, hk => by omega
  | k + 1, hk => by
    rw [partB]
    by_cases he : j = k
    · subst he; rw [h, Bool.and_false]
    · rw [partB_one h k (by omega), Bool.false_and]
theorem numB_one {seg : List Bt} (h : ((seg.getD 0 zb).k == 1) = false) : ∀ k, 0 < k → numB seg k = false
  | 0, hk => by omega
  | k + 1, _ => by
    rw [numB]
    by_cases he : k = 0
    · subst he; rw [h, Bool.and_false]
    · rw [numB_one h k (by omega), Bool.false_and]
theorem pa_whole {v : Vl} (hf : v.f = 0) {l : List Bt} (hl : l.length = 32) (h : ∀ i, i < 8 → l[20 + i]? = some (pb v i)) : loadS (one 0 l) (vat 20) 8 = (v, 0) := by
  have hg : ∀ i, i < 8 → ((l.drop 20).take 8).getD i zb = pb v i := fun i hi => by rw [pa_seg hl i hi, h i hi]; rfl
  rw [pa_at hl, loadR, numB_one (by rw [hg 0 (by decide)]; rfl) 8 (by decide), if_neg (by decide), partB_all (fun i hi => by rw [hg i hi, hg 0 (by decide)]; simp [isPart, pb, pv]) 8 (Nat.le_refl _), if_pos rfl, hg 0 (by decide)]
  obtain ⟨n, b, f⟩ := v
  simp only at hf
  subst hf
  rfl
theorem pa_swapped {v : Vl} {l : List Bt} (hl : l.length = 32) (h : ∀ i, i < 8 → l[20 + i]? = some (pb v i)) {a b : Nat} (ha : a < 8) (hb : b < 8) (hab : a ≠ b) : loadS (one 0 ((l.set (20 + a) (pb v b)).set (20 + b) (pb v a))) (vat 20) 8 = (⟨0, 0, 0⟩, 9) := by
  have hl2 : ((l.set (20 + a) (pb v b)).set (20 + b) (pb v a)).length = 32 := by simp [hl]
  have hg : ∀ i, i < 8 → (((((l.set (20 + a) (pb v b)).set (20 + b) (pb v a)).drop 20).take 8).getD i zb).k = 2 := fun i hi => by
    rw [pa_seg hl2 i hi, List.getElem?_set, List.getElem?_set]
    split
    · split
      · rfl
      · rename_i hh; simp [hl] at hh; omega
    · split
      · split
        · rfl
        · rename_i hh; simp [hl] at hh; omega
      · rw [h i hi]; rfl
  have hga : ((((l.set (20 + a) (pb v b)).set (20 + b) (pb v a)).drop 20).take 8).getD a zb = pb v b := by
    rw [pa_seg hl2 a ha, List.getElem?_set_ne (by omega), List.getElem?_set_self (by omega)]; rfl
  rw [pa_at hl2, loadR, numB_one (by rw [hg 0 (by decide)]; rfl) 8 (by decide), if_neg (by decide), partB_one (j := a) (by
    rw [hga]
    have : ((pb v b).p.f == (a : Int) + 1) = false := beq_eq_false_iff_ne.mpr (show (b : Int) + 1 ≠ (a : Int) + 1 by omega)
    unfold isPart
    rw [this, Bool.and_false]) 8 ha, if_neg (by decide), if_neg (fun hh => by omega)]
end Go.Proofs.Yteogfjhmjlelnaa.G
