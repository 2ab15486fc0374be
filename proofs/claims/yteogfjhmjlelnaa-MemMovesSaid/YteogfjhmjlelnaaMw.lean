/- The law MemMoves of mem: what is put and moved in a Mem of one block; and its walk. No condition. -/
import Derived.Test.YteogfjhmjlelnaaMu
import Derived.Test.YteogfjhmjlelnaaMv
set_option linter.unusedVariables false
set_option linter.unusedSimpArgs false
namespace Go.Proofs.Yteogfjhmjlelnaa.G
open Go.RowKit Go.Proofs.Yteogfjhmjlelnaa.B Go.Proofs.YteogfjhmjlelnaaW.PrintWords Go.Proofs.YteogfjhmjlelnaaW.PrintLast Go.Proofs.YteogfjhmjlelnaaW.PrintMore

theorem bytes_one' (l : List Bt) : bytesS (one 0 l) 1 = l := rfl
def m0 : List Bt := List.replicate 64 z1
theorem mo_a : allocS [] 0 64 true = (one 0 m0, 1, 0) := rfl
def nb (x : Int) : Bt := ⟨1, x % 256, ⟨0, 0, 0⟩⟩
/-- The bytes behind the first j stores. -/
def mput (xs : List Int) (j : Nat) : List Bt := over m0 0 ((xs.take j).map nb)
theorem mput_len {xs : List Int} {j : Nat} (h : j ≤ 64) : (mput xs j).length = 64 := by
  unfold mput; rw [over_length (by simp [m0]; omega)]; rfl
theorem over_all {l : List Bt} {x : Bt} {n : Nat} (h : n < l.length) : over l n [x] = l.set n x := by
  have := over_snoc (l := l) (i := n) (seg := []) (x := x) (by simpa using h)
  rw [over_nil] at this
  simpa using this.symm
theorem mo_s {xs : List Int} {j : Nat} {x : Int} (hj : j < 64) (hx : xs[j]? = some x) (q : Int) (hq : q = (j : Int)) : storeS (one 0 (mput xs j)) (vat q) 1 ⟨x, 0, 0⟩ = (one 0 (mput xs (j + 1)), 0) := by
  subst hq
  have hl := (List.getElem?_eq_some_iff.1 hx).1
  have h0 := mput_len (xs := xs) (j := j) (by omega)
  unfold storeS
  rw [if_pos (show isW 1 = true from rfl), one_ok (by omega) (by decide) (by decide) (by rw [h0]; omega)]
  show ((one 0 (over (mput xs j) (j : Int).toNat (numSeg x 1))), (0 : Int)) = _
  rw [Int.toNat_natCast, show numSeg x 1 = [nb x] by simp [numSeg, byteOf, nb, List.range_succ], over_all (by rw [h0]; exact hj)]
  have h1 := over_snoc (l := m0) (i := 0) (seg := (xs.take j).map nb) (x := nb x) (by simp [m0]; omega)
  have h2 : ((xs.take j).map nb).length = j := by simp; omega
  rw [h2, Nat.zero_add] at h1
  unfold mput
  rw [h1, ← List.map_singleton, ← List.map_append]
  obtain ⟨hlt, rfl⟩ := List.getElem?_eq_some_iff.1 hx
  rw [List.take_succ_eq_append_getElem hlt]
def mcopy (l : List Bt) (a b k : Nat) : List Bt := if a + k ≤ 64 ∧ b + k ≤ 64 then over l a ((l.drop b).take k) else l
theorem mcopy_len {l : List Bt} {a b k : Nat} (h : l.length = 64) : (mcopy l a b k).length = 64 := by
  unfold mcopy
  split
  · rw [over_length (by rw [List.length_take, List.length_drop]; omega), h]
  · exact h
theorem mo_c {l : List Bt} {a b k : Nat} (h : l.length = 64) (hk : k ≤ 65) : copyS (one 0 l) (vat a) (vat b) k = (one 0 (mcopy l a b k), if a + k ≤ 64 ∧ b + k ≤ 64 then 0 else 9) := by
  unfold copyS mcopy
  by_cases h1 : a + k ≤ 64
  · rw [one_ok (by omega) (by omega) (by omega) (by rw [h]; omega)]
    by_cases h2 : b + k ≤ 64
    · rw [one_ok (by omega) (by omega) (by omega) (by rw [h]; omega), if_pos ⟨h1, h2⟩, if_pos ⟨h1, h2⟩]
      rfl
    · rw [one_no (by rw [h]; omega), if_neg (fun hh => h2 hh.2), if_neg (fun hh => h2 hh.2)]
  · rw [one_no (by rw [h]; omega), if_neg (fun hh => h1 hh.1), if_neg (fun hh => h1 hh.1)]
theorem mcopy_in {l : List Bt} {a b k i : Nat} (h : l.length = 64) (h1 : a + k ≤ 64) (h2 : b + k ≤ 64) (hi : a ≤ i) (hi2 : i < a + k) : (mcopy l a b k)[i]? = l[b + i - a]? := by
  unfold mcopy
  have hs : ((l.drop b).take k).length = k := by rw [List.length_take, List.length_drop]; omega
  rw [if_pos ⟨h1, h2⟩, over_get (by omega), if_neg (by omega), if_pos (by omega), List.getElem?_take_of_lt (by omega), List.getElem?_drop]
  congr 1
  omega
theorem mcopy_out {l : List Bt} {a b k i : Nat} (h : l.length = 64) (ho : ¬ (a + k ≤ 64 ∧ b + k ≤ 64) ∨ i < a ∨ a + k ≤ i) : (mcopy l a b k)[i]? = l[i]? := by
  unfold mcopy
  split
  · rename_i hc
    have hs : ((l.drop b).take k).length = k := by rw [List.length_take, List.length_drop]; omega
    rw [over_get (by omega), hs]
    rcases ho with ho | ho | ho
    · exact absurd hc ho
    · rw [if_pos ho]
    · rw [if_neg (by omega), if_neg (by omega)]
  · rfl
end Go.Proofs.Yteogfjhmjlelnaa.G
