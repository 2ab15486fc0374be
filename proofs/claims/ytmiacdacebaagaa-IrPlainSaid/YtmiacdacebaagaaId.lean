/- What the reference's Reads tells is what ir.Reads tells; two lists that are one are the same; lists of numbers in memory. -/
import Derived.Test.YtmiacdacebaagaaIc
import Derived.Test.YtmiacdacebaagaaGx2
set_option linter.unusedVariables false
set_option linter.unusedSimpArgs false
namespace Go.Proofs.Ytmiacdacebaagaa.G
open Go.RowKit Go.Proofs.Ytmiacdacebaagaa.B Go.Proofs.YtmiacdacebaagaaW.PrintWords Go.Proofs.YtmiacdacebaagaaW.PrintLast Go.Proofs.YtmiacdacebaagaaW.PrintMore

theorem refReads_ok (a0 a1 a2 a3 a4 a5 : Int) (s : ByteArray) (l : List Int) (hl : l.length * 8 ≤ 140737488351232) :
    crosstreeref08_Reads.f 6 a0 a1 a2 a3 a4 a5 s l = some (readsS a1 a2 a3 l (rowS a0).data.toList) := by
  have h1 : ([] : List Int).length + l.length < 17592186044416 := by simp; omega
  have h2 : ([a2] : List Int).length + l.length < 17592186044416 := by simp; omega
  by_cases h : 1 ≤ a0 ∧ a0 ≤ 20
  · rcases ops_cases h.1 h.2 with rfl | rfl | rfl | rfl | rfl | rfl | rfl | rfl | rfl | rfl | rfl | rfl | rfl | rfl | rfl | rfl | rfl | rfl | rfl | rfl
    case inr.inr.inr.inr.inr.inr.inr.inr.inr.inr.inr.inr.inr.inr.inr.inr.inr.inr.inl =>
      by_cases e : a1 = -1
      · simp [crosstreeref08_Reads.f, crosstreeref08_Reads.j0, crosstreeref08_Reads.j1, crosstreeref08_Reads.j2, crosstreeref08_Reads.j3, crosstreeref08_Reads.j4, e, rowS, readsS, stepR]
      · simp [crosstreeref08_Reads.f, crosstreeref08_Reads.j0, crosstreeref08_Reads.j1, crosstreeref08_Reads.j2, crosstreeref08_Reads.j3, crosstreeref08_Reads.j4, e, rowS, readsS, stepR]
    all_goals simp [crosstreeref08_Reads.f, crosstreeref08_Reads.j0, crosstreeref08_Reads.j1, crosstreeref08_Reads.j2, crosstreeref08_Reads.j3, crosstreeref08_Reads.j4, rowS, readsS, stepR]
    all_goals simp at h1 h2
    · omega
    · omega
  · have hs : rowS a0 = ⟨#[]⟩ := by unfold rowS; rw [if_pos (by omega)]
    rw [hs]
    have n3 : a0 ≠ 3 := by omega
    have n4 : a0 ≠ 4 := by omega
    have n5 : a0 ≠ 5 := by omega
    have n6 : a0 ≠ 6 := by omega
    have n7 : a0 ≠ 7 := by omega
    have n8 : a0 ≠ 8 := by omega
    have n9 : a0 ≠ 9 := by omega
    have n10 : a0 ≠ 10 := by omega
    have n11 : a0 ≠ 11 := by omega
    have n12 : a0 ≠ 12 := by omega
    have n13 : a0 ≠ 13 := by omega
    have n14 : a0 ≠ 14 := by omega
    have n15 : a0 ≠ 15 := by omega
    have n16 : a0 ≠ 16 := by omega
    have n18 : a0 ≠ 18 := by omega
    have n19 : a0 ≠ 19 := by omega
    simp [crosstreeref08_Reads.f, crosstreeref08_Reads.j0, crosstreeref08_Reads.j1, crosstreeref08_Reads.j2, crosstreeref08_Reads.j3, crosstreeref08_Reads.j4, *]
    rfl
theorem ints_l0 (xs : List Int) (hm : xs.length ≤ 9223372036854775807) : ∀ (d i k : Nat), xs.length - i = d → i ≤ xs.length → d < k → crosstreeref06_Ints.l0 k xs xs i = some true := by
  intro d
  induction d with
  | zero =>
    intro i k h hi hk
    obtain ⟨k, rfl⟩ : ∃ m, k = m + 1 := ⟨k - 1, by omega⟩
    simp only [crosstreeref06_Ints.l0]
    rw [if_neg (by omega)]
  | succ d ih =>
    intro i k h hi hk
    obtain ⟨k, rfl⟩ : ∃ m, k = m + 1 := ⟨k - 1, by omega⟩
    simp only [crosstreeref06_Ints.l0]
    rw [if_pos (by omega), if_pos (by omega), if_pos (by omega)]
    simp only [if_true]
    rw [show wrap64 ((i : Int) + 1) = ((i + 1 : Nat) : Int) by unfold wrap64; omega]
    exact ih (i + 1) k (by omega) (by omega) (by omega)
theorem ints_same (xs : List Int) (hm : xs.length ≤ 9223372036854775807) : crosstreeref06_Ints.f (xs.length + 1) xs xs = some true := by
  unfold crosstreeref06_Ints.f
  rw [if_pos rfl]
  exact ints_l0 xs hm xs.length 0 _ (by omega) (Nat.zero_le _) (by omega)
theorem ints_calls (xs : List Int) (A B : Option Addr) (c d : Nat) (w : World) (hA : Kd.C (Kd.int .i64) w A xs.length xs) (hc : xs.length ≤ c) (hB : Kd.C (Kd.int .i64) w B xs.length xs) (hd : xs.length ≤ d) :
    Calls Try.prog 6 #[.slice A xs.length c, .slice B xs.length d] w fun e w' => e = .returned (.bool true) ∧ Below w.heap.size w w' :=
  (crosstreeref06_Ints.calls _ A c xs B d xs true w hA hc hB hd (ints_same xs hA.2.1)).mono fun _ _ ⟨h1, h2⟩ => ⟨h1, h2.below⟩
theorem C_lit {w : World} {g : Nat} (xs : List Int) (hb : w.heap[g]? = some (.cells (nums .i64 xs).toArray 3 (0, 0))) (hm : xs.length ≤ 9223372036854775807) : Kd.C (Kd.int .i64) w (some ⟨g, 0, none⟩) xs.length xs := by
  refine ⟨rfl, hm, fun _ => ⟨_, rfl, fun j p hj => ⟨[.int .i64 p], rfl, rfl, fun i u hu => ?_⟩⟩⟩
  match i, hu with
  | 0, hu =>
    obtain rfl : Value.int .i64 p = u := by simpa using hu
    show w.cell? ((⟨g, 0, none⟩ : Addr).add (j * 1 + 0)) = _
    rw [add_plain, blk_cell hb]
    simp [nums, hj]
end Go.Proofs.Ytmiacdacebaagaa.G
