/- The document's example; equal lists of numbers. Plain Lean. -/
import Derived.Test.YtdobjmbfkdfdcaaPh
set_option linter.unusedVariables false
set_option linter.unusedSimpArgs false
namespace Go.Proofs.Ytdobjmbfkdfdcaa.G
open Go.RowKit Go.Proofs.Ytdobjmbfkdfdcaa.B Go.Proofs.YtdobjmbfkdfdcaaW.PrintWords Go.Proofs.YtdobjmbfkdfdcaaW.PrintLast Go.Proofs.YtdobjmbfkdfdcaaW.PrintMore

theorem ints_l0 (a : List Int) (ha : a.length ≤ 1000000) : ∀ (d i : Nat), a.length - i = d → i ≤ a.length → crosstreeref06_Ints.l0 (d + 1) a a (i : Int) = some true := by
  intro d
  induction d with
  | zero =>
    intro i h1 h2
    unfold crosstreeref06_Ints.l0
    rw [if_neg (by omega)]
  | succ d ih =>
    intro i h1 h2
    unfold crosstreeref06_Ints.l0
    rw [if_pos (by omega), if_pos (by omega), if_pos (by omega), if_pos rfl, w64 (by omega) (by omega), show (i : Int) + 1 = ((i + 1 : Nat) : Int) by omega]
    exact ih (i + 1) (by omega) (by omega)
theorem ints_f (a : List Int) (ha : a.length ≤ 1000000) : ∃ k, crosstreeref06_Ints.f k a a = some true := by
  refine ⟨a.length + 1, ?_⟩
  unfold crosstreeref06_Ints.f
  rw [if_pos rfl]
  exact ints_l0 a ha a.length 0 rfl (Nat.zero_le _)
theorem ints_inj {a b : List Nat} (h : ints a = ints b) : a = b := by
  have key : ∀ x : List Nat, (ints x).map Int.toNat = x := fun x => by
    unfold ints
    rw [List.map_map]
    exact (List.map_congr_left (g := id) (fun y _ => Int.toNat_natCast y)).trans (List.map_id x)
  rw [← key a, ← key b, h]
/-- The example. -/
def L4 : List S33 := [⟨0, 0, 1⟩, ⟨1, 0, 2⟩, ⟨2, 0, 1⟩, ⟨3, 0, 0⟩]
theorem grp4 : GrpOk (sizeN 4) L4 [0, 1, 1, 3] := by
  obtain ⟨s, h1, h2⟩ := groups_ok (sizeN 4) L4 (sizeN_le 4)
  have h3 : (groupsT (graphS (sizeN 4) L4)).map TS.out = some [0, 1, 1, 3] := by decide +kernel
  rw [h1] at h3
  injection h3 with h3
  rw [h3] at h2
  exact h2
theorem ord4 {r R : List Nat} (hr : GrpOk (sizeN 4) L4 r) (h : greedy (sizeN 4) L4 r (sizeN 4 + 1) (List.replicate (sizeN 4) false) [] = some R) : R = [3, 0, 1] := by
  rw [hr.unique grp4] at h
  have h2 : greedy (sizeN 4) L4 [0, 1, 1, 3] (sizeN 4 + 1) (List.replicate (sizeN 4) false) [] = some [3, 0, 1] := by decide +kernel
  rw [h2] at h
  injection h with h
  exact h.symm
theorem rch4 {s : List Nat} (hs : ROk (sizeN 4) L4 [1] s) : s = [1, 2] := by
  obtain ⟨k, hk⟩ := refReach_f 4 L4 (by decide) [1] (by decide) s hs
  have h2 : crosstreeref15_Reach.f 30 4 L4 [1] = some (ints [1, 2]) := by decide +kernel
  have h3 := le_mono (g := fun k => crosstreeref15_Reach.f k 4 L4 [1]) (crosstreeref15_Reach.mono _ _ _) hk (max k 30) (by omega)
  have h4 := le_mono (g := fun k => crosstreeref15_Reach.f k 4 L4 [1]) (crosstreeref15_Reach.mono _ _ _) h2 (max k 30) (by omega)
  have h5 := h3.symm.trans h4
  injection h5 with h5
  exact ints_inj h5
end Go.Proofs.Ytdobjmbfkdfdcaa.G
