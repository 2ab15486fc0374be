/- The law MemMoves of mem is true: its walk. No condition. -/
import Derived.Test.YteogfjhmjlelnaaL5b
import Derived.Test.YteogfjhmjlelnaaL5c
set_option linter.unusedVariables false
set_option linter.unusedSimpArgs false
namespace Go.Proofs.Yteogfjhmjlelnaa.G
open Go.RowKit Go.Proofs.Yteogfjhmjlelnaa.B Go.Proofs.YteogfjhmjlelnaaW.PrintWords Go.Proofs.YteogfjhmjlelnaaW.PrintLast Go.Proofs.YteogfjhmjlelnaaW.PrintMore

theorem MemMoves_row (A : Option Addr) (cp : Nat) (xs : List Int) (F G M : Int) (hF : 0 ≤ F ∧ F ≤ 255) (hG : 0 ≤ G ∧ G ≤ 255) (hM : 0 ≤ M ∧ M ≤ 255) (w : World) (hcp : xs.length ≤ cp) (hC : Kd.C (Kd.int .u8) w A xs.length xs) (hx : ∀ x ∈ xs, 0 ≤ x ∧ x ≤ 255) :
    Calls Try.prog 5 #[.slice A xs.length cp, .int .u8 F, .int .u8 G, .int .u8 M] w fun e w' => e = .returned (.bool true) ∧ Below w.heap.size w w' := by
  obtain ⟨F, rfl⟩ := Int.eq_ofNat_of_zero_le hF.1
  obtain ⟨G, rfl⟩ := Int.eq_ofNat_of_zero_le hG.1
  obtain ⟨M, rfl⟩ := Int.eq_ofNat_of_zero_le hM.1
  have hl : xs.length ≤ 9223372036854775807 := hC.2.1
  have hb : F ≤ 255 ∧ G ≤ 255 ∧ M ≤ 255 := by omega
  by_cases h : F % 65 + M % 66 ≤ 64
  · by_cases h2 : G % 65 + M % 66 ≤ 64
    · exact MemMoves_in A cp xs F G M _ _ _ rfl rfl rfl ⟨h, h2⟩ w hcp hC hx hl hb
    · exact MemMoves_nb A cp xs F G M _ _ _ rfl rfl rfl ⟨h, by omega⟩ w hcp hC hx hl hb
  · exact MemMoves_na A cp xs F G M _ _ _ rfl rfl rfl (by omega) w hcp hC hx hl hb
end Go.Proofs.Yteogfjhmjlelnaa.G
