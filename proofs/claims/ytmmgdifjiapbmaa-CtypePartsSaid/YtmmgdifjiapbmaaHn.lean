/- Plain laws of types: what may be with fewer levels may be with more; a pointer to what may be; what decayed. No condition. -/
import Derived.Test.YtmmgdifjiapbmaaHi
namespace Go.Proofs.Ytmmgdifjiapbmaa.G
open Go.RowKit Go.Proofs.Ytmmgdifjiapbmaa.B Go.Proofs.YtmmgdifjiapbmaaW.PrintWords Go.Proofs.YtmmgdifjiapbmaaW.PrintLast Go.Proofs.YtmmgdifjiapbmaaW.PrintMore

theorem mayT_mono (n : Nat) : ∀ x, mayT n x = true → mayT (n + 1) x = true := by
  induction n with
  | zero => intro x h; simp [mayT] at h
  | succ n ih =>
    intro x h
    rw [mayT, Bool.and_eq_true, decide_eq_true_eq] at h ⊢
    exact ⟨fun k hk => ih _ (h.1 k hk), h.2⟩
theorem mayHere_mkP (x : S24) : mayHere (mkP x) = true := by simp [mayHere, mkP]
theorem mayT_mkP (n : Nat) (x : S24) : mayT (n + 1) (mkP x) = mayT n x := by
  rw [mayT, mayHere_mkP, Bool.and_true, Bool.eq_iff_iff, decide_eq_true_eq]
  constructor
  · intro h; exact h 0 (by simp [mkP])
  · intro h k hk
    obtain rfl : k = 0 := by simp [mkP] at hk; exact hk
    exact h
theorem mayT_decay (x : S24) (h9 : x.f0 ≠ 9) (h : mayT 60 x = true) : mayT 60 (decayT x) = true := by
  unfold decayT
  split
  · rename_i h6
    rw [mayT_mkP]
    rw [mayT, Bool.and_eq_true, decide_eq_true_eq] at h
    exact h.1 0 h6.2
  · exact h
end Go.Proofs.Ytmmgdifjiapbmaa.G
