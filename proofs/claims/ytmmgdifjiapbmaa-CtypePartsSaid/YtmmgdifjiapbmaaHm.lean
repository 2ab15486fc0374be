/- Plain laws of types: being the same goes both ways and on; what decayed decays no more; widths and scalars. No condition. -/
import Derived.Test.YtmmgdifjiapbmaaHl
import Derived.Test.YtmmgdifjiapbmaaHh
namespace Go.Proofs.Ytmmgdifjiapbmaa.G
open Go.RowKit Go.Proofs.Ytmmgdifjiapbmaa.B Go.Proofs.YtmmgdifjiapbmaaW.PrintWords Go.Proofs.YtmmgdifjiapbmaaW.PrintLast Go.Proofs.YtmmgdifjiapbmaaW.PrintMore

mutual
theorem sameT_refl : ∀ x : S24, sameT x x = true
  | ⟨a, b, c, l⟩ => by simp [sameT, sameL_refl l]
theorem sameL_refl : ∀ l : List S24, sameL l l = true
  | [] => by simp [sameL]
  | x :: l => by simp [sameL, sameT_refl x, sameL_refl l]
end
mutual
theorem sameT_symm : ∀ x y : S24, sameT x y = sameT y x
  | ⟨a, b, c, l⟩, ⟨a', b', c', l'⟩ => by
    simp only [sameT, sameL_symm l l']
    rw [show (a == a') = (a' == a) from BEq.comm, show (b == b') = (b' == b) from BEq.comm, show (c.toList == c'.toList) = (c'.toList == c.toList) from BEq.comm]
theorem sameL_symm : ∀ l l' : List S24, sameL l l' = sameL l' l
  | [], [] => rfl
  | [], _ :: _ => rfl
  | _ :: _, [] => rfl
  | x :: l, y :: l' => by simp only [sameL, sameT_symm x y, sameL_symm l l']
end
mutual
theorem sameT_trans : ∀ x y z : S24, sameT x y = true → sameT y z = true → sameT x z = true
  | ⟨a, b, c, l⟩, ⟨a', b', c', l'⟩, ⟨a'', b'', c'', l''⟩, h, k => by
    simp only [sameT, Bool.and_eq_true, beq_iff_eq] at h k ⊢
    exact ⟨⟨⟨h.1.1.1.trans k.1.1.1, h.1.1.2.trans k.1.1.2⟩, h.1.2.trans k.1.2⟩, sameL_trans l l' l'' h.2 k.2⟩
theorem sameL_trans : ∀ l l' l'' : List S24, sameL l l' = true → sameL l' l'' = true → sameL l l'' = true
  | [], [], l'', _, k => k
  | [], _ :: _, _, h, _ => by simp [sameL] at h
  | _ :: _, [], _, h, _ => by simp [sameL] at h
  | _ :: _, _ :: _, [], _, k => by simp [sameL] at k
  | x :: l, y :: l', z :: l'', h, k => by
    simp only [sameL, Bool.and_eq_true] at h k ⊢
    exact ⟨sameT_trans x y z h.1 k.1, sameL_trans l l' l'' h.2 k.2⟩
end
theorem decay_twice (x : S24) : decayT (decayT x) = decayT x := by
  unfold decayT
  split
  · simp [mkP]
  · split
    · simp [mkP]
    · rfl
theorem width_sc (a : Int) : decide (0 < widthT a) = isSc a := by
  unfold widthT
  repeat' split
  all_goals simp_all [isSc]
  all_goals omega
theorem num_sc (a : Int) (h : isNum a = true) : isSc a = true := by simp [isNum] at h; simp [isSc]; omega
theorem fits_self (x : S24) : fitsT x x false = (isSc x.f0 || (decide (x.f0 = 7) || decide (x.f0 = 8))) := by
  unfold fitsT
  split
  · rename_i h; rw [h, num_sc _ h]; rfl
  · rename_i h
    split
    · rename_i h5; rw [h5]; simp [sameT_refl, isSc]
    · rename_i h5
      have : isSc x.f0 = false := by
        simp only [isNum, Bool.and_eq_true, decide_eq_true_eq] at h
        simp [isSc]; omega
      rw [this, sameT_refl]; simp
theorem fits_num (x y : S24) (hx : isNum x.f0 = true) (hy : isNum y.f0 = true) : fitsT x y false = true := by unfold fitsT; rw [if_pos hx, hy]
theorem fits_zero (x y : S24) (hx : x.f0 = 5) : fitsT x y true = true := by
  unfold fitsT
  rw [if_neg (by simp [hx, isNum]), if_pos hx]; rfl
end Go.Proofs.Ytmmgdifjiapbmaa.G
