/- What is stored is loaded: a Mem of one block. No program here. -/
import Derived.Test.YteogfjhmjlelnaaMt
set_option linter.unusedVariables false
set_option linter.unusedSimpArgs false
namespace Go.Proofs.Yteogfjhmjlelnaa.G
open Go.RowKit Go.Proofs.Yteogfjhmjlelnaa.B Go.Proofs.YteogfjhmjlelnaaW.PrintWords Go.Proofs.YteogfjhmjlelnaaW.PrintLast Go.Proofs.YteogfjhmjlelnaaW.PrintMore

theorem nOf_numSeg (n : Int) (k : Nat) : ∀ j, j ≤ k → nOf (numSeg n k) j = n % 2 ^ (8 * j)
  | 0, _ => by simp [nOf]
  | j + 1, h => by
    have hg : (numSeg n k).getD j zb = ⟨1, byteOf n j, ⟨0, 0, 0⟩⟩ := by
      rw [List.getD_eq_getElem?_getD, numSeg, List.getElem?_map, List.getElem?_range (by omega)]; rfl
    rw [nOf, nOf_numSeg n k j (by omega), hg]
    show n % 2 ^ (8 * j) + (n / 2 ^ (8 * j)) % 256 * 2 ^ (8 * j) = n % 2 ^ (8 * (j + 1))
    have hp : (0 : Int) < 2 ^ (8 * j) := Int.pow_pos (by decide)
    rw [show (2 : Int) ^ (8 * (j + 1)) = 2 ^ (8 * j) * 256 by rw [show 8 * (j + 1) = 8 * j + 8 by omega, Int.pow_add]; rfl]
    generalize (2 : Int) ^ (8 * j) = P at hp ⊢
    have h1 := Int.emod_add_mul_ediv n P
    have h2 := Int.emod_add_mul_ediv (n / P) 256
    have h3 := Int.emod_nonneg n (show P ≠ 0 by omega)
    have h4 := Int.emod_lt_of_pos n hp
    have h5 := Int.emod_nonneg (n / P) (show (256 : Int) ≠ 0 by decide)
    have h6 := Int.emod_lt_of_pos (n / P) (show (0 : Int) < 256 by decide)
    generalize n % P = r at h1 h3 h4 ⊢
    generalize n / P = q at h1 h2 h5 h6 ⊢
    generalize q % 256 = s at h2 h5 h6 ⊢
    generalize q / 256 = u at h2 ⊢
    have hb : n = (r + s * P) + (P * 256) * u := by
      rw [← h1, ← h2, Int.mul_add, Int.mul_comm s P, Int.mul_assoc, Int.add_assoc]
    have h0 : 0 ≤ r + s * P := Int.add_nonneg h3 (Int.mul_nonneg h5 (Int.le_of_lt hp))
    have h7 : r + s * P < P * 256 := by
      have : s * P ≤ 255 * P := Int.mul_le_mul_of_nonneg_right (by omega) (Int.le_of_lt hp)
      omega
    rw [hb, Int.add_mul_emod_self_left, Int.emod_eq_of_lt h0 h7]
theorem numB_numSeg (n : Int) (k : Nat) : ∀ j, j ≤ k → numB (numSeg n k) j = true
  | 0, _ => rfl
  | j + 1, h => by
    have hg : (numSeg n k).getD j zb = ⟨1, byteOf n j, ⟨0, 0, 0⟩⟩ := by
      rw [List.getD_eq_getElem?_getD, numSeg, List.getElem?_map, List.getElem?_range (by omega)]; rfl
    rw [numB, numB_numSeg n k j (by omega), hg]
    rfl
theorem partB_ptr (x : Vl) : ∀ j, j ≤ 8 → partB 8 (ptrSeg x) j = true
  | 0, _ => rfl
  | j + 1, h => by
    have hg : ∀ i, i < 8 → (ptrSeg x).getD i zb = ⟨2, 0, ⟨x.n, x.b, (i : Int) + 1⟩⟩ := fun i hi => by
      rw [List.getD_eq_getElem?_getD, ptrSeg, List.getElem?_map, List.getElem?_range (by omega)]; rfl
    rw [partB, partB_ptr x j (by omega), hg j (by omega), hg 0 (by omega)]
    simp [isPart]
/-- What is told of a stored value. -/
def backV (k : Int) (v : Vl) : Vl := if 0 < v.b ∨ k = 8 then v else if k = 1 then ⟨v.n % 256, 0, 0⟩ else ⟨wrap32 v.n, 0, 0⟩
theorem loadR_enc {k : Int} {v : Vl} {seg : List Bt} (hk : k = 1 ∨ k = 4 ∨ k = 8) (hw : Well v) (hn : -9223372036854775808 ≤ v.n ∧ v.n ≤ 9223372036854775807) (h : encS k v = some seg) : loadR k.toNat seg = (backV k v, 0) ∧ seg.length = k.toNat ∧ ∀ x : Bt, x ∈ seg → x.k = 1 ∨ x.k = 2 := by
  unfold encS at h
  split at h
  · rename_i h0
    cases h
    simp only [Bool.and_eq_true, beq_iff_eq] at h0
    refine ⟨?_, by simp [numSeg], fun x hx => ?_⟩
    · have h1 := nOf_numSeg v.n k.toNat k.toNat (Nat.le_refl _)
      rw [loadR, if_pos (numB_numSeg v.n _ _ (Nat.le_refl _)), h1]
      obtain ⟨n, b, f⟩ := v
      simp only at h0 hn
      obtain ⟨rfl, rfl⟩ := h0
      rcases hk with rfl | rfl | rfl
      · simp only [backV, show (1 : Int).toNat = 1 from rfl]
        rw [if_neg (by decide), if_neg (by simp), if_true]
        congr 1
        congr 1
        show wrap64 (n % 256) = n % 256
        unfold wrap64; omega
      · simp only [backV, show (4 : Int).toNat = 4 from rfl]
        rw [if_true, if_neg (by simp), if_neg (by decide)]
        congr 1
        congr 1
        show wrap64 (wrap32 (n % 4294967296)) = wrap32 n
        unfold wrap64 wrap32; omega
      · simp only [backV, show (8 : Int).toNat = 8 from rfl]
        rw [if_neg (by decide), if_pos (.inr trivial)]
        congr 1
        congr 1
        show wrap64 (n % 18446744073709551616) = n
        unfold wrap64; omega
    · simp only [numSeg, List.mem_map] at hx
      obtain ⟨i, _, rfl⟩ := hx
      exact .inl rfl
  · split at h
    · rename_i h1
      cases h
      obtain ⟨h1, rfl⟩ := h1
      simp only [Bool.and_eq_true, decide_eq_true_eq, beq_iff_eq] at h1
      refine ⟨?_, by simp [ptrSeg], fun x hx => ?_⟩
      · have hg : (ptrSeg v).getD 0 zb = ⟨2, 0, ⟨v.n, v.b, 1⟩⟩ := rfl
        have hnb : numB (ptrSeg v) 8 = false := rfl
        show loadR 8 (ptrSeg v) = _
        rw [loadR, hnb, if_neg (by decide), if_pos (partB_ptr v 8 (Nat.le_refl _)), hg, backV, if_pos (.inr rfl)]
        obtain ⟨n, b, f⟩ := v
        simp only at h1
        rw [h1.2]
      · simp only [ptrSeg, List.mem_map] at hx
        obtain ⟨i, _, rfl⟩ := hx
        exact .inr rfl
    · split at h
      · rename_i h2
        cases h
        obtain ⟨h2, rfl⟩ := h2
        refine ⟨?_, rfl, fun x hx => ?_⟩
        · show loadR 1 [⟨2, 0, v⟩] = _
          rw [byte_part, backV, if_pos (.inl (by have := hw.2.2.2; omega))]
        · rw [List.mem_singleton] at hx
          rw [hx]
          exact .inr rfl
      · cases h
theorem isW_cases {k : Int} (h : isW k = true) : k = 1 ∨ k = 4 ∨ k = 8 := by simpa [isW, or_assoc] using h
theorem store_spec {l : List Bt} {n k : Int} {v : Vl} {s2 : List Mb} (hl : l.length ≤ 4096) (h : storeS (one 0 l) (vat n) k v = (s2, 0)) :
    (k = 1 ∨ k = 4 ∨ k = 8) ∧ 0 ≤ n ∧ n ≤ (l.length : Int) - k ∧ ∃ seg, encS k v = some seg ∧ s2 = one 0 (over l n.toNat seg) := by
  unfold storeS at h
  split at h
  · rename_i hk
    split at h
    · rename_i m hm
      split at h
      · rename_i seg hseg
        cases h
        obtain ⟨a1, a2, a3, a4, a5, a6, _⟩ := okS_spec hm
        have h6 : (one 0 l)[(1 : Int).toNat - 1]? = some m := a6
        have : m = ⟨0, l, true⟩ := by simpa [one] using h6.symm
        subst this
        exact ⟨isW_cases hk, a3, a4, seg, hseg, rfl⟩
      · cases h
    · cases h
  · cases h
theorem byte_z1 : loadR 1 [z1] = (⟨0, 0, 0⟩, 0) := by
  rw [z1, byte_num, show wrap64 0 = 0 by unfold wrap64; decide]
/-- The law of MemBack. -/
theorem back_law {N : Nat} (hN : N ≤ 4096) {n k other : Int} {v : Vl} {s2 : List Mb} (hw : Well v) (hn : -9223372036854775808 ≤ v.n ∧ v.n ≤ 9223372036854775807) (h : storeS (one 0 (List.replicate N z1)) (vat n) k v = (s2, 0)) :
    (k = 1 ∨ k = 4 ∨ k = 8) ∧ 0 ≤ n ∧ n + k ≤ 4096 ∧ loadS s2 (vat n) k = (backV k v, 0) ∧ ∃ f is, loadS (one 0 (List.replicate N z1)) (vat other) 1 = (⟨0, 0, 0⟩, f) ∧ loadS s2 (vat other) 1 = (is, f) ∧ ((other < n ∨ n + k ≤ other) → is = ⟨0, 0, 0⟩) := by
  have hl : (List.replicate N z1).length = N := List.length_replicate ..
  obtain ⟨hk, h0, h1, seg, hseg, rfl⟩ := store_spec (by rw [hl]; exact hN) h
  rw [hl] at h1
  obtain ⟨e1, e2, e3⟩ := loadR_enc hk hw hn hseg
  have hfit : n.toNat + seg.length ≤ (List.replicate N z1).length := by rw [e2, hl]; omega
  have hlo := over_length hfit
  refine ⟨hk, h0, by omega, ?_, ?_⟩
  · unfold loadS
    rw [if_pos (show isW k = true by rcases hk with rfl | rfl | rfl <;> rfl), one_ok h0 (by omega) (by omega) (by rw [hlo, hl]; exact h1)]
    show loadR k.toNat (((over (List.replicate N z1) n.toNat seg).drop n.toNat).take k.toNat) = _
    rw [← e2, over_seg hfit, e2, e1]
  · by_cases ho : 0 ≤ other ∧ other < N
    · have hg0 : (List.replicate N z1)[other.toNat]? = some z1 := by rw [List.getElem?_replicate, if_pos (by omega)]
      refine ⟨0, (loadS (one 0 (over (List.replicate N z1) n.toNat seg)) (vat other) 1).1, ?_, ?_, ?_⟩
      · rw [load_one ho.1 (by rw [hl]; omega) hg0]
        exact byte_z1
      · obtain ⟨x, hx⟩ : ∃ x, (over (List.replicate N z1) n.toNat seg)[other.toNat]? = some x := ⟨_, List.getElem?_eq_getElem (by rw [hlo, hl]; omega)⟩
        rw [load_one ho.1 (by rw [hlo, hl]; omega) hx]
        have hkx : x.k = 1 ∨ x.k = 2 := by
          rw [over_get hfit] at hx
          split at hx
          · rw [hg0] at hx; cases hx; exact .inl rfl
          · split at hx
            · exact e3 x (List.mem_of_getElem? hx)
            · rw [hg0] at hx; cases hx; exact .inl rfl
        obtain ⟨xk, xv, xp⟩ := x
        simp only at hkx
        rcases hkx with rfl | rfl
        · rw [byte_num]
        · rw [byte_part]
      · intro hout
        have hx : (over (List.replicate N z1) n.toNat seg)[other.toNat]? = some z1 := by
          rw [over_get hfit]
          rcases hout with h | h
          · rw [if_pos (by omega), hg0]
          · rw [if_neg (by omega), if_neg (by rw [e2]; omega), hg0]
        rw [load_one ho.1 (by rw [hlo, hl]; omega) hx]
        exact congrArg Prod.fst byte_z1
    · exact ⟨9, ⟨0, 0, 0⟩, load_out rfl (by rw [hl]; omega), load_out rfl (by rw [hlo, hl]; omega), fun _ => rfl⟩
end Go.Proofs.Yteogfjhmjlelnaa.G
