/- The law LexRises, plain: the next token and what stands ahead of it. Plain Lean, no program. -/
import Derived.Test.YtikfgdkplgfiiaaPk
namespace Go.Proofs.Ytikfgdkplgfiiaa.G
open Go.RowKit Go.Proofs.Ytikfgdkplgfiiaa.B Go.Proofs.YtikfgdkplgfiiaaW.PrintWords Go.Proofs.YtikfgdkplgfiiaaW.PrintLast Go.Proofs.YtikfgdkplgfiiaaW.PrintMore

theorem toks_inv {l : L8} {z : At} {q : List At} (h : toks l = (z :: q, none)) : ∃ c t, skip l = .ok (c :: t) ∧ (tokS (c :: t)).err = 0 ∧ z = ⟨tokS (c :: t), t.length + 1⟩ ∧ toks ((c :: t).drop (tokS (c :: t)).text.length) = (q, none) := by
  cases hs : skip l with
  | bad r => rw [toks_bad hs] at h; cases h
  | ok r =>
    cases r with
    | nil => rw [toks_end hs] at h; cases h
    | cons c t =>
      by_cases he : (tokS (c :: t)).err = 0
      · rw [toks_more hs he] at h
        injection h with h1 h2
        injection h1 with h1 h3
        refine ⟨c, t, rfl, he, h1.symm, ?_⟩
        rw [← h3, ← h2]
      · rw [toks_err hs he] at h; cases h
theorem rises_step {s : ByteArray} {last : Nat} {z : At} {q : List At} (hl : last ≤ s.size) (h9 : s.size ≤ 20000) (h : toks (s.toList.drop last) = (z :: q, none)) :
    last ≤ s.size - z.left ∧ s.size - z.left + z.tk.text.length ≤ s.size ∧ z.tk.text ≠ [] ∧ s.extract (s.size - z.left) (s.size - z.left + z.tk.text.length) = toB z.tk.text ∧ toks (s.toList.drop (s.size - z.left + z.tk.text.length)) = (q, none) ∧ lexS (s.extract last (s.size - z.left)).toList = ([], 0, 0) := by
  obtain ⟨c, t, hs, he, hz, hq⟩ := toks_inv h
  obtain ⟨d1, d2, d3⟩ := suf_at (skip_suf (.inl hs)) hl
  obtain ⟨t1, t2, t3⟩ := tok_text he
  subst hz
  simp only [] at *
  have hlen : (c :: t).length = t.length + 1 := rfl
  rw [hlen] at d1 d2 d3 t2
  obtain ⟨a, ha⟩ : ∃ a, s.size - (t.length + 1) = a := ⟨_, rfl⟩
  rw [ha] at d1 d2 ⊢
  refine ⟨d2, by omega, List.length_pos_iff.1 t1, ?_, ?_, ?_⟩
  · apply bytes_eq
    rw [toB_list, tl_extract, List.drop_take, show a + (tokS (c :: t)).text.length - a = (tokS (c :: t)).text.length by omega, d1, ← t3]
  · rw [← hq, ← d1, List.drop_drop]
  · have hu : s.toList.drop last = (s.extract last a).toList ++ (c :: t) := by
      rw [tl_extract, ← d1, ← List.drop_append_of_le_length (by rw [List.length_take, tl_len]; omega), List.take_append_drop]
    rw [hu] at hs
    refine between_lex ?_ hs
    rw [tl_extract, List.length_drop, List.length_take, tl_len]
    omega
theorem rises_len {s : ByteArray} {last i : Nat} (hi : i < (toks s.toList).1.length) (h : toks (s.toList.drop last) = ((toks s.toList).1.drop i, none)) : ∃ z, (toks s.toList).1[i]? = some z ∧ toks (s.toList.drop last) = (z :: (toks s.toList).1.drop (i + 1), none) := by
  refine ⟨(toks s.toList).1[i], List.getElem?_eq_getElem hi, ?_⟩
  rw [h, List.drop_eq_getElem_cons hi]
end Go.Proofs.Ytikfgdkplgfiiaa.G
