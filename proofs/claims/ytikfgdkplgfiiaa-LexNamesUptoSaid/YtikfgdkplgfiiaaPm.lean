/- Kinds of tokens: names and words. Plain Lean, no program. -/
import Derived.Test.YtikfgdkplgfiiaaPk
namespace Go.Proofs.Ytikfgdkplgfiiaa.G
open Go.RowKit Go.Proofs.Ytikfgdkplgfiiaa.B Go.Proofs.YtikfgdkplgfiiaaW.PrintWords Go.Proofs.YtikfgdkplgfiiaaW.PrintLast Go.Proofs.YtikfgdkplgfiiaaW.PrintMore

/-- Is a text a name? -/
def nameS (l : L8) : Bool := match l with
  | [] => false
  | c :: t => decide ((c :: t).length ≤ 24) && decide (wordLen (c :: t) = (c :: t).length) && !isDig c && !isWordS (c :: t)
theorem word_let {c : UInt8} {t : L8} (h : isLet c = false) : isWordS (c :: t) = false := by
  unfold isWordS
  rw [decide_eq_false_iff_not]
  intro hm
  have key : ∀ x ∈ wordsL, x.head?.all isLet = true := by decide
  have := key _ hm
  simp [h] at this
theorem name_let {c : UInt8} {t : L8} (h : isLet c = false) : nameS (c :: t) = false := by
  unfold nameS
  simp only []
  cases hd : isDig c with
  | true => simp
  | false =>
    have hw : wordLen (c :: t) = 0 := by rw [wordLen_cons, if_neg (by rw [isWd_iff]; simp [h, hd])]
    rw [hw]
    simp
theorem let_dig {c : UInt8} (h : isLet c = true) : isDig c = false := by
  rw [isLet_iff] at h
  rw [Bool.eq_false_iff]
  intro h2
  rw [isDig_iff] at h2
  omega
theorem tok_kinds {x : Tk} (h : IsTok x) : decide (x.kind = 1) = nameS x.text ∧ decide (x.kind = 2) = isWordS x.text := by
  obtain ⟨h1, h2, _, h4⟩ := h
  obtain ⟨k, l, n, e⟩ := x
  simp only [] at h1 h2 h4 ⊢
  subst h2
  cases l with
  | nil => exact absurd rfl h4
  | cons c t =>
    rw [tokS_cons] at h1
    cases hl : isLet c with
    | true =>
      rw [hl, if_pos rfl] at h1
      by_cases h24 : 24 < wordLen (c :: t)
      · rw [if_pos h24] at h1; simp at h1
      · rw [if_neg h24] at h1
        injection h1 with k1 k2 k3 k4
        have hw : wordLen (c :: t) = (c :: t).length := by
          have := congrArg List.length k2
          rw [take_len (wordLen_le _)] at this
          exact this
        rw [k2] at k1
        have hn : nameS (c :: t) = !isWordS (c :: t) := by
          unfold nameS
          simp only []
          rw [hw, let_dig hl, decide_eq_true (show (c :: t).length ≤ 24 by omega)]
          simp
        rw [hn, ← k1]
        cases isWordS (c :: t) <;> simp
    | false =>
      rw [name_let hl, word_let hl]
      rw [hl, if_neg (by simp)] at h1
      by_cases hd : isDig c = true
      · rw [if_pos hd] at h1
        injection h1 with k1
        subst k1
        simp
      · rw [if_neg hd] at h1
        by_cases h3 : c.toNat = 39
        · rw [if_pos h3] at h1
          cases hc : charS (c :: t) with
          | none => rw [hc] at h1; simp at h1
          | some d =>
            rw [hc] at h1
            injection h1 with k1
            subst k1
            simp
        · rw [if_neg h3] at h1
          cases hc : signS (c :: t) with
          | none => rw [hc] at h1; simp at h1
          | some d =>
            rw [hc] at h1
            injection h1 with k1
            subst k1
            simp
theorem toksF_texts : ∀ (k : Nat) (l : L8) (z : At), z ∈ (toksF k l).1 → z.tk.text.length ≤ l.length := by
  intro k
  induction k with
  | zero => intro l z h; cases h
  | succ k ih =>
    intro l z h
    unfold toksF at h
    cases hs : skip l with
    | bad q => rw [hs] at h; cases h
    | ok q =>
      rw [hs] at h
      cases q with
      | nil => cases h
      | cons c t =>
        have hle := skip_le (.inl hs)
        simp only [] at h
        by_cases he : (tokS (c :: t)).err = 0
        · rw [if_pos he] at h
          obtain ⟨t1, t2, _⟩ := tok_text he
          rcases List.mem_cons.1 h with rfl | h
          · exact Nat.le_trans t2 hle
          · have := ih _ z h
            rw [List.length_drop] at this
            omega
        · rw [if_neg he] at h
          cases h
theorem toks_texts (l : L8) (z : At) (h : z ∈ (toks l).1) : z.tk.text.length ≤ l.length := toksF_texts _ l z h
theorem name_f (s : ByteArray) (hs : s.size ≤ 1000000000) (k : Nat) (hk : s.size < k) (h20 : 20 ≤ k) : lex_Name.f k s = some (nameS s.toList) := by
  unfold lex_Name.f
  have h9 := tl_len s
  cases hl : s.toList with
  | nil => rw [if_pos rfl]; rfl
  | cons c t =>
    rw [hl] at h9
    rw [if_neg (by simp)]
    unfold nameS
    simp only []
    rw [h9]
    by_cases h24 : s.size ≤ 24
    · rw [if_pos (by omega), wordly_f s hs k hk, hl, Option.bind_some, decide_eq_true h24]
      by_cases hw : wordLen (c :: t) = s.size
      · have hb : bt s 0 = (c.toNat : Int) := bt_get (i := 0) (by rw [hl]; rfl)
        rw [if_pos (by omega), if_pos (by rw [← h9]; simp), hb, ldigit_f c, Option.bind_some, decide_eq_true hw]
        cases isDig c with
        | true => rw [if_pos rfl]; rfl
        | false =>
          rw [if_neg (by simp), lword_f s k h20, Option.bind_some, hl]
          simp
      · rw [if_neg (by omega), decide_eq_false hw]
        rfl
    · rw [if_neg (by omega), decide_eq_false h24]
      rfl
/-- One token of a text: its own text is one token. -/
theorem kinds_plain (s : L8) (i : Nat) (x : S32) (h : (lexS s).1[i]? = some x) : ∃ tk : L8, x.f2 = toB tk ∧ lexS tk = ([⟨x.f0, 0, x.f2, x.f3⟩], 0, 0) ∧ decide (x.f0 = 1) = nameS tk ∧ decide (x.f0 = 2) = isWordS tk ∧ tk.length ≤ 20000 := by
  by_cases hb : 20000 < s.length
  · unfold lexS at h
    rw [if_pos hb] at h
    cases h
  · cases he : (toks s).2 with
    | some re =>
      obtain ⟨r, e⟩ := re
      rw [lexS_bad hb he] at h
      cases h
    | none =>
      rw [lexS_ok hb he] at h
      simp only [List.getElem?_map, Option.map_eq_some_iff] at h
      obtain ⟨z, hz, rfl⟩ := h
      have hm := List.mem_of_getElem? hz
      have ht := toks_are s z hm
      have hlen := toks_texts s z hm
      have ha := toks_alone ht
      obtain ⟨k1, k2⟩ := tok_kinds ht
      refine ⟨z.tk.text, rfl, ?_, ?_, ?_, by omega⟩
      · rw [lexS_ok (by omega) (by rw [ha]), ha]
        simp [atS32]
      · rw [← k1, decide_eq_decide]
        show (z.tk.kind : Int) = 1 ↔ _
        omega
      · rw [← k2, decide_eq_decide]
        show (z.tk.kind : Int) = 2 ↔ _
        omega
end Go.Proofs.Ytikfgdkplgfiiaa.G
