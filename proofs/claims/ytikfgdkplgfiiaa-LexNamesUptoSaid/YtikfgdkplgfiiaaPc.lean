/- The printed functions on bytes and words are the plain ones. Plain Lean, no program. -/
import Derived.Test.YtikfgdkplgfiiaaPb
import Derived.Test.YtikfgdkplgfiiaaGx5
namespace Go.Proofs.Ytikfgdkplgfiiaa.G
open Go.RowKit Go.Proofs.Ytikfgdkplgfiiaa.B Go.Proofs.YtikfgdkplgfiiaaW.PrintWords Go.Proofs.YtikfgdkplgfiiaaW.PrintLast Go.Proofs.YtikfgdkplgfiiaaW.PrintMore

def letN (n : Nat) : Bool := (decide (97 ≤ n) && decide (n ≤ 122)) || (decide (65 ≤ n) && decide (n ≤ 90)) || decide (n = 95)
def digN (n : Nat) : Bool := decide (48 ≤ n) && decide (n ≤ 57)
def hexN (n : Nat) : Bool := digN n || (decide (97 ≤ n) && decide (n ≤ 102)) || (decide (65 ≤ n) && decide (n ≤ 70))
def worN (n : Nat) : Nat := if digN n = true then n - 48 else if 97 ≤ n ∧ n ≤ 102 then n - 87 else if 65 ≤ n ∧ n ≤ 70 then n - 55 else 16
theorem letter_f (c : UInt8) : crosstreeref01_letter.f (c.toNat : Int) = some (isLet c) := by
  have h : ∀ n : Nat, n < 256 → crosstreeref01_letter.f (n : Int) = some (letN n) := by decide +kernel
  exact h c.toNat c.toNat_lt
theorem digit_f (c : UInt8) : crosstreeref01_digit.f (c.toNat : Int) = some (isDig c) := by
  have h : ∀ n : Nat, n < 256 → crosstreeref01_digit.f (n : Int) = some (digN n) := by decide +kernel
  exact h c.toNat c.toNat_lt
theorem hex_f (c : UInt8) : crosstreeref01_hex.f (c.toNat : Int) = some (decide (worthS c < 16)) := by
  have h : ∀ n : Nat, n < 256 → crosstreeref01_hex.f (n : Int) = some (decide (worN n < 16)) := by decide +kernel
  exact h c.toNat c.toNat_lt
theorem lletter_f (c : UInt8) : lex_letter.f (c.toNat : Int) = some (isLet c) := by
  have h : ∀ n : Nat, n < 256 → lex_letter.f (n : Int) = some (letN n) := by decide +kernel
  exact h c.toNat c.toNat_lt
theorem ldigit_f (c : UInt8) : lex_digit.f (c.toNat : Int) = some (isDig c) := by
  have h : ∀ n : Nat, n < 256 → lex_digit.f (n : Int) = some (digN n) := by decide +kernel
  exact h c.toNat c.toNat_lt
theorem lworth_f (c : UInt8) : lex_worth.f (c.toNat : Int) = some (worthS c : Int) := by
  have h : ∀ n : Nat, n < 256 → lex_worth.f (n : Int) = some (worN n : Int) := by decide +kernel
  exact h c.toNat c.toNat_lt
theorem dig_worth (c : UInt8) : isDig c = decide (worthS c < 10) := by
  have h : ∀ n : Nat, n < 256 → digN n = decide (worN n < 10) := by decide +kernel
  exact h c.toNat c.toNat_lt
theorem worth_le (c : UInt8) : worthS c ≤ 16 := by
  have h : ∀ n : Nat, n < 256 → worN n ≤ 16 := by decide +kernel
  exact h c.toNat c.toNat_lt
theorem w64 {x : Int} (h0 : -1000000000000000000 ≤ x) (h1 : x ≤ 1000000000000000000) : wrap64 x = x := by unfold wrap64; omega
theorem wi64 {x : Int} (h0 : -1000000000000000000 ≤ x) (h1 : x ≤ 1000000000000000000) : IntKind.i64.wrap x = x := by rw [IntKind.wrap_i64]; omega
theorem drop_cons {s : ByteArray} {i : Nat} (h : i < s.size) : ∃ c t, s.toList.drop i = c :: t ∧ s.toList.drop (i + 1) = t := by
  have h1 : i < s.toList.length := by rw [tl_len]; exact h
  exact ⟨s.toList[i], s.toList.drop (i + 1), List.drop_eq_getElem_cons h1, rfl⟩
theorem run_l0 (s : ByteArray) (hs : s.size ≤ 1000000000) : ∀ (k at_ n : Nat), at_ + n ≤ s.size → s.size - (at_ + n) < k → crosstreeref01_run.l0 k s (at_ : Int) (n : Int) = some ((n + wordLen (s.toList.drop (at_ + n)) : Nat) : Int) := by
  intro k
  induction k with
  | zero => intro a n h1 h2; omega
  | succ k ih =>
    intro a n h1 h2
    unfold crosstreeref01_run.l0
    rw [w64 (x := (a : Int) + (n : Int)) (by omega) (by omega), show (a : Int) + (n : Int) = ((a + n : Nat) : Int) by omega]
    by_cases hlt : a + n < s.size
    · obtain ⟨c, t, e1, e2⟩ := drop_cons hlt
      have hb := (bt_drop e1).1
      rw [if_pos (by omega), if_pos (by omega), hb, letter_f, Option.bind_some, digit_f, e1, wordLen_cons]
      have hi := ih a (n + 1) (by omega) (by omega)
      rw [show a + (n + 1) = a + n + 1 by omega, e2] at hi
      rw [w64 (x := (n : Int) + 1) (by omega) (by omega), show (n : Int) + 1 = ((n + 1 : Nat) : Int) by omega]
      unfold isWd
      cases hl : isLet c with
      | true => rw [if_pos rfl, hi, if_pos (by simp)]; congr 2; omega
      | false =>
        rw [if_neg (by simp), Option.bind_some]
        cases hd : isDig c with
        | true => rw [if_pos rfl, hi, if_pos (by simp)]; congr 2; omega
        | false => rw [if_neg (by simp), if_neg (by simp)]; rfl
    · rw [if_neg (by omega)]
      have : s.toList.drop (a + n) = [] := by rw [List.drop_eq_nil_iff, tl_len]; omega
      rw [this, wordLen_nil]
      rfl
theorem run_f (s : ByteArray) (hs : s.size ≤ 1000000000) (k : Nat) (hk : s.size < k) : crosstreeref01_run.f k s 0 = some (wordLen s.toList : Int) := by
  have := run_l0 s hs k 0 0 (by omega) (by omega)
  simp only [Nat.zero_add, List.drop_zero] at this
  exact this
theorem wordly_l0 (s : ByteArray) (hs : s.size ≤ 1000000000) : ∀ (k n : Nat), n ≤ s.size → s.size - n < k → lex_wordly.l0 k s (n : Int) = some ((n + wordLen (s.toList.drop n) : Nat) : Int) := by
  intro k
  induction k with
  | zero => intro n h1 h2; omega
  | succ k ih =>
    intro n h1 h2
    unfold lex_wordly.l0
    by_cases hlt : n < s.size
    · obtain ⟨c, t, e1, e2⟩ := drop_cons hlt
      have hb := (bt_drop e1).1
      rw [if_pos (by omega), if_pos (by omega), hb, lletter_f, Option.bind_some, ldigit_f, e1, wordLen_cons]
      have hi := ih (n + 1) (by omega) (by omega)
      rw [e2] at hi
      rw [w64 (x := (n : Int) + 1) (by omega) (by omega), show (n : Int) + 1 = ((n + 1 : Nat) : Int) by omega]
      unfold isWd
      cases hl : isLet c with
      | true => rw [if_pos rfl, hi, if_pos (by simp)]; congr 2; omega
      | false =>
        rw [if_neg (by simp), Option.bind_some]
        cases hd : isDig c with
        | true => rw [if_pos rfl, hi, if_pos (by simp)]; congr 2; omega
        | false => rw [if_neg (by simp), if_neg (by simp)]; rfl
    · rw [if_neg (by omega)]
      have : s.toList.drop n = [] := by rw [List.drop_eq_nil_iff, tl_len]; omega
      rw [this, wordLen_nil]
      rfl
theorem wordly_f (s : ByteArray) (hs : s.size ≤ 1000000000) (k : Nat) (hk : s.size < k) : lex_wordly.f k s = some (wordLen s.toList : Int) := by
  have := wordly_l0 s hs k 0 (by omega) (by omega)
  rw [Nat.zero_add, List.drop_zero] at this
  exact this
/-! ### Words -/
theorem in_l0 (l : List ByteArray) (s : ByteArray) (hl : l.length ≤ 1000) : ∀ (k i : Nat), i ≤ l.length → l.length - i < k → crosstreeref01_in.l0 k l s (i : Int) = some (decide (s.toList ∈ (l.drop i).map ByteArray.toList)) := by
  intro k
  induction k with
  | zero => intro i h1 h2; omega
  | succ k ih =>
    intro i h1 h2
    unfold crosstreeref01_in.l0
    by_cases hlt : i < l.length
    · have hr : rdOf ByteArray.empty l (i : Int) = l[i] := by unfold rdOf; rw [Int.toNat_natCast, List.getD_eq_getElem?_getD, List.getElem?_eq_getElem hlt]; rfl
      rw [if_pos (by omega), if_pos (by omega), hr, List.drop_eq_getElem_cons hlt, List.map_cons]
      by_cases he : l[i].toList = s.toList
      · rw [if_pos he, ← he]; simp
      · rw [if_neg he, w64 (x := (i : Int) + 1) (by omega) (by omega), show (i : Int) + 1 = ((i + 1 : Nat) : Int) by omega, ih (i + 1) (by omega) (by omega)]
        congr 1
        rw [decide_eq_decide, List.mem_cons]
        exact ⟨.inr, fun h => h.resolve_left (fun h => he h.symm)⟩
    · rw [if_neg (by omega), List.drop_eq_nil_of_le (by omega)]
      simp
theorem idx_l0 (l : List ByteArray) (s : ByteArray) (hl : l.length ≤ 1000) : ∀ (k i : Nat), i ≤ l.length → l.length - i < k → ∃ r : Int, slices_Index_string_string.l0 k l s (l.length : Int) (i : Int) = some r ∧ decide (r ≥ 0) = decide (s.toList ∈ (l.drop i).map ByteArray.toList) := by
  intro k
  induction k with
  | zero => intro i h1 h2; omega
  | succ k ih =>
    intro i h1 h2
    unfold slices_Index_string_string.l0
    by_cases hlt : i < l.length
    · have hr : rdOf ByteArray.empty l (i : Int) = l[i] := by unfold rdOf; rw [Int.toNat_natCast, List.getD_eq_getElem?_getD, List.getElem?_eq_getElem hlt]; rfl
      rw [if_pos (by omega), if_pos (by omega), if_pos (by omega), hr, List.drop_eq_getElem_cons hlt, List.map_cons]
      by_cases he : s.toList = l[i].toList
      · rw [if_pos he, ← he]
        exact ⟨_, rfl, by simp⟩
      · rw [if_neg he, w64 (x := (i : Int) + 1) (by omega) (by omega), show (i : Int) + 1 = ((i + 1 : Nat) : Int) by omega]
        obtain ⟨r, h3, h4⟩ := ih (i + 1) (by omega) (by omega)
        refine ⟨r, h3, h4.trans ?_⟩
        rw [decide_eq_decide, List.mem_cons]
        exact ⟨.inr, fun h => h.resolve_left he⟩
    · rw [if_neg (by omega), List.drop_eq_nil_of_le (by omega)]
      exact ⟨_, rfl, by simp⟩
theorem word_f (s : ByteArray) (k : Nat) (hk : 20 ≤ k) : crosstreeref01_Word.f k s = some (isWordS s.toList) := by
  unfold crosstreeref01_Word.f crosstreeref01_in.f
  have := fun l hl h2 => in_l0 l s hl k 0 (Nat.zero_le _) h2
  rw [show (0 : Int) = ((0 : Nat) : Int) from rfl, this _ (by decide) (by simp; omega)]
  simp only [List.drop_zero, Option.bind_some, List.map_cons, List.map_nil, bytes_toList]
  rfl
theorem lword_f (s : ByteArray) (k : Nat) (hk : 20 ≤ k) : lex_Word.f k s = some (isWordS s.toList) := by
  unfold lex_Word.f slices_Contains_string_string.f slices_Index_string_string.f
  obtain ⟨r, h1, h2⟩ := idx_l0 [(⟨#[99, 104, 97, 114]⟩ : ByteArray), (⟨#[105, 110, 116]⟩ : ByteArray), (⟨#[108, 111, 110, 103]⟩ : ByteArray), (⟨#[118, 111, 105, 100]⟩ : ByteArray), (⟨#[115, 116, 114, 117, 99, 116]⟩ : ByteArray), (⟨#[117, 110, 105, 111, 110]⟩ : ByteArray), (⟨#[105, 102]⟩ : ByteArray), (⟨#[101, 108, 115, 101]⟩ : ByteArray), (⟨#[119, 104, 105, 108, 101]⟩ : ByteArray), (⟨#[114, 101, 116, 117, 114, 110]⟩ : ByteArray), (⟨#[98, 114, 101, 97, 107]⟩ : ByteArray), (⟨#[99, 111, 110, 116, 105, 110, 117, 101]⟩ : ByteArray), (⟨#[115, 105, 122, 101, 111, 102]⟩ : ByteArray)] s (by decide) k 0 (Nat.zero_le _) (by simp; omega)
  rw [show ((0 : Nat) : Int) = 0 from rfl] at h1
  rw [h1]
  simp only [Option.bind_some]
  rw [h2]
  simp only [List.drop_zero, List.map_cons, List.map_nil, bytes_toList]
  rfl
/-! ### Starting with -/
theorem ext_eq (s t : ByteArray) (a : Nat) (_h : a + t.size ≤ s.size) : ((s.extract a (a + t.size)).toList == t.toList) = t.toList.isPrefixOf (s.toList.drop a) := by
  rw [tl_extract, List.drop_take, show a + t.size - a = t.size by omega, ← tl_len]
  rw [Bool.eq_iff_iff, beq_iff_eq, List.isPrefixOf_iff_prefix, List.prefix_iff_eq_take, eq_comm]
theorem pre_short {s t : ByteArray} {a : Nat} (h : s.size < a + t.size) (ha : a ≤ s.size) : t.toList.isPrefixOf (s.toList.drop a) = false := by
  rw [Bool.eq_false_iff]
  intro h1
  have h2 := (List.isPrefixOf_iff_prefix.1 h1).length_le
  rw [List.length_drop, tl_len, tl_len] at h2
  omega
theorem starts_f (s t : ByteArray) (a : Nat) (hs : s.size ≤ 1000000000) (ha : a ≤ s.size) (ht : t.size ≤ 1000000) : crosstreeref01_starts.f s (a : Int) t = some (t.toList.isPrefixOf (s.toList.drop a)) := by
  unfold crosstreeref01_starts.f
  rw [w64 (x := (a : Int) + (t.size : Int)) (by omega) (by omega), show (a : Int) + (t.size : Int) = ((a + t.size : Nat) : Int) by omega]
  by_cases h : a + t.size ≤ s.size
  · rw [if_pos (by omega), if_pos (by omega), if_pos (by omega), Int.toNat_natCast, Int.toNat_natCast, ext_eq s t a h]
  · rw [if_neg (by omega), pre_short (by omega) ha]
theorem hasPrefix_f (s t : ByteArray) : strings_HasPrefix.f s t = some (t.toList.isPrefixOf s.toList) := by
  unfold strings_HasPrefix.f stringslite_HasPrefix.f
  by_cases h : t.size ≤ s.size
  · rw [if_pos (by omega), if_pos (by omega), if_pos (by omega), Int.toNat_natCast, Option.bind_some]
    have := ext_eq s t 0 (by omega)
    rw [Nat.zero_add, List.drop_zero] at this
    rw [this]
  · rw [if_neg (by omega), Option.bind_some]
    have := pre_short (s := s) (t := t) (a := 0) (by omega) (Nat.zero_le _)
    rw [List.drop_zero] at this
    rw [this]
theorem begins_prefix (a b : UInt8) (l : L8) : [a, b].isPrefixOf l = begins a b l := by
  cases l with
  | nil => rfl
  | cons c l =>
    cases l with
    | nil => simp [begins, List.isPrefixOf]
    | cons d l =>
      simp only [List.isPrefixOf, begins, Bool.and_true]
      rw [Bool.eq_iff_iff]
      simp only [Bool.and_eq_true, beq_iff_eq, decide_eq_true_eq]
      exact ⟨fun h => ⟨h.1.symm, h.2.symm⟩, fun h => ⟨h.1.symm, h.2.symm⟩⟩
end Go.Proofs.Ytikfgdkplgfiiaa.G
