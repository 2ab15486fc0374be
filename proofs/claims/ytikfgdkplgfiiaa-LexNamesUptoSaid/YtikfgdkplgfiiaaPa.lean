/- The tokens of a text, as a plain function on its bytes. Plain Lean, no program. -/
import Derived.Test.YtikfgdkplgfiiaaBase
import Derived.Test.YtikfgdkplgfiiaaGx0
namespace Go.Proofs.Ytikfgdkplgfiiaa.G
open Go.RowKit Go.Proofs.Ytikfgdkplgfiiaa.B Go.Proofs.YtikfgdkplgfiiaaW.PrintWords Go.Proofs.YtikfgdkplgfiiaaW.PrintLast Go.Proofs.YtikfgdkplgfiiaaW.PrintMore

abbrev L8 := List UInt8
theorem tl_len (b : ByteArray) : b.toList.length = b.size := bytes_size b
theorem tl_extract (b : ByteArray) (i j : Nat) : (b.extract i j).toList = (b.toList.take j).drop i := by
  rw [bytes_toList, bytes_toList, ByteArray.data_extract, Array.toList_extract, List.extract_eq_take_drop, List.drop_take]
theorem tl_tail (b : ByteArray) (i : Nat) : (b.extract i b.size).toList = b.toList.drop i := by
  rw [tl_extract, ← tl_len, List.take_length]
theorem tl_head (b : ByteArray) (i : Nat) : (b.extract 0 i).toList = b.toList.take i := by
  rw [tl_extract, List.drop_zero]
theorem bt_get {b : ByteArray} {i : Nat} {c : UInt8} (h : b.toList[i]? = some c) : bt b (i : Int) = (c.toNat : Int) := by
  obtain ⟨h1, h2⟩ := List.getElem?_eq_some_iff.1 h
  rw [tl_len] at h1
  unfold bt
  rw [Int.toNat_natCast, dif_pos h1]
  have h3 : b.toList[i]? = some (b[i]'h1) := by
    rw [bytes_toList, Array.getElem?_toList]
    exact Array.getElem?_eq_getElem h1
  rw [h] at h3
  injection h3 with h3
  rw [h3]
theorem bt_drop {b : ByteArray} {i : Nat} {c : UInt8} {t : L8} (h : b.toList.drop i = c :: t) : bt b (i : Int) = (c.toNat : Int) ∧ i < b.size ∧ b.toList.drop (i + 1) = t := by
  have h1 : b.toList[i]? = some c := by
    have := congrArg (fun l : L8 => l[0]?) h
    simpa using this
  refine ⟨bt_get h1, ?_, ?_⟩
  · rw [← tl_len]
    exact (List.getElem?_eq_some_iff.1 h1).1
  · have := congrArg (List.drop 1) h
    simpa [List.drop_drop, Nat.add_comm] using this
theorem drop_end {b : ByteArray} {i : Nat} (h : b.toList.drop i = []) : b.size ≤ i := by
  rw [← tl_len]
  exact List.drop_eq_nil_iff.1 h
theorem byte_le (c : UInt8) : c.toNat ≤ 255 := by have := c.toNat_lt; omega
theorem byte_eq {c d : UInt8} : c = d ↔ c.toNat = d.toNat := ⟨fun h => by rw [h], fun h => UInt8.toNat_inj.1 h⟩
/-! ### The classes of bytes -/
def isLet (c : UInt8) : Bool := (decide (97 ≤ c.toNat) && decide (c.toNat ≤ 122)) || (decide (65 ≤ c.toNat) && decide (c.toNat ≤ 90)) || decide (c.toNat = 95)
def isDig (c : UInt8) : Bool := decide (48 ≤ c.toNat) && decide (c.toNat ≤ 57)
def isWd (c : UInt8) : Bool := isLet c || isDig c
def isBl (c : UInt8) : Bool := decide (c.toNat = 32) || decide (c.toNat = 9) || decide (c.toNat = 10) || decide (c.toNat = 13)
theorem isLet_iff (c : UInt8) : isLet c = true ↔ (97 ≤ c.toNat ∧ c.toNat ≤ 122) ∨ (65 ≤ c.toNat ∧ c.toNat ≤ 90) ∨ c.toNat = 95 := by simp [isLet, or_assoc]
theorem isDig_iff (c : UInt8) : isDig c = true ↔ 48 ≤ c.toNat ∧ c.toNat ≤ 57 := by simp [isDig]
theorem isBl_iff (c : UInt8) : isBl c = true ↔ c.toNat = 32 ∨ c.toNat = 9 ∨ c.toNat = 10 ∨ c.toNat = 13 := by simp [isBl, or_assoc]
theorem isWd_iff (c : UInt8) : isWd c = true ↔ isLet c = true ∨ isDig c = true := by simp [isWd]
def wordLen (l : L8) : Nat := (l.takeWhile isWd).length
theorem wordLen_nil : wordLen [] = 0 := rfl
theorem wordLen_cons (c : UInt8) (l : L8) : wordLen (c :: l) = if isWd c = true then wordLen l + 1 else 0 := by
  unfold wordLen
  rw [List.takeWhile_cons]
  split <;> rfl
theorem wordLen_le (l : L8) : wordLen l ≤ l.length := by
  induction l with
  | nil => exact Nat.le_refl _
  | cons c l ih => rw [wordLen_cons, List.length_cons]; split <;> omega
theorem wordLen_take (l : L8) : l.take (wordLen l) = l.takeWhile isWd := by
  induction l with
  | nil => rfl
  | cons c l ih =>
    rw [wordLen_cons, List.takeWhile_cons]
    split
    · rw [List.take_succ_cons, ih]
    · rfl
/-! ### Blanks and notes -/
def dropLine : L8 → L8
  | [] => []
  | c :: l => if c.toNat = 10 then c :: l else dropLine l
theorem dropLine_le (l : L8) : (dropLine l).length ≤ l.length := by
  induction l with
  | nil => exact Nat.le_refl _
  | cons c l ih =>
    unfold dropLine
    split
    · exact Nat.le_refl _
    · rw [List.length_cons]; omega
def begins (a b : UInt8) (l : L8) : Bool := match l with | c :: d :: _ => decide (c = a) && decide (d = b) | _ => false
def afterNote : L8 → Option L8
  | [] => none
  | c :: l => if begins 42 47 (c :: l) = true then some l.tail else afterNote l
theorem afterNote_lt (l : L8) : ∀ r, afterNote l = some r → r.length < l.length := by
  induction l with
  | nil => intro r h; cases h
  | cons c l ih =>
    intro r h
    unfold afterNote at h
    split at h
    · injection h with h
      subst h
      simp only [List.length_cons, List.length_tail]
      omega
    · have := ih r h
      rw [List.length_cons]
      omega
inductive Sk where
  | ok (r : L8)
  | bad (r : L8)
def skipF : Nat → L8 → Sk
  | 0, l => .ok l
  | _ + 1, [] => .ok []
  | k + 1, c :: t =>
    if isBl c = true then skipF k t
    else if begins 47 47 (c :: t) = true then skipF k (dropLine t.tail)
    else if begins 47 42 (c :: t) = true then (match afterNote t.tail with | some r => skipF k r | none => .bad (c :: t))
    else .ok (c :: t)
def skip (l : L8) : Sk := skipF l.length l
theorem skipF_more (k : Nat) : ∀ (l : L8), l.length ≤ k → skipF k l = skip l := by
  unfold skip
  have key : ∀ (k : Nat) (l : L8) (m : Nat), l.length ≤ k → l.length ≤ m → skipF k l = skipF m l := by
    intro k
    induction k with
    | zero =>
      intro l m h1 h2
      obtain rfl := List.eq_nil_of_length_eq_zero (Nat.le_zero.1 h1)
      cases m <;> rfl
    | succ k ih =>
      intro l m h1 h2
      cases l with
      | nil => cases m <;> rfl
      | cons c t =>
        cases m with
        | zero => simp at h2
        | succ m =>
          simp only [List.length_cons] at h1 h2
          unfold skipF
          rw [ih t m (by omega) (by omega)]
          have hd := dropLine_le t.tail
          rw [List.length_tail] at hd
          rw [ih (dropLine t.tail) m (by omega) (by omega)]
          cases ha : afterNote t.tail with
          | none => rfl
          | some r =>
            have := afterNote_lt _ _ ha
            rw [List.length_tail] at this
            simp only []
            rw [ih r m (by omega) (by omega)]
  intro l h
  exact key k l l.length h (Nat.le_refl _)
theorem skip_nil : skip [] = .ok [] := rfl
theorem skip_cons (c : UInt8) (t : L8) : skip (c :: t) = if isBl c = true then skip t
    else if begins 47 47 (c :: t) = true then skip (dropLine t.tail)
    else if begins 47 42 (c :: t) = true then (match afterNote t.tail with | some r => skip r | none => .bad (c :: t))
    else .ok (c :: t) := by
  show skipF (t.length + 1) (c :: t) = _
  unfold skipF
  have hd := dropLine_le t.tail
  rw [List.length_tail] at hd
  rw [skipF_more _ t (Nat.le_refl _), skipF_more _ (dropLine t.tail) (by omega)]
  cases ha : afterNote t.tail with
  | none => rfl
  | some r =>
    have := afterNote_lt _ _ ha
    rw [List.length_tail] at this
    simp only []
    rw [skipF_more _ r (by omega)]
/-! ### Numbers, words, signs -/
def worthS (c : UInt8) : Nat := if isDig c = true then c.toNat - 48 else if 97 ≤ c.toNat ∧ c.toNat ≤ 102 then c.toNat - 87 else if 65 ≤ c.toNat ∧ c.toNat ≤ 70 then c.toNat - 55 else 16
def valS (base : Nat) (n : Nat) (l : L8) : Nat := l.foldl (fun n c => n * base + worthS c) n
def hexS (l : L8) : Bool := begins 48 120 l
def digsS (l : L8) : L8 := (l.takeWhile isWd).drop (if hexS l = true then 2 else 0)
/-- Value, length, error. -/
def numS (l : L8) : Nat × Nat × Nat :=
  if (digsS l).any (fun c => decide ((if hexS l = true then 16 else 10) ≤ worthS c)) = true then (0, 0, 2)
  else if wordLen l = (if hexS l = true then 2 else 0) ∨ (hexS l = true ∧ 18 < wordLen l) ∨ (hexS l = false ∧ 1 < wordLen l ∧ l.head? = some 48) then (0, 0, 2)
  else if 9223372036854775807 < valS (if hexS l = true then 16 else 10) 0 (digsS l) then (0, 0, 5)
  else (valS (if hexS l = true then 16 else 10) 0 (digsS l), wordLen l, 0)
def wordsL : List L8 := [[99, 104, 97, 114], [105, 110, 116], [108, 111, 110, 103], [118, 111, 105, 100], [115, 116, 114, 117, 99, 116], [117, 110, 105, 111, 110], [105, 102], [101, 108, 115, 101], [119, 104, 105, 108, 101], [114, 101, 116, 117, 114, 110], [98, 114, 101, 97, 107], [99, 111, 110, 116, 105, 110, 117, 101], [115, 105, 122, 101, 111, 102]]
def isWordS (l : L8) : Bool := decide (l ∈ wordsL)
def signsL : List L8 := [[45, 62], [61, 61], [33, 61], [60, 61], [62, 61], [60, 60], [62, 62], [40], [41], [91], [93], [123], [125], [59], [44], [46], [43], [45], [42], [47], [37], [38], [124], [94], [33], [126], [60], [62], [61]]
def signS (l : L8) : Option L8 := signsL.find? (fun x => x.isPrefixOf l)
/-- A character's byte, if it may be one. -/
def charS (l : L8) : Option UInt8 := match l with
  | _ :: d :: e :: _ => if e.toNat = 39 ∧ 32 ≤ d.toNat ∧ d.toNat ≤ 126 ∧ d.toNat ≠ 39 ∧ d.toNat ≠ 92 then some d else none
  | _ => none
structure Tk where
  kind : Nat
  text : L8
  n : Nat
  err : Nat
def tokS (l : L8) : Tk :=
  match l with
  | [] => ⟨0, [], 0, 2⟩
  | c :: _ =>
    if isLet c = true then (if 24 < wordLen l then ⟨0, [], 0, 5⟩ else ⟨if isWordS (l.take (wordLen l)) = true then 2 else 1, l.take (wordLen l), 0, 0⟩)
    else if isDig c = true then ⟨3, l.take (numS l).2.1, (numS l).1, (numS l).2.2⟩
    else if c.toNat = 39 then (match charS l with | some d => ⟨3, l.take 3, d.toNat, 0⟩ | none => ⟨0, [], 0, 2⟩)
    else match signS l with | some x => ⟨4, x, 0, 0⟩ | none => ⟨0, [], 0, 2⟩
/-- A token and how many bytes are left where it begins. -/
structure At where
  tk : Tk
  left : Nat
def toksF : Nat → L8 → List At × Option (Nat × Nat)
  | 0, _ => ([], none)
  | k + 1, l => match skip l with
    | .bad r => ([], some (r.length, 2))
    | .ok [] => ([], none)
    | .ok (c :: t) => if (tokS (c :: t)).err = 0 then
        ((⟨tokS (c :: t), t.length + 1⟩ : At) :: (toksF k ((c :: t).drop (tokS (c :: t)).text.length)).1, (toksF k ((c :: t).drop (tokS (c :: t)).text.length)).2)
      else ([], some (t.length + 1, (tokS (c :: t)).err))
end Go.Proofs.Ytikfgdkplgfiiaa.G
