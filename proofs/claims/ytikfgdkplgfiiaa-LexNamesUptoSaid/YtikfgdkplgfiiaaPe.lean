/- The reference's numbers and tokens are the plain ones. Plain Lean, no program. -/
import Derived.Test.YtikfgdkplgfiiaaPd
namespace Go.Proofs.Ytikfgdkplgfiiaa.G
open Go.RowKit Go.Proofs.Ytikfgdkplgfiiaa.B Go.Proofs.YtikfgdkplgfiiaaW.PrintWords Go.Proofs.YtikfgdkplgfiiaaW.PrintLast Go.Proofs.YtikfgdkplgfiiaaW.PrintMore

theorem valS_cons (base n : Nat) (c : UInt8) (t : L8) : valS base n (c :: t) = valS base (n * base + worthS c) t := rfl
theorem valS_ge {base : Nat} (hb : 1 ≤ base) (l : L8) : ∀ n, n ≤ valS base n l := by
  induction l with
  | nil => intro n; exact Nat.le_refl _
  | cons c t ih =>
    intro n
    have h1 := ih (n * base + worthS c)
    have h2 : n * 1 ≤ n * base := Nat.mul_le_mul_left n hb
    rw [valS_cons]
    omega
theorem uw {x : Int} (h0 : 0 ≤ x) (h1 : x ≤ 9223372036854775807) : IntKind.u64.wrap x = x := by rw [IntKind.wrap_u64]; omega
/-- The next number is past the limit. -/
theorem over_iff (n d base : Nat) (hb : 1 ≤ base) (hd : d ≤ 16) : ((n : Int) > IntKind.u64.wrap ((9223372036854775807 - (d : Int)) / (base : Int))) ↔ 9223372036854775807 < n * base + d := by
  have e : (9223372036854775807 - (d : Int)) / (base : Int) = (((9223372036854775807 - d) / base : Nat) : Int) := by
    rw [Int.natCast_ediv]
    congr 1
    omega
  have hle : (9223372036854775807 - d) / base ≤ 9223372036854775807 - d := Nat.div_le_self _ _
  have h1 : (9223372036854775807 - d) / base < n ↔ 9223372036854775807 - d < n * base := Nat.div_lt_iff_lt_mul hb
  rw [e]
  generalize (9223372036854775807 - d) / base = q at hle h1 ⊢
  rw [uw (by omega) (by omega)]
  constructor
  · intro h
    have := h1.1 (by omega)
    omega
  · intro h
    have := h1.2 (by omega)
    omega
theorem worth_cases {c : UInt8} (h : worthS c < 16) :
    (97 ≤ c.toNat → ((c.toNat : Int) - 97) % 256 + 10 = (worthS c : Int)) ∧ (c.toNat < 97 → 65 ≤ c.toNat → ((c.toNat : Int) - 65) % 256 + 10 = (worthS c : Int)) ∧ (c.toNat < 65 → ((c.toNat : Int) - 48) % 256 = (worthS c : Int)) := by
  have key : ∀ n : Nat, n < 256 → worN n < 16 → (97 ≤ n → ((n : Int) - 97) % 256 + 10 = (worN n : Int)) ∧ (n < 97 → 65 ≤ n → ((n : Int) - 65) % 256 + 10 = (worN n : Int)) ∧ (n < 65 → ((n : Int) - 48) % 256 = (worN n : Int)) := by decide +kernel
  exact key c.toNat c.toNat_lt h
theorem value_l0 (s : ByteArray) (base : Nat) (hs : s.size ≤ 1000000000) (hb : 1 ≤ base) (hb2 : base ≤ 16) : ∀ (k i n : Nat), i ≤ s.size → s.size - i < k → n ≤ 9223372036854775807 → (∀ c ∈ s.toList.drop i, worthS c < 16) →
    crosstreeref01_value.l0 k s (base : Int) (n : Int) (i : Int) = some (if 9223372036854775807 < valS base n (s.toList.drop i) then (0, false) else ((valS base n (s.toList.drop i) : Int), true)) := by
  intro k
  induction k with
  | zero => intro i n h1 h2; omega
  | succ k ih =>
    intro i n h1 h2 h3 hw
    unfold crosstreeref01_value.l0
    by_cases hlt : i < s.size
    · obtain ⟨c, t, e1, e2⟩ := drop_cons hlt
      have hbt := (bt_drop e1).1
      have hwc := hw c (by rw [e1]; exact List.mem_cons_self ..)
      obtain ⟨w1, w2, w3⟩ := worth_cases hwc
      have hd := worth_le c
      have hb0 : ¬ ((base : Int) = 0) := by omega
      rw [if_pos (by omega), if_pos (by omega), hbt, e1, valS_cons, w64 (x := (i : Int) + 1) (by omega) (by omega), show (i : Int) + 1 = ((i + 1 : Nat) : Int) by omega]
      have hrest : ∀ (d : Int), d = (worthS c : Int) → (if (n : Int) > IntKind.u64.wrap ((9223372036854775807 - d) / (base : Int)) then some ((0 : Int), false) else crosstreeref01_value.l0 k s (base : Int) (IntKind.u64.wrap (IntKind.u64.wrap ((n : Int) * (base : Int)) + d)) ((i + 1 : Nat) : Int)) =
          some (if 9223372036854775807 < valS base (n * base + worthS c) t then (0, false) else ((valS base (n * base + worthS c) t : Int), true)) := by
        intro d hd1
        subst hd1
        by_cases ho : 9223372036854775807 < n * base + worthS c
        · rw [if_pos ((over_iff n _ base hb hd).2 ho), if_pos (Nat.lt_of_lt_of_le ho (valS_ge hb t _))]
        · rw [if_neg (fun h => ho ((over_iff n _ base hb hd).1 h))]
          have hm : ((n * base : Nat) : Int) = (n : Int) * (base : Int) := Int.natCast_mul _ _
          rw [← hm, uw (x := ((n * base : Nat) : Int)) (by omega) (by omega), show ((n * base : Nat) : Int) + (worthS c : Int) = ((n * base + worthS c : Nat) : Int) by omega, uw (by omega) (by omega)]
          rw [ih (i + 1) (n * base + worthS c) (by omega) (by omega) (by omega) (fun c' hc' => hw c' (by rw [e1, ← e2]; exact List.mem_cons_of_mem _ hc')), e2]
      by_cases c97 : 97 ≤ c.toNat
      · rw [if_pos (by omega), if_neg hb0]
        exact hrest _ (w1 c97)
      · rw [if_neg (by omega)]
        by_cases c65 : 65 ≤ c.toNat
        · rw [if_pos (by omega), if_neg hb0]
          exact hrest _ (w2 (by omega) c65)
        · rw [if_neg (by omega), if_neg hb0]
          exact hrest _ (w3 (by omega))
    · have hd : s.toList.drop i = [] := by rw [List.drop_eq_nil_iff, tl_len]; omega
      rw [if_neg (by omega), hd]
      show some (wrap64 (n : Int), true) = some (if 9223372036854775807 < n then _ else ((n : Int), true))
      rw [if_neg (by omega)]
      congr 2
      unfold wrap64
      omega
/-! ### number -/
def baseS (h : Bool) : Nat := if h = true then 16 else 10
def fromS (h : Bool) : Nat := if h = true then 2 else 0
theorem numS_eq (l : L8) : numS l = if (digsS l).any (fun c => decide (baseS (hexS l) ≤ worthS c)) = true then (0, 0, 2)
  else if wordLen l = fromS (hexS l) ∨ (hexS l = true ∧ 18 < wordLen l) ∨ (hexS l = false ∧ 1 < wordLen l ∧ l.head? = some 48) then (0, 0, 2)
  else if 9223372036854775807 < valS (baseS (hexS l)) 0 (digsS l) then (0, 0, 5)
  else (valS (baseS (hexS l)) 0 (digsS l), wordLen l, 0) := rfl
theorem digs_take (l : L8) : digsS l = (l.take (wordLen l)).drop (fromS (hexS l)) := by rw [wordLen_take]; rfl
theorem hex_begin {l : L8} (h : hexS l = true) : ∃ t, l = 48 :: 120 :: t ∧ 2 ≤ wordLen l := by
  obtain ⟨t, rfl⟩ := begins_two h
  refine ⟨t, rfl, ?_⟩
  rw [wordLen_cons, if_pos (by decide), wordLen_cons, if_pos (by decide)]
  omega
theorem from_le (l : L8) : fromS (hexS l) ≤ wordLen l := by
  unfold fromS
  split
  · rename_i h
    obtain ⟨_, _, h⟩ := hex_begin h
    exact h
  · exact Nat.zero_le _
def numI (r : Nat × Nat × Nat) : Int × Int × Int := ((r.2.1 : Int), (r.1 : Int), (r.2.2 : Int))
theorem number_j3 (s : ByteArray) (hs : s.size ≤ 1000000000) (h : Bool) (k : Nat) (hk : s.size + 2 < k) (all fr : Nat) (hf : fr ≤ all) (ha : all ≤ s.size) (b : Bool) (hw : b = false → ∀ c ∈ (s.toList.take all).drop fr, worthS c < 16) :
    crosstreeref01_number.j3 k s (all : Int) (baseS h : Int) (fr : Int) b = some (numI (if b = true then (0, 0, 2) else if 9223372036854775807 < valS (baseS h) 0 ((s.toList.take all).drop fr) then (0, 0, 5) else (valS (baseS h) 0 ((s.toList.take all).drop fr), all, 0))) := by
  obtain ⟨k, rfl⟩ : ∃ q, k = q + 1 := ⟨k - 1, by omega⟩
  rw [crosstreeref01_number.j3]
  cases b with
  | true => rw [if_pos rfl, if_pos rfl]; rfl
  | false =>
    rw [if_neg (by simp), if_pos (by omega), if_pos (by omega), if_pos (by omega), Int.toNat_natCast, Int.toNat_natCast]
    unfold crosstreeref01_value.f
    have hsz : (s.extract fr all).size ≤ s.size := by rw [← tl_len, tl_extract, List.length_drop, List.length_take, tl_len]; omega
    have hb : 1 ≤ baseS h ∧ baseS h ≤ 16 := by unfold baseS; split <;> omega
    have := value_l0 (s.extract fr all) (baseS h) (by omega) hb.1 hb.2 k 0 0 (Nat.zero_le _) (by omega) (by omega) (by rw [List.drop_zero, tl_extract]; exact hw rfl)
    rw [List.drop_zero, tl_extract] at this
    rw [show (0 : Int) = ((0 : Nat) : Int) from rfl, this, Option.bind_some]
    split
    · rfl
    · rfl
theorem number_l0 (s : ByteArray) (hs : s.size ≤ 1000000000) (h : Bool) (all : Nat) (hf : fromS h ≤ all) (ha : all ≤ s.size) : ∀ (k i : Nat), fromS h ≤ i → i ≤ all → (all - i) + s.size + 4 < k → ((s.toList.take i).drop (fromS h)).any (fun c => decide (baseS h ≤ worthS c)) = false →
    crosstreeref01_number.l0 k s (all : Int) (baseS h : Int) (fromS h : Int) (i : Int) = some (numI (if ((s.toList.take all).drop (fromS h)).any (fun c => decide (baseS h ≤ worthS c)) = true then (0, 0, 2)
      else if all = fromS h ∨ (h = true ∧ 18 < all) ∨ (h = false ∧ 1 < all ∧ s.toList.head? = some 48) then (0, 0, 2)
      else if 9223372036854775807 < valS (baseS h) 0 ((s.toList.take all).drop (fromS h)) then (0, 0, 5)
      else (valS (baseS h) 0 ((s.toList.take all).drop (fromS h)), all, 0))) := by
  intro k
  induction k with
  | zero => intro i h1 h2; omega
  | succ k ih =>
    intro i h1 h2 h3 hall
    rw [crosstreeref01_number.l0]
    by_cases hlt : i < all
    · obtain ⟨c, t, e1, e2⟩ := drop_cons (s := s) (i := i) (by omega)
      have hbt := (bt_drop e1).1
      have hget : s.toList[i]? = some c := by
        have := congrArg (fun l : L8 => l[0]?) e1
        simpa using this
      have hnext : ((s.toList.take (i + 1)).drop (fromS h)).any (fun c => decide (baseS h ≤ worthS c)) = decide (baseS h ≤ worthS c) := by
        rw [List.take_add_one, hget, List.drop_append_of_le_length (by rw [List.length_take, tl_len]; omega), List.any_append, hall]
        simp
      have hbad : baseS h ≤ worthS c → ((s.toList.take all).drop (fromS h)).any (fun c => decide (baseS h ≤ worthS c)) = true := fun hb => by
        rw [List.any_eq_true]
        refine ⟨c, ?_, by simpa using hb⟩
        rw [List.mem_iff_getElem?]
        refine ⟨i - fromS h, ?_⟩
        rw [List.getElem?_drop, List.getElem?_take, if_pos (by omega), show fromS h + (i - fromS h) = i by omega, hget]
      have hgo : ¬ baseS h ≤ worthS c → crosstreeref01_number.l0 k s (all : Int) (baseS h : Int) (fromS h : Int) ((i + 1 : Nat) : Int) = _ := fun hb => ih (i + 1) (by omega) (by omega) (by omega) (by rw [hnext]; simpa using hb)
      rw [if_pos (by omega), w64 (x := (i : Int) + 1) (by omega) (by omega), show (i : Int) + 1 = ((i + 1 : Nat) : Int) by omega, hbt]
      cases h with
      | true =>
        rw [if_neg (by decide), if_pos (by decide), if_pos (by omega), if_pos (by omega), hex_f, Option.bind_some]
        by_cases hb : worthS c < 16
        · rw [if_pos (decide_eq_true hb), hgo (by show ¬ 16 ≤ worthS c; omega)]
        · rw [if_neg (by simpa using hb), if_pos (hbad (by show 16 ≤ worthS c; omega))]
          rfl
      | false =>
        rw [if_pos (by decide), if_pos (by omega), if_pos (by omega), digit_f, dig_worth, Option.bind_some]
        by_cases hb : worthS c < 10
        · rw [if_pos (decide_eq_true hb), if_neg (by decide), hgo (by show ¬ 10 ≤ worthS c; omega)]
        · rw [if_neg (by simpa using hb), if_pos (hbad (by show 10 ≤ worthS c; omega))]
          rfl
    · have hi : i = all := by omega
      subst hi
      have hw : ∀ c ∈ (s.toList.take i).drop (fromS h), worthS c < 16 := fun c hc => by
        have := List.any_eq_false.1 hall c hc
        have hb : baseS h ≤ 16 := by unfold baseS; split <;> omega
        simp only [decide_eq_true_eq] at this
        omega
      have hj := fun b => number_j3 s hs h k (by omega) i (fromS h) hf ha b (fun _ => hw)
      have hjf := hj false
      have hjt := hj true
      rw [if_neg Bool.false_ne_true] at hjf
      rw [if_pos rfl] at hjt
      rw [if_neg (show ¬ ((i : Int) < (i : Int)) by omega)]
      simp only [hall, Bool.false_eq_true, if_false]
      by_cases c1 : i = fromS h
      · rw [if_pos (by omega), hjt, if_pos (.inl c1)]
      · rw [if_neg (by omega)]
        cases h with
        | true =>
          rw [if_pos (by decide)]
          by_cases c2 : 18 < i
          · rw [if_pos (by omega), hjt, if_pos (.inr (.inl ⟨rfl, c2⟩))]
          · rw [if_neg (by omega), if_neg (by decide), hjf, if_neg (show ¬ (i = fromS true ∨ (true = true ∧ 18 < i) ∨ (true = false ∧ 1 < i ∧ s.toList.head? = some 48)) by (rintro (h | h | h); exact c1 h; exact c2 h.2; exact absurd h.1 (by simp)))]
        | false =>
          rw [if_neg (by decide), if_pos (by decide)]
          by_cases c2 : 1 < i
          · have h0 : 0 < s.size := by omega
            obtain ⟨c, t, e1, e2⟩ := drop_cons (s := s) (i := 0) h0
            have hbt := (bt_drop e1).1
            rw [List.drop_zero] at e1
            rw [if_pos (by omega), if_pos (by omega), show (0 : Int) = ((0 : Nat) : Int) from rfl, hbt]
            have hq : ((c.toNat : Int) == 48) = decide (s.toList.head? = some 48) := by
              rw [e1, List.head?_cons, Bool.eq_iff_iff, beq_iff_eq, decide_eq_true_eq, Option.some.injEq, byte_eq]
              constructor
              · intro h; show c.toNat = 48; omega
              · intro h; have : c.toNat = 48 := h; omega
            rw [hq]
            have hj' := hj (decide (s.toList.head? = some 48))
            rw [hj']
            by_cases c3 : s.toList.head? = some 48
            · rw [if_pos (by simpa using c3), if_pos (.inr (.inr ⟨rfl, c2, c3⟩))]
            · rw [if_neg (show ¬ (decide (s.toList.head? = some 48) = true) by simpa using c3), if_neg (show ¬ (i = fromS false ∨ (false = true ∧ 18 < i) ∨ (false = false ∧ 1 < i ∧ s.toList.head? = some 48)) by (rintro (h | h | h); exact c1 h; exact absurd h.1 (by simp); exact c3 h.2.2))]
          · rw [if_neg (by omega), hjf, if_neg (show ¬ (i = fromS false ∨ (false = true ∧ 18 < i) ∨ (false = false ∧ 1 < i ∧ s.toList.head? = some 48)) by (rintro (h | h | h); exact c1 h; exact absurd h.1 (by simp); exact c2 h.2.1))]
theorem number_f (s : ByteArray) (hs : s.size ≤ 1000000000) (h0 : 0 < s.size) (k : Nat) (hk : 2 * s.size + 10 < k) : crosstreeref01_number.f k s = some (numI (numS s.toList)) := by
  unfold crosstreeref01_number.f
  rw [run_f s hs k (by omega), Option.bind_some]
  have hwl := wordLen_le s.toList
  rw [tl_len] at hwl
  have main : ∀ h : Bool, h = hexS s.toList → ∀ b : Bool, b = h → crosstreeref01_number.j0 k s (wordLen s.toList : Int) 10 0 b = some (numI (numS s.toList)) := by
    intro h hh b hb
    obtain ⟨k, rfl⟩ : ∃ q, k = q + 2 := ⟨k - 2, by omega⟩
    have e : crosstreeref01_number.j0 (k + 2) s (wordLen s.toList : Int) 10 0 b = crosstreeref01_number.j1 (k + 1) s (wordLen s.toList : Int) (baseS h : Int) (fromS h : Int) := by
      rw [crosstreeref01_number.j0, hb]
      cases h <;> rfl
    rw [e, crosstreeref01_number.j1]
    have hf := from_le s.toList
    rw [← hh] at hf
    have := number_l0 s hs h (wordLen s.toList) hf hwl k (fromS h) (Nat.le_refl _) hf (by omega) (by
      have : (s.toList.take (fromS h)).drop (fromS h) = [] := by rw [List.drop_eq_nil_iff, List.length_take]; omega
      rw [this]; rfl)
    rw [this, numS_eq, digs_take, ← hh]
  by_cases h1 : 1 < s.size
  · obtain ⟨c, t, e1, e2⟩ := drop_cons (s := s) (i := 0) h0
    obtain ⟨d, t', e3, e4⟩ := drop_cons (s := s) (i := 1) h1
    have hb0 := (bt_drop e1).1
    have hb1 := (bt_drop e3).1
    rw [List.drop_zero] at e1
    rw [show (0 : Nat) + 1 = 1 from rfl, e3] at e2
    have hx : hexS s.toList = (decide (c.toNat = 48) && decide (d.toNat = 120)) := by
      rw [e1, ← e2]
      show (decide (c = 48) && decide (d = 120)) = _
      congr 1 <;> (rw [decide_eq_decide, byte_eq]; exact Iff.rfl)
    rw [if_pos (by omega), if_pos (by omega), show bt s 0 = (c.toNat : Int) from hb0, show bt s 1 = (d.toNat : Int) from hb1]
    by_cases hc : c.toNat = 48
    · rw [if_pos (by omega), if_pos (by omega)]
      refine main _ rfl _ ?_
      rw [hx, hc]
      rw [Bool.eq_iff_iff]
      simp only [beq_iff_eq, decide_true, Bool.true_and, decide_eq_true_eq]
      omega
    · rw [if_neg (by omega)]
      refine main _ rfl _ ?_
      rw [hx]
      simp [hc]
  · rw [if_neg (by omega)]
    refine main _ rfl _ ?_
    obtain ⟨c, t, e1, e2⟩ := drop_cons (s := s) (i := 0) h0
    rw [List.drop_zero] at e1
    have hl := congrArg List.length e1
    rw [tl_len, List.length_cons] at hl
    have : t = [] := List.eq_nil_of_length_eq_zero (by omega)
    rw [e1, this]
    rfl
end Go.Proofs.Ytikfgdkplgfiiaa.G
