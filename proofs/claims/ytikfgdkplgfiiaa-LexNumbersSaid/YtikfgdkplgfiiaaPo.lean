/- The law LexNumbers, plain: the digits of a number, decimal or not, are read as it. Plain Lean, no program. -/
import Derived.Test.YtikfgdkplgfiiaaPm
namespace Go.Proofs.Ytikfgdkplgfiiaa.G
open Go.RowKit Go.Proofs.Ytikfgdkplgfiiaa.B Go.Proofs.YtikfgdkplgfiiaaW.PrintWords Go.Proofs.YtikfgdkplgfiiaaW.PrintLast Go.Proofs.YtikfgdkplgfiiaaW.PrintMore

def figL : L8 := [48, 49, 50, 51, 52, 53, 54, 55, 56, 57, 97, 98, 99, 100, 101, 102]
def fig (r : Nat) : UInt8 := figL.getD r 48
theorem fig_all : ∀ r : Fin 16, worthS (fig r.val) = r.val ∧ isWd (fig r.val) = true ∧ (r.val < 10 → isDig (fig r.val) = true) ∧ (r.val ≠ 0 → fig r.val ≠ 48) := by decide
theorem fig_at {r : Nat} (h : r < 16) : worthS (fig r) = r ∧ isWd (fig r) = true ∧ (r < 10 → isDig (fig r) = true) ∧ (r ≠ 0 → fig r ≠ 48) := fig_all ⟨r, h⟩
def digF (b : Nat) : Nat → Nat → L8
  | 0, _ => []
  | k + 1, n => if n < b then [fig n] else digF b k (n / b) ++ [fig (n % b)]
def digs (b n : Nat) : L8 := digF b (n + 1) n
theorem digF_more {b : Nat} (hb : 2 ≤ b) : ∀ (k m n : Nat), n < k → n < m → digF b k n = digF b m n := by
  intro k
  induction k with
  | zero => intro m n h; omega
  | succ k ih =>
    intro m n h1 h2
    cases m with
    | zero => omega
    | succ m =>
      unfold digF
      by_cases h : n < b
      · rw [if_pos h, if_pos h]
      · have hlt : n / b < n := Nat.div_lt_self (by omega) (by omega)
        rw [if_neg h, if_neg h, ih m (n / b) (by omega) (by omega)]
theorem digs_step {b : Nat} (hb : 2 ≤ b) (n : Nat) : digs b n = if n < b then [fig n] else digs b (n / b) ++ [fig (n % b)] := by
  unfold digs
  rw [digF]
  by_cases h : n < b
  · rw [if_pos h, if_pos h]
  · have hlt : n / b < n := Nat.div_lt_self (by omega) (by omega)
    rw [if_neg h, if_neg h, digF_more hb n (n / b + 1) (n / b) hlt (Nat.lt_succ_self _)]
theorem digs_ind {b : Nat} (hb : 2 ≤ b) {p : Nat → Prop} (h0 : ∀ n, n < b → p n) (h1 : ∀ n, b ≤ n → p (n / b) → p n) (n : Nat) : p n := by
  induction n using Nat.strongRecOn with
  | _ n ih =>
    by_cases h : n < b
    · exact h0 n h
    · exact h1 n (by omega) (ih _ (Nat.div_lt_self (by omega) (by omega)))
theorem digs_all {b : Nat} (hb : 2 ≤ b) (n : Nat) : ∀ c ∈ digs b n, ∃ r, r < b ∧ c = fig r := by
  refine digs_ind hb (p := fun n => ∀ c ∈ digs b n, ∃ r, r < b ∧ c = fig r) ?_ ?_ n
  · intro n h c hc
    rw [digs_step hb, if_pos h] at hc
    exact ⟨n, h, List.mem_singleton.1 hc⟩
  · intro n h ih c hc
    rw [digs_step hb, if_neg (by omega)] at hc
    rcases List.mem_append.1 hc with hc | hc
    · exact ih c hc
    · exact ⟨n % b, Nat.mod_lt _ (by omega), List.mem_singleton.1 hc⟩
theorem digs_ne {b : Nat} (hb : 2 ≤ b) (n : Nat) : digs b n ≠ [] := by
  rw [digs_step hb]
  split <;> simp
theorem digs_len {b : Nat} (hb : 2 ≤ b) : ∀ (k n : Nat), n < b ^ (k + 1) → (digs b n).length ≤ k + 1 := by
  intro k
  induction k with
  | zero =>
    intro n h
    rw [Nat.zero_add, Nat.pow_one] at h
    rw [digs_step hb, if_pos h]
    simp
  | succ k ih =>
    intro n h
    rw [digs_step hb]
    split
    · simp
    · rw [List.length_append, List.length_singleton]
      have : n / b < b ^ (k + 1) := Nat.div_lt_of_lt_mul (by rw [Nat.mul_comm, ← Nat.pow_succ]; exact h)
      have := ih _ this
      omega
theorem digs_val {b : Nat} (hb : 2 ≤ b) (h16 : b ≤ 16) (n : Nat) : valS b 0 (digs b n) = n := by
  refine digs_ind hb (p := fun n => valS b 0 (digs b n) = n) ?_ ?_ n
  · intro n h
    rw [digs_step hb, if_pos h]
    simp [valS, (fig_at (show n < 16 by omega)).1]
  · intro n h ih
    have hr : n % b < b := Nat.mod_lt _ (by omega)
    rw [digs_step hb, if_neg (by omega)]
    unfold valS at ih ⊢
    rw [List.foldl_append, ih]
    simp only [List.foldl_cons, List.foldl_nil]
    rw [(fig_at (show n % b < 16 by omega)).1, Nat.mul_comm]
    exact Nat.div_add_mod n b
theorem digs_head {b : Nat} (hb : 2 ≤ b) (h16 : b ≤ 16) (n : Nat) : n ≠ 0 → (digs b n).head? ≠ some 48 := by
  refine digs_ind hb (p := fun n => n ≠ 0 → (digs b n).head? ≠ some 48) ?_ ?_ n
  · intro n h h0
    rw [digs_step hb, if_pos h]
    intro h2
    injection h2 with h2
    exact (fig_at (show n < 16 by omega)).2.2.2 h0 h2
  · intro n h ih _
    rw [digs_step hb, if_neg (by omega)]
    have := ih (Nat.ne_of_gt (Nat.div_pos h (by omega)))
    cases hd : digs b (n / b) with
    | nil => exact absurd hd (digs_ne hb _)
    | cons c t => rw [hd] at this; exact this
theorem word_all {l : L8} (h : ∀ c ∈ l, isWd c = true) : l.takeWhile isWd = l := by
  induction l with
  | nil => rfl
  | cons c l ih => rw [List.takeWhile_cons, h c (List.mem_cons_self ..), ih (fun d hd => h d (List.mem_cons_of_mem _ hd))]; rfl
theorem wordLen_all {l : L8} (h : ∀ c ∈ l, isWd c = true) : wordLen l = l.length := by unfold wordLen; rw [word_all h]
theorem digs_wd {b : Nat} (hb : 2 ≤ b) (h16 : b ≤ 16) (n : Nat) : ∀ c ∈ digs b n, isWd c = true := by
  intro c hc
  obtain ⟨r, hr, rfl⟩ := digs_all hb n c hc
  exact (fig_at (by omega)).2.1
theorem digs_dig (n : Nat) : ∀ c ∈ digs 10 n, isDig c = true := by
  intro c hc
  obtain ⟨r, hr, rfl⟩ := digs_all (by omega) n c hc
  exact (fig_at (by omega)).2.2.1 hr
theorem digs_worth {b : Nat} (hb : 2 ≤ b) (h16 : b ≤ 16) (n : Nat) : (digs b n).any (fun c => decide (b ≤ worthS c)) = false := by
  rw [List.any_eq_false]
  intro c hc
  obtain ⟨r, hr, rfl⟩ := digs_all hb n c hc
  rw [(fig_at (show r < 16 by omega)).1]
  simp; omega
theorem dig_no_x {c : UInt8} (h : isDig c = true) : c ≠ 120 ∧ isLet c = false ∧ isBl c = false ∧ c ≠ 47 := by
  have h1 := (isDig_iff c).1 h
  refine ⟨fun e => ?_, ?_, ?_, fun e => ?_⟩
  · subst e; simp at h1
  · rw [Bool.eq_false_iff]; intro h2; rw [isLet_iff] at h2; omega
  · rw [Bool.eq_false_iff]; intro h2; rw [isBl_iff] at h2; omega
  · subst e; simp at h1
/-- A text that begins with a digit and is read as a number: one token. -/
theorem num_tok {l : L8} {n : Nat} (hc : ∃ c t, l = c :: t ∧ isDig c = true) (h : numS l = (n, l.length, 0)) : IsTok ⟨3, l, n, 0⟩ := by
  obtain ⟨c, t, rfl, hd⟩ := hc
  obtain ⟨_, hl, hb, h47⟩ := dig_no_x hd
  refine ⟨?_, rfl, ?_, by simp⟩
  · show tokS (c :: t) = _
    rw [tokS_cons, if_neg (by rw [hl]; simp), if_pos hd, h]
    simp only []
    rw [List.take_length]
  · show skip (c :: t) = .ok (c :: t)
    have b1 : begins 47 47 (c :: t) = false := by unfold begins; split <;> simp_all
    have b2 : begins 47 42 (c :: t) = false := by unfold begins; split <;> simp_all
    rw [skip_cons, if_neg (by rw [hb]; simp), b1, b2]
    simp
theorem dec_tok (n : Nat) (hn : n ≤ 9223372036854775807) : IsTok ⟨3, digs 10 n, n, 0⟩ := by
  have hw := digs_wd (b := 10) (by omega) (by omega) n
  have hd := digs_dig n
  have hne := digs_ne (b := 10) (by omega) n
  have hx : hexS (digs 10 n) = false := by
    cases hl : digs 10 n with
    | nil => exact absurd hl hne
    | cons c t =>
      cases t with
      | nil => rfl
      | cons d t =>
        have := (dig_no_x (hd d (by rw [hl]; simp))).1
        unfold hexS begins
        simp [this]
  have hds : digsS (digs 10 n) = digs 10 n := by
    unfold digsS
    rw [word_all hw, hx]
    rfl
  refine num_tok ?_ ?_
  · cases hl : digs 10 n with
    | nil => exact absurd hl hne
    | cons c t => exact ⟨c, t, rfl, hd c (by rw [hl]; simp)⟩
  · rw [numS_eq, hds, hx, wordLen_all hw, show baseS false = 10 from rfl, show fromS false = 0 from rfl, digs_worth (by omega) (by omega), digs_val (by omega) (by omega), if_neg (by simp), if_neg, if_neg (by omega)]
    rintro (h | ⟨h, _⟩ | ⟨_, h, h2⟩)
    · exact hne (List.eq_nil_of_length_eq_zero h)
    · simp at h
    · by_cases h0 : n = 0
      · subst h0
        simp [digs, digF] at h
      · exact digs_head (by omega) (by omega) n h0 h2
theorem hex_tok (n : Nat) (hn : n ≤ 9223372036854775807) : IsTok ⟨3, 48 :: 120 :: digs 16 n, n, 0⟩ := by
  have hw := digs_wd (b := 16) (by omega) (by omega) n
  have hne := digs_ne (b := 16) (by omega) n
  have hlen := digs_len (b := 16) (by omega) 15 n (Nat.lt_of_le_of_lt hn (by decide))
  have hw2 : ∀ c ∈ (48 :: 120 :: digs 16 n : L8), isWd c = true := by
    intro c hc
    rcases List.mem_cons.1 hc with rfl | hc
    · decide
    · rcases List.mem_cons.1 hc with rfl | hc
      · decide
      · exact hw c hc
  have hx : hexS (48 :: 120 :: digs 16 n) = true := by simp [hexS, begins]
  have hds : digsS (48 :: 120 :: digs 16 n) = digs 16 n := by
    unfold digsS
    rw [word_all hw2, hx]
    rfl
  refine num_tok ⟨48, 120 :: digs 16 n, rfl, by decide⟩ ?_
  rw [numS_eq, hds, hx, wordLen_all hw2, show baseS true = 16 from rfl, show fromS true = 2 from rfl, digs_worth (by omega) (by omega), digs_val (by omega) (by omega), if_neg (by simp), if_neg, if_neg (by omega)]
  have hp := List.length_pos_iff.2 hne
  rintro (h | ⟨_, h⟩ | ⟨h, _⟩)
  · simp only [List.length_cons] at h; omega
  · simp only [List.length_cons] at h; omega
  · simp at h
/-- The two numbers' text. -/
theorem numbers_plain (n : Nat) (hn : n ≤ 9223372036854775807) : ∃ a b : Int, lexS (digs 10 n ++ [32, 48, 120] ++ digs 16 n) = ([⟨3, a, toB (digs 10 n), (n : Int)⟩, ⟨3, b, toB (48 :: 120 :: digs 16 n), (n : Int)⟩], 0, 0) := by
  have h1 := dec_tok n hn
  have h2 := hex_tok n hn
  have l1 := digs_len (b := 10) (by omega) 18 n (Nat.lt_of_le_of_lt hn (by decide))
  have l2 := digs_len (b := 16) (by omega) 15 n (Nat.lt_of_le_of_lt hn (by decide))
  have e : digs 10 n ++ [32, 48, 120] ++ digs 16 n = digs 10 n ++ 32 :: (48 :: 120 :: digs 16 n) := by simp
  have ht := toks_sep h1 (48 :: 120 :: digs 16 n)
  have h3 := toks_alone h2
  simp only [] at ht h3
  rw [h3] at ht
  rw [e, lexS_ok (by simp only [List.length_append, List.length_cons]; omega) (by rw [ht]), ht]
  exact ⟨_, _, rfl⟩
/-- The digits ahead of what was written: one round. -/
def dgS (b k : Nat) (s : L8) : L8 := if k = 0 ∧ s ≠ [] then s else digs b k ++ s
theorem dgS_step {b k : Nat} {s : L8} (hb : 2 ≤ b) (h : k ≠ 0 ∨ s = []) : dgS b (k / b) (fig (k % b) :: s) = dgS b k s := by
  have e2 : dgS b k s = digs b k ++ s := by
    unfold dgS
    rw [if_neg]
    rintro ⟨h1, h2⟩
    rcases h with h | h
    · exact h h1
    · exact h2 h
  rw [e2, digs_step hb k]
  unfold dgS
  by_cases hk : k < b
  · rw [if_pos hk, Nat.div_eq_of_lt hk, Nat.mod_eq_of_lt hk, if_pos ⟨rfl, by simp⟩]
    rfl
  · rw [if_neg hk, if_neg (by
      rintro ⟨h1, _⟩
      have := Nat.div_pos (show b ≤ k by omega) (by omega)
      omega)]
    simp
theorem dgS_end {b : Nat} {s : L8} (h : s ≠ []) : dgS b 0 s = s := if_pos ⟨rfl, h⟩
theorem dgS_start (b k : Nat) : dgS b k [] = digs b k := by
  unfold dgS
  rw [if_neg (by simp), List.append_nil]
end Go.Proofs.Ytikfgdkplgfiiaa.G
