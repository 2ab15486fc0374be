/- lex.blank. Each contract names its state. -/
import Derived.Test.YtikfgdkplgfiiaaPf
import Derived.Test.YtikfgdkplgfiiaaShelf
import Derived.Lib.IndexMore
import Derived.LoopTactic
import Derived.Outline
set_option linter.unusedVariables false
set_option linter.unusedSimpArgs false
namespace Go.Proofs.Ytikfgdkplgfiiaa.G
open Go.RowKit Go.Proofs.Ytikfgdkplgfiiaa.B Go.Proofs.YtikfgdkplgfiiaaW.PrintWords Go.Proofs.YtikfgdkplgfiiaaW.PrintLast Go.Proofs.YtikfgdkplgfiiaaW.PrintMore

/-- The library's own variable holds some number. -/
def Glob (w : World) : Prop := ∃ m : Int, w.cell? ⟨0, 0, none⟩ = some (.int .i64 m)
theorem Glob.below {w W : World} (h : Glob w) (hb : Below w.heap.size w W) : Glob W := by
  obtain ⟨m, hm⟩ := h
  exact ⟨m, (hb.cell (p := ⟨0, 0, none⟩) (World.block_lt_of_cell? _ _ hm)).trans hm⟩
theorem u8_back (c : UInt8) : ((c.toNat : Int)).toNat.toUInt8 = c := by
  rw [Int.toNat_natCast]
  exact UInt8.ofNat_toNat
theorem idx_line (l : L8) : (Lib.indexByte l 10 = -1 ∧ dropLine l = []) ∨ ∃ j : Nat, Lib.indexByte l 10 = (j : Int) ∧ j ≤ l.length ∧ l.drop j = dropLine l := by
  induction l with
  | nil => exact .inl ⟨rfl, rfl⟩
  | cons c l ih =>
    have hc : (c == 10) = decide (c.toNat = 10) := by
      rw [Bool.eq_iff_iff, beq_iff_eq, decide_eq_true_eq, byte_eq]
      exact Iff.rfl
    unfold Lib.indexByte dropLine
    rw [hc]
    by_cases h : c.toNat = 10
    · rw [if_pos (by simpa using h), if_pos h]
      exact .inr ⟨0, rfl, Nat.zero_le _, rfl⟩
    · rw [if_neg (by simpa using h), if_neg h]
      rcases ih with ⟨h1, h2⟩ | ⟨j, h1, h2, h3⟩
      · rw [h1]
        exact .inl ⟨rfl, h2⟩
      · rw [h1, if_neg (by rw [beq_iff_eq]; omega)]
        exact .inr ⟨j + 1, rfl, by rw [List.length_cons]; omega, by rw [List.drop_succ_cons]; exact h3⟩
theorem idx_note (l : L8) : (Lib.index l [42, 47] = -1 ∧ afterNote l = none) ∨ ∃ (j : Nat) (r : L8), Lib.index l [42, 47] = (j : Int) ∧ afterNote l = some r ∧ j + 2 ≤ l.length ∧ l.drop (j + 2) = r := by
  induction l with
  | nil => exact .inl ⟨rfl, rfl⟩
  | cons c l ih =>
    unfold Lib.index afterNote
    rw [begins_prefix]
    by_cases h : begins 42 47 (c :: l) = true
    · rw [if_pos h, if_pos h]
      obtain ⟨t, he⟩ := begins_two h
      injection he with h1 h2
      subst h2
      exact .inr ⟨0, t, rfl, rfl, by simp, rfl⟩
    · rw [if_neg h, if_neg h]
      rcases ih with ⟨h1, h2⟩ | ⟨j, r, h1, h2, h3, h4⟩
      · rw [h1]
        exact .inl ⟨rfl, h2⟩
      · rw [h1, if_neg (by rw [beq_iff_eq]; omega)]
        exact .inr ⟨j + 1, r, rfl, h2, by rw [List.length_cons]; omega, by rw [show j + 1 + 2 = (j + 2) + 1 by omega, List.drop_succ_cons]; exact h4⟩
theorem idx_blank (c : UInt8) : (0 ≤ Lib.indexByte [32, 9, 10, 13] c) ↔ isBl c = true := by
  have key : ∀ n : Nat, n < 256 → ((0 ≤ Lib.indexByte [32, 9, 10, 13] (UInt8.ofNat n)) ↔ isBl (UInt8.ofNat n) = true) := by decide +kernel
  have := key c.toNat c.toNat_lt
  rwa [UInt8.ofNat_toNat] at this
theorem hasPre {s t : ByteArray} {W : World} : Calls Try.prog 33 #[.string s, .string t] W fun e w' => e = .returned (.bool (t.toList.isPrefixOf s.toList)) ∧ Below W.heap.size W w' :=
  (strings_HasPrefix.calls s t _ W (hasPrefix_f s t)).mono fun e w' ⟨he, hd⟩ => ⟨he, hd.below⟩
theorem get_drop {s : ByteArray} {a : Nat} {c : UInt8} {t : L8} (h : s.toList.drop a = c :: t) : ∀ h : a < s.size, s[a]'h = c := by
  intro hlt
  have h1 := (bt_drop h).1
  have h2 := bt_at s (a : Int) (by rw [Int.toNat_natCast]; exact hlt)
  rw [h1] at h2
  apply UInt8.toNat_inj.1
  simp only [Int.toNat_natCast] at h2
  omega
theorem ix_blank (c : UInt8) (W : World) : Calls Try.prog 32 #[.string ⟨#[32, 9, 10, 13]⟩, .int .u8 (c.toNat : Int)] W fun e w' => ∃ r : Int, e = .returned (.int .i64 r) ∧ (0 ≤ r ↔ isBl c = true) ∧ w' = W :=
  (Try.strings_IndexByte ⟨#[32, 9, 10, 13]⟩ (c.toNat : Int) W).mono fun e w' ⟨he, hw⟩ => ⟨_, he, by rw [u8_back]; exact idx_blank c, hw⟩
theorem ix_line {s : ByteArray} {l : L8} (W : World) (h : s.toList = l) : Calls Try.prog 32 #[.string s, .int .u8 10] W fun e w' => e = .returned (.int .i64 (Lib.indexByte l 10)) ∧ w' = W :=
  (Try.strings_IndexByte s 10 W).mono fun e w' ⟨he, hw⟩ => ⟨by rw [he, ← bytes_toList, h]; rfl, hw⟩
theorem ix_note {s : ByteArray} {l : L8} {W : World} (h : s.toList = l) (hs : s.size ≤ 20000) (hg : Glob W) : Calls Try.prog 34 #[.string s, .string ⟨#[42, 47]⟩] W fun e w' => e = .returned (.int .i64 (Lib.index l [42, 47])) ∧ w' = W := by
  obtain ⟨m, hm⟩ := hg
  exact (Try.strings_Index s ⟨#[42, 47]⟩ m W (by omega) hm).mono fun e w' ⟨he, hw⟩ => ⟨by rw [he, ← bytes_toList, h], hw⟩
theorem pre_two (a b : UInt8) {s : ByteArray} {l : L8} (W : World) (h : s.toList = l) : Calls Try.prog 33 #[.string s, .string ⟨#[a, b]⟩] W fun e w' => e = .returned (.bool (begins a b l)) ∧ Below W.heap.size W w' :=
  hasPre.mono fun e w' ⟨he, hd⟩ => ⟨by rw [he, ← h, ← begins_prefix]; congr 2; rw [bytes_toList], hd⟩
set_option maxHeartbeats 4000000 in
theorem blank_calls (s : ByteArray) (w : World) (hs : s.size ≤ 20000) (hg : Glob w) :
    Calls Try.prog 21 #[.string s] w fun e w' => e = .returned (.tuple #[.int .i64 (blankR s.size (skip s.toList)).1, .int .i64 (blankR s.size (skip s.toList)).2]) ∧ Below w.heap.size w w' := by
  have HS := Aside0.mk (And.intro hs hg)
  clear hs hg
  go_enter Try.func21, Try.ntmps21
  go_wp2_with fail
  go_step3
  go_wp2_with fail
  go_step3
  go_wp2_with fail
  go_loopw [4] (fun av wx => ∃ a : Nat, a ≤ s.size ∧ av = .int .i64 (a : Int) ∧ Hid (skip (s.toList.drop a) = skip s.toList) ∧ Hid (Below w.heap.size w wx)) (fun av _ => s.size - (intOf av).toNat)
  case atStart => exact ⟨0, Nat.zero_le _, rfl, rfl, Below.refl _ _⟩
  case round =>
    obtain ⟨a, ha, rfl, hk, hB⟩ := hrel
    have HK : Aside0 (skip (s.toList.drop a) = skip s.toList) := Aside0.mk hk
    have HB : Aside0 (Below w.heap.size w wr) := Aside0.mk hB
    have hs9 := HS.out.1
    clear hk hB
    by_cases hlt : (a : Int) < (s.size : Int)
    · have hlt1 : a < s.size := by omega
      obtain ⟨c, t, e1, e2⟩ := drop_cons hlt1
      have hx5 := get_drop e1
      have p5 := eq_true (Int.natCast_nonneg a)
      have q5 := eq_true hlt
      have hsz : (s.extract a s.size).size = s.size - a := by rw [← tl_len, tl_tail, List.length_drop, tl_len]
      have htl : (s.extract a s.size).toList = c :: t := by rw [tl_tail, e1]
      have hsk := (show skip s.toList = skip (c :: t) by rw [← HK.out, e1]).trans (skip_cons c t)
      have HE := Aside0.mk (And.intro e1 (And.intro e2 (And.intro hsz htl)))
      have hlen : t.length + 1 = s.size - a := by rw [← hsz, ← tl_len, htl]; rfl
      have HLN := Aside0.mk hlen
      clear e1 e2 hsz htl hlen
      by_cases hbl : isBl c = true
      · rw [if_pos hbl] at hsk
        have HN := Aside0.mk hsk
        have HBL := Aside0.mk hbl
        clear hsk hbl
        go_wp2_with (go_at_call 32; with_reducible refine (ix_blank c _).mono ?_; rintro e wn ⟨r, rfl, hr, hwn⟩; obtain rfl := hwn.symm; have hr0 : 0 ≤ r := hr.2 HBL.out; clear hr)
        go_roundw
        case rel => exact ⟨a + 1, by omega, by go_num, by rw [HE.out.2.1]; exact HN.out.symm, HB.out⟩
        case measure => simp [intOf]; omega
      · rw [if_neg hbl] at hsk
        have HBL := Aside0.mk hbl
        clear hbl
        by_cases hl : begins 47 47 (c :: t) = true
        · rw [if_pos hl] at hsk
          have HL := Aside0.mk hl
          have HN : Aside0 (skip s.toList = skip (dropLine (s.toList.drop a))) := Aside0.mk (by
            rw [hsk, HE.out.1]
            obtain ⟨t2, he⟩ := begins_two hl
            injection he with h1 h2
            rw [h1, h2]
            rfl)
          clear hsk hl
          rcases idx_line (c :: t) with ⟨h1, h2⟩ | ⟨j, h1, h2, h3⟩
          · have HI := Aside0.mk (And.intro h1 h2)
            clear h1 h2
            go_wp2_with (first | (go_at_call 32; with_reducible refine (ix_blank c _).mono ?_; rintro e wn ⟨r, rfl, hr, hwn⟩; obtain rfl := hwn.symm; have hr0 := mt hr.1 HBL.out; clear hr) | (go_at_call 33; with_reducible refine (pre_two 47 47 _ HE.out.2.2.2).mono ?_; rintro e wn ⟨rfl, hk⟩; rw [HL.out]; replace HB := Aside0.mk (below_step HB.out hk); clear hk) | (go_at_call 32; with_reducible refine (ix_line _ HE.out.2.2.2).mono ?_; rintro e wn ⟨rfl, hwn⟩; obtain rfl := hwn.symm; rw [HI.out.1]))
            try rw [Exit.noGoto_ret]
            refine bodyPost_ret (v := .tuple #[.int .i64 (s.size : Int), .int .i64 0]) (by simp [results, Try.results21, go_sem]) rfl ⟨?_, HB.out⟩
            rw [HN.out, HE.out.1, HI.out.2]
            rfl
          · have HI := Aside0.mk (And.intro h1 h3)
            have hj : a + j ≤ s.size := by rw [List.length_cons] at h2; have := HLN.out; omega
            have hj0 : j ≠ 0 := fun h0 => by
              rw [h0] at h3
              obtain ⟨t2, he⟩ := begins_two HL.out
              rw [he, dropLine, if_neg (by decide), dropLine, if_neg (by decide)] at h3
              have h9 := congrArg List.length h3
              have := dropLine_le t2
              simp only [List.drop_zero, List.length_cons] at h9
              omega
            clear h1 h2 h3
            go_wp2_with (first | (go_at_call 32; with_reducible refine (ix_blank c _).mono ?_; rintro e wn ⟨r, rfl, hr, hwn⟩; obtain rfl := hwn.symm; have hr0 := mt hr.1 HBL.out; clear hr) | (go_at_call 33; with_reducible refine (pre_two 47 47 _ HE.out.2.2.2).mono ?_; rintro e wn ⟨rfl, hk⟩; rw [HL.out]; replace HB := Aside0.mk (below_step HB.out hk); clear hk) | (go_at_call 32; with_reducible refine (ix_line _ HE.out.2.2.2).mono ?_; rintro e wn ⟨rfl, hwn⟩; obtain rfl := hwn.symm; rw [HI.out.1]))
            go_roundw
            case rel => exact ⟨a + j, hj, by go_num, by rw [← List.drop_drop, HE.out.1, HI.out.2, ← HE.out.1]; exact HN.out.symm, HB.out⟩
            case measure => simp [intOf]; omega
        · rw [if_neg hl] at hsk
          have HL : Aside0 (begins 47 47 (c :: t) = false) := Aside0.mk (by simpa using hl)
          clear hl
          by_cases hn : begins 47 42 (c :: t) = true
          · rw [if_pos hn] at hsk
            have HNN := Aside0.mk hn
            obtain ⟨t2, he⟩ := begins_two hn
            have ht : t.tail = t2 := by injection he with _ he; rw [he]; rfl
            have htlen : t.length = t2.length + 1 := by injection he with _ he; rw [he]; rfl
            rw [ht] at hsk
            have h2 : (2 : Int) ≤ ((s.extract a s.size).size : Int) := by rw [HE.out.2.2.1]; have := HLN.out; omega
            have h2' := eq_true h2
            have h2a : 2 ≤ s.size - a := by have := HLN.out; omega
            have h2b : (2 : Int) ≤ ((s.size - a : Nat) : Int) := by omega
            have h2c : (2 : Int) ≤ (s.size : Int) - (a : Int) := by omega
            have HT2 : Aside0 (((s.extract a s.size).extract 2 (s.size - a)).toList = t2 ∧ ((s.extract a s.size).extract 2 (s.size - a)).size ≤ 20000) := Aside0.mk (by
              rw [← HE.out.2.2.1]
              have h9 : ((s.extract a s.size).extract 2 (s.extract a s.size).size).toList = t2 := by rw [tl_tail, HE.out.2.2.2, he]; rfl
              exact ⟨h9, by rw [← tl_len, h9]; have := HLN.out; omega⟩)
            have HEE := Aside0.mk (And.intro he htlen)
            clear hn he ht h2 htlen
            rcases idx_note t2 with ⟨h3, h4⟩ | ⟨j, r, h3, h4, h5, h6⟩
            · have HI := Aside0.mk (And.intro h3 h4)
              rw [h4] at hsk
              have HN := Aside0.mk hsk
              clear h3 h4 hsk
              go_wp2_with (first | (go_at_call 32; with_reducible refine (ix_blank c _).mono ?_; rintro e wn ⟨r, rfl, hr, hwn⟩; obtain rfl := hwn.symm; have hr0 := mt hr.1 HBL.out; clear hr) | (go_at_call 33; with_reducible refine (pre_two 47 47 _ HE.out.2.2.2).mono ?_; rintro e wn ⟨rfl, hk⟩; rw [HL.out]; replace HB := Aside0.mk (below_step HB.out hk); clear hk) | (go_at_call 33; with_reducible refine (pre_two 47 42 _ HE.out.2.2.2).mono ?_; rintro e wn ⟨rfl, hk⟩; rw [HNN.out]; replace HB := Aside0.mk (below_step HB.out hk); clear hk) | (go_at_call 34; with_reducible refine (ix_note HT2.out.1 HT2.out.2 (HS.out.2.below HB.out)).mono ?_; rintro e wn ⟨rfl, hwn⟩; obtain rfl := hwn.symm; rw [HI.out.1]))
              try rw [Exit.noGoto_ret]
              refine bodyPost_ret (v := .tuple #[.int .i64 (-1), .int .i64 (a : Int)]) (by simp [results, Try.results21, go_sem]) rfl ⟨?_, HB.out⟩
              rw [HN.out]
              simp only [blankR]
              have hl9 := HLN.out
              rw [List.length_cons, show s.size - (t.length + 1) = a by omega]
            · have HI := Aside0.mk (And.intro h3 h6)
              rw [h4] at hsk
              have HN := Aside0.mk hsk
              have H7 : Aside0 (s.toList.drop (a + 2 + (j + 2)) = r) := Aside0.mk (by
                have e1 : (s.toList.drop a).drop (2 + (j + 2)) = s.toList.drop (a + (2 + (j + 2))) := List.drop_drop
                rw [Nat.add_assoc, ← e1, HE.out.1, HEE.out.1, Nat.add_comm 2]
                exact h6)
              have hj : a + 2 + (j + 2) ≤ s.size := by have := HLN.out; have := HEE.out.2; omega
              clear h3 h4 h5 h6 hsk
              go_wp2_with (first | (go_at_call 32; with_reducible refine (ix_blank c _).mono ?_; rintro e wn ⟨r, rfl, hr, hwn⟩; obtain rfl := hwn.symm; have hr0 := mt hr.1 HBL.out; clear hr) | (go_at_call 33; with_reducible refine (pre_two 47 47 _ HE.out.2.2.2).mono ?_; rintro e wn ⟨rfl, hk⟩; rw [HL.out]; replace HB := Aside0.mk (below_step HB.out hk); clear hk) | (go_at_call 33; with_reducible refine (pre_two 47 42 _ HE.out.2.2.2).mono ?_; rintro e wn ⟨rfl, hk⟩; rw [HNN.out]; replace HB := Aside0.mk (below_step HB.out hk); clear hk) | (go_at_call 34; with_reducible refine (ix_note HT2.out.1 HT2.out.2 (HS.out.2.below HB.out)).mono ?_; rintro e wn ⟨rfl, hwn⟩; obtain rfl := hwn.symm; rw [HI.out.1]))
              go_roundw
              case rel => exact ⟨a + 2 + (j + 2), hj, by go_num, by rw [H7.out]; exact HN.out.symm, HB.out⟩
              case measure => simp [intOf]; omega
          · rw [if_neg hn] at hsk
            have HNN : Aside0 (begins 47 42 (c :: t) = false) := Aside0.mk (by simpa using hn)
            have HN := Aside0.mk hsk
            clear hn hsk
            go_wp2_with (first | (go_at_call 32; with_reducible refine (ix_blank c _).mono ?_; rintro e wn ⟨r, rfl, hr, hwn⟩; obtain rfl := hwn.symm; have hr0 := mt hr.1 HBL.out; clear hr) | (go_at_call 33; with_reducible refine (pre_two 47 47 _ HE.out.2.2.2).mono ?_; rintro e wn ⟨rfl, hk⟩; rw [HL.out]; replace HB := Aside0.mk (below_step HB.out hk); clear hk) | (go_at_call 33; with_reducible refine (pre_two 47 42 _ HE.out.2.2.2).mono ?_; rintro e wn ⟨rfl, hk⟩; rw [HNN.out]; replace HB := Aside0.mk (below_step HB.out hk); clear hk))
            try rw [Exit.noGoto_ret]
            refine bodyPost_ret (v := .tuple #[.int .i64 (a : Int), .int .i64 0]) (by simp [results, Try.results21, go_sem]) rfl ⟨?_, HB.out⟩
            rw [HN.out]
            simp only [blankR]
            have hl9 := HLN.out
            rw [List.length_cons, show s.size - (t.length + 1) = a by omega]
    · have hae : a = s.size := by omega
      have hk : skip s.toList = .ok [] := by
        have := HK.out
        rw [hae, List.drop_eq_nil_of_le (by rw [tl_len]; exact Nat.le_refl _), skip_nil] at this
        exact this.symm
      have HN := Aside0.mk hk
      have HAE := Aside0.mk hae
      clear hk hae
      go_wp2_with fail
      try rw [Exit.noGoto_ret]
      refine bodyPost_ret (v := .tuple #[.int .i64 (a : Int), .int .i64 0]) (by simp [results, Try.results21, go_sem]) rfl ⟨?_, HB.out⟩
      rw [HN.out, HAE.out]
      rfl
end Go.Proofs.Ytikfgdkplgfiiaa.G
