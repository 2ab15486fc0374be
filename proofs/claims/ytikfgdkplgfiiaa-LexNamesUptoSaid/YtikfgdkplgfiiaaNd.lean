/- lex.token. Each contract names its state. -/
import Derived.Test.YtikfgdkplgfiiaaNc
import Derived.StillTailTactics
set_option linter.unusedVariables false
set_option linter.unusedSimpArgs false
namespace Go.Proofs.Ytikfgdkplgfiiaa.G
open Go.RowKit Go.Proofs.Ytikfgdkplgfiiaa.B Go.Proofs.YtikfgdkplgfiiaaW.PrintWords Go.Proofs.YtikfgdkplgfiiaaW.PrintLast Go.Proofs.YtikfgdkplgfiiaaW.PrintMore

theorem letter_c (c : UInt8) (W : World) : Calls Try.prog 35 #[.int .u8 (c.toNat : Int)] W fun e w' => e = .returned (.bool (isLet c)) ∧ Below W.heap.size W w' :=
  (lex_letter.calls _ _ W (lletter_f c)).mono fun e w' ⟨he, hd⟩ => ⟨he, hd.below⟩
theorem digit_c (c : UInt8) (W : World) : Calls Try.prog 26 #[.int .u8 (c.toNat : Int)] W fun e w' => e = .returned (.bool (isDig c)) ∧ Below W.heap.size W w' :=
  (lex_digit.calls _ _ W (ldigit_f c)).mono fun e w' ⟨he, hd⟩ => ⟨he, hd.below⟩
theorem word_c {s : ByteArray} {l : L8} (h : s.toList = l) (W : World) : Calls Try.prog 16 #[.string s] W fun e w' => e = .returned (.bool (isWordS l)) ∧ Below W.heap.size W w' :=
  lex_Word.calls 30 s _ W (by rw [← h]; exact lword_f s 30 (by omega))
/-- A token's box is laid. -/
theorem box_put {w W : World} {gb : Nat} {cs : Array Value} (hb : W.heap[gb]? = some (.cells cs 32 (0, 0))) (hcs : ∃ a b c d, cs = #[a, b, c, d]) (hB : Below w.heap.size w W) (hg : w.heap.size ≤ gb) (a b c d : Value) :
    ((((W.setCell ⟨gb, 0, none⟩ a).setCell ⟨gb, 1, none⟩ b).setCell ⟨gb, 2, none⟩ c).setCell ⟨gb, 3, none⟩ d).heap[gb]? = some (.cells #[a, b, c, d] 32 (0, 0)) ∧
    Below w.heap.size w ((((W.setCell ⟨gb, 0, none⟩ a).setCell ⟨gb, 1, none⟩ b).setCell ⟨gb, 2, none⟩ c).setCell ⟨gb, 3, none⟩ d) := by
  obtain ⟨a', b', c', d', rfl⟩ := hcs
  refine ⟨blk_put4 hb a b c d, ?_⟩
  have h1 : ∀ (W : World) (p : Addr) (u : Value), Below w.heap.size w W → w.heap.size ≤ p.block → Below w.heap.size w (W.setCell p u) := fun W p u h hp => Kp.below_of h (Kp.setCell (Kp.refl W (fun k => k = p.block)) (p := p) (.inl rfl) u) (fun k hk => by rw [hk]; exact hp)
  exact h1 _ _ _ (h1 _ _ _ (h1 _ _ _ (h1 _ _ _ hB hg) hg) hg) hg
def tokV (t : Tk) : Value := .tuple #[.agg #[.int .i64 (t.kind : Int), .int .i64 0, .string (toB t.text), .int .i64 (t.n : Int)], .int .i64 (t.err : Int)]
set_option maxRecDepth 100000 in
set_option maxHeartbeats 8000000 in
theorem token_calls (s : ByteArray) (w : World) (hs : s.size ≤ 20000) (h0 : 0 < s.size) :
    Calls Try.prog 22 #[.string s] w fun e w' => e = .returned (tokV (tokS s.toList)) ∧ Below w.heap.size w w' := by
  obtain ⟨c, t, e1, e2⟩ := drop_cons (s := s) (i := 0) h0
  have hx0 := get_drop e1
  rw [List.drop_zero] at e1
  have ht : tokS s.toList = if isLet c = true then (if 24 < wordLen s.toList then ⟨0, [], 0, 5⟩ else ⟨if isWordS (s.toList.take (wordLen s.toList)) = true then 2 else 1, s.toList.take (wordLen s.toList), 0, 0⟩)
    else if isDig c = true then ⟨3, s.toList.take (numS s.toList).2.1, (numS s.toList).1, (numS s.toList).2.2⟩
    else if c.toNat = 39 then (match charS s.toList with | some d => ⟨3, s.toList.take 3, d.toNat, 0⟩ | none => ⟨0, [], 0, 2⟩)
    else match signS s.toList with | some x => ⟨4, x, 0, 0⟩ | none => ⟨0, [], 0, 2⟩ := by
    rw [e1]; rfl
  have HS := Aside0.mk (And.intro hs (And.intro h0 e1))
  have hq0 := eq_true (show (0 : Int) < (s.size : Int) by omega)
  have HB := Aside0.mk (below_alloc (Below.refl w.heap.size w) (.cells #[.int .i64 0, .int .i64 0, .string ⟨#[]⟩, .int .i64 0] 32))
  have HX := Aside0.mk (blk_new w (.cells #[.int .i64 0, .int .i64 0, .string ⟨#[]⟩, .int .i64 0] 32))
  have hq1 : 0 < s.size := h0
  have hq2 : (0 : Int) < (s.size : Int) := by omega
  clear hs h0 e1 e2
  go_enter Try.func22, Try.ntmps22
  go_upto_block 0 with (fail)
  generalize w.alloc (.cells #[.int .i64 0, .int .i64 0, .string ⟨#[]⟩, .int .i64 0] 32) = W at HB HX ⊢
  obtain ⟨gb, hgb⟩ : ∃ g, w.heap.size = g := ⟨_, rfl⟩
  have HGB := Aside0.mk hgb
  rw [hgb] at HX ⊢
  clear hgb
  by_cases hl : isLet c = true
  · rw [if_pos hl] at ht
    have HL := Aside0.mk hl
    have hwl := wordLen_le s.toList
    rw [tl_len] at hwl
    obtain ⟨a, ha⟩ : ∃ a, wordLen s.toList = a := ⟨_, rfl⟩
    have HA := Aside0.mk ha
    rw [ha] at ht hwl
    clear hl ha
    by_cases h24 : 24 < a
    · rw [if_pos h24] at ht
      have HT := Aside0.mk ht
      have h24i : (24 : Int) < (a : Int) := by omega
      clear ht hwl h24
      go_upto_region 5 with (first | (go_at_call 35; with_reducible refine (letter_c c _).mono ?_; rintro e wn ⟨rfl, hk⟩; rw [HL.out]; replace HB := Aside0.mk (below_step HB.out hk); replace HX := Aside0.mk (blk_below HX.out hk); clear hk) | (go_at_call 25; with_reducible refine (wordly_c s HS.out.1 _).mono ?_; rintro e wn ⟨rfl, hk⟩; rw [HA.out]; replace HB := Aside0.mk (below_step HB.out hk); replace HX := Aside0.mk (blk_below HX.out hk); clear hk))
      have fz := blk_frozen HX.out
      obtain ⟨z0, z1, z2, z3⟩ := cell4 HX.out
      go_wp2_with fail
      have hp := box_put HX.out ⟨_, _, _, _, rfl⟩ HB.out (by rw [HGB.out]; exact Nat.le_refl _) (.int .i64 0) (.int .i64 0) (.string ⟨#[]⟩) (.int .i64 0)
      refine bodyPost_ret (results_ct rfl _ _ gb 32 #[.int .i64 0, .int .i64 0, .string ⟨#[]⟩, .int .i64 0] (0, 0) _ rfl hp.1 Try.underlying32 rfl (by kernel_rfl)) rfl ⟨?_, hp.2⟩
      rw [HT.out]
      rfl
    · rw [if_neg h24] at ht
      have h24i : (a : Int) ≤ 24 := by omega
      have ha1 := eq_true (show (a : Int) ≤ (s.size : Int) by omega)
      have ha2 : (a : Int) ≤ (s.size : Int) := by omega
      have hex : (s.extract 0 a).toList = s.toList.take a := tl_head s a
      have HE := Aside0.mk hex
      clear hex h24
      go_upto_region 7 with (first | (go_at_call 35; with_reducible refine (letter_c c _).mono ?_; rintro e wn ⟨rfl, hk⟩; rw [HL.out]; replace HB := Aside0.mk (below_step HB.out hk); replace HX := Aside0.mk (blk_below HX.out hk); clear hk) | (go_at_call 25; with_reducible refine (wordly_c s HS.out.1 _).mono ?_; rintro e wn ⟨rfl, hk⟩; rw [HA.out]; replace HB := Aside0.mk (below_step HB.out hk); replace HX := Aside0.mk (blk_below HX.out hk); clear hk))
      have HY := Aside0.mk (blk_new wn (.cells #[.int .i64 1, .int .i64 0, .string (s.extract 0 a), .int .i64 0] 32))
      have HG6 := Aside0.mk HB.out.size
      have HNE : Aside0 (wn.heap.size ≠ gb) := Aside0.mk (by have := blk_lt HX.out; omega)
      replace HX := Aside0.mk (blk_alloc HX.out (.cells #[.int .i64 1, .int .i64 0, .string (s.extract 0 a), .int .i64 0] 32))
      replace HB := Aside0.mk (below_alloc HB.out (.cells #[.int .i64 1, .int .i64 0, .string (s.extract 0 a), .int .i64 0] 32))
      generalize wn.alloc (.cells #[.int .i64 1, .int .i64 0, .string (s.extract 0 a), .int .i64 0] 32) = w6 at HX HB HY ⊢
      generalize wn.heap.size = g6 at HY HNE HG6 ⊢
      obtain ⟨y0, y1, y2, y3⟩ := cell4 HY.out
      cases hw : isWordS (s.toList.take a) with
      | true =>
        have HW := Aside0.mk hw
        have HT : Aside0 (tokS s.toList = ⟨2, s.toList.take a, 0, 0⟩) := Aside0.mk (by rw [ht, hw]; rfl)
        clear ht hw hwl
        go_upto_region 8 with (go_at_call 16; with_reducible refine (word_c HE.out _).mono ?_; rintro e wq ⟨rfl, hk⟩; rw [HW.out]; replace HY := Aside0.mk (blk_below HY.out hk); replace HB := Aside0.mk (below_step HB.out hk); replace HX := Aside0.mk (blk_below HX.out hk); clear hk)
        clear y0 y1 y2 y3
        have fy := blk_frozen HY.out
        obtain ⟨y0, y1, y2, y3⟩ := cell4 HY.out
        go_upto_region 9 with (fail)
        replace HY := Aside0.mk (blk_put (cs' := #[.int .i64 2, .int .i64 0, .string (s.extract 0 a), .int .i64 0]) HY.out 0 (.int .i64 2) rfl)
        replace HX := Aside0.mk ((Below.heap_setCell wq ⟨g6, 0, none⟩ (.int .i64 2) gb (fun h => HNE.out h.symm)).trans HX.out)
        replace HB := Aside0.mk (below_set (j := 0) (v := .int .i64 2) HB.out HG6.out)
        clear fy y0 y1 y2 y3
        generalize wq.setCell ⟨g6, 0, none⟩ (.int .i64 2) = w7 at HX HB HY ⊢
        obtain ⟨y0, y1, y2, y3⟩ := cell4 HY.out
        have fz := blk_frozen HX.out
        obtain ⟨z0, z1, z2, z3⟩ := cell4 HX.out
        go_wp2_with fail
        have hp := box_put HX.out ⟨_, _, _, _, rfl⟩ HB.out (by rw [HGB.out]; exact Nat.le_refl _) (.int .i64 2) (.int .i64 0) (.string (s.extract 0 a)) (.int .i64 0)
        refine bodyPost_ret (results_ct rfl _ _ gb 32 #[.int .i64 2, .int .i64 0, .string (s.extract 0 a), .int .i64 0] (0, 0) _ rfl hp.1 Try.underlying32 rfl (by kernel_rfl)) rfl ⟨?_, hp.2⟩
        rw [HT.out, ext_toB]
        rfl
      | false =>
        have HW := Aside0.mk hw
        have HT : Aside0 (tokS s.toList = ⟨1, s.toList.take a, 0, 0⟩) := Aside0.mk (by rw [ht, hw]; rfl)
        clear ht hw hwl
        go_upto_region 9 with (go_at_call 16; with_reducible refine (word_c HE.out _).mono ?_; rintro e wq ⟨rfl, hk⟩; rw [HW.out]; replace HY := Aside0.mk (blk_below HY.out hk); replace HB := Aside0.mk (below_step HB.out hk); replace HX := Aside0.mk (blk_below HX.out hk); clear hk)
        clear y0 y1 y2 y3
        obtain ⟨y0, y1, y2, y3⟩ := cell4 HY.out
        have fz := blk_frozen HX.out
        obtain ⟨z0, z1, z2, z3⟩ := cell4 HX.out
        go_wp2_with fail
        have hp := box_put HX.out ⟨_, _, _, _, rfl⟩ HB.out (by rw [HGB.out]; exact Nat.le_refl _) (.int .i64 1) (.int .i64 0) (.string (s.extract 0 a)) (.int .i64 0)
        refine bodyPost_ret (results_ct rfl _ _ gb 32 #[.int .i64 1, .int .i64 0, .string (s.extract 0 a), .int .i64 0] (0, 0) _ rfl hp.1 Try.underlying32 rfl (by kernel_rfl)) rfl ⟨?_, hp.2⟩
        rw [HT.out, ext_toB]
        rfl
  · rw [if_neg hl] at ht
    have HL : Aside0 (isLet c = false) := Aside0.mk (by simpa using hl)
    clear hl
    by_cases hd : isDig c = true
    · rw [if_pos hd] at ht
      have HD := Aside0.mk hd
      obtain ⟨n1, n2, n3⟩ := numS_len s.toList
      have hwl := wordLen_le s.toList
      rw [tl_len] at hwl
      have ha2 : ((numS s.toList).2.1 : Int) ≤ (s.size : Int) := by omega
      have ha1 := eq_true ha2
      have HT := Aside0.mk ht
      clear hd n1 n2 n3 hwl ht
      go_upto_region 12 with (first | (go_at_call 35; with_reducible refine (letter_c c _).mono ?_; rintro e wn ⟨rfl, hk⟩; rw [HL.out]; replace HB := Aside0.mk (below_step HB.out hk); replace HX := Aside0.mk (blk_below HX.out hk); clear hk) | (go_at_call 26; with_reducible refine (digit_c c _).mono ?_; rintro e wn ⟨rfl, hk⟩; rw [HD.out]; replace HB := Aside0.mk (below_step HB.out hk); replace HX := Aside0.mk (blk_below HX.out hk); clear hk) | (go_at_call 36; with_reducible refine (figure_calls s _ HS.out.1 HS.out.2.1).mono ?_; rintro e wn ⟨rfl, hk⟩; replace HB := Aside0.mk (below_step HB.out hk); replace HX := Aside0.mk (blk_below HX.out hk); clear hk))
      have fz := blk_frozen HX.out
      obtain ⟨z0, z1, z2, z3⟩ := cell4 HX.out
      go_wp2_with fail
      have hp := box_put HX.out ⟨_, _, _, _, rfl⟩ HB.out (by rw [HGB.out]; exact Nat.le_refl _) (.int .i64 3) (.int .i64 0) (.string (s.extract 0 (numS s.toList).2.1)) (.int .i64 ((numS s.toList).1 : Int))
      refine bodyPost_ret (results_ct rfl _ _ gb 32 #[.int .i64 3, .int .i64 0, .string (s.extract 0 (numS s.toList).2.1), .int .i64 ((numS s.toList).1 : Int)] (0, 0) _ rfl hp.1 Try.underlying32 rfl (by kernel_rfl)) rfl ⟨?_, hp.2⟩
      rw [HT.out, ext_toB]
      rfl
    · rw [if_neg hd] at ht
      have HD : Aside0 (isDig c = false) := Aside0.mk (by simpa using hd)
      clear hd
      by_cases hq : c.toNat = 39
      · rw [if_pos hq] at ht
        have hqb : ((c.toNat : Int) == 39) = true := beq_iff_eq.mpr (by omega)
        clear hq
        by_cases h3 : 2 < s.size
        · obtain ⟨d, t1, e3, e4⟩ := drop_cons (s := s) (i := 1) (by omega)
          obtain ⟨f, t2, e5, e6⟩ := drop_cons (s := s) (i := 2) (by omega)
          have hc : charS s.toList = if f.toNat = 39 ∧ 32 ≤ d.toNat ∧ d.toNat ≤ 126 ∧ d.toNat ≠ 39 ∧ d.toNat ≠ 92 then some d else none := by
            rw [show 1 + 1 = 2 from rfl, e5] at e4
            have e1 := HS.out.2.2
            rw [e1, List.drop_succ_cons, List.drop_zero] at e3
            rw [e1, e3, ← e4]
            rfl
          have hx1 := get_drop e3
          have hx2 := get_drop e5
          have hy1 : (1 : Int) < (s.size : Int) := by omega
          have hy2 : (2 : Int) < (s.size : Int) := by omega
          have hy3 : (3 : Int) ≤ (s.size : Int) := by omega
          have hz1 := eq_true hy1
          have hz2 := eq_true hy2
          have hz3 := eq_true hy3
          have hy4 : 1 < s.size := by omega
          have hd255 := byte_le d
          rw [hc] at ht
          clear e3 e4 e5 e6 hc
          by_cases c1 : f.toNat = 39
          · have k1 : ((f.toNat : Int) == 39) = true := beq_iff_eq.mpr (by omega)
            by_cases c2 : 32 ≤ d.toNat
            · have k2 : (32 : Int) ≤ (d.toNat : Int) := by omega
              by_cases c3 : d.toNat ≤ 126
              · have k3 : (d.toNat : Int) ≤ 126 := by omega
                by_cases c4 : d.toNat = 39
                · have k4 : ((d.toNat : Int) == 39) = true := beq_iff_eq.mpr (by omega)
                  have HT : Aside0 (tokS s.toList = ⟨0, [], 0, 2⟩) := Aside0.mk (by rw [ht, if_neg (by omega)])
                  clear ht
                  go_upto_region 15 with (first | (go_at_call 35; with_reducible refine (letter_c c _).mono ?_; rintro e wn ⟨rfl, hk⟩; rw [HL.out]; replace HB := Aside0.mk (below_step HB.out hk); replace HX := Aside0.mk (blk_below HX.out hk); clear hk) | (go_at_call 26; with_reducible refine (digit_c c _).mono ?_; rintro e wn ⟨rfl, hk⟩; rw [HD.out]; replace HB := Aside0.mk (below_step HB.out hk); replace HX := Aside0.mk (blk_below HX.out hk); clear hk))
                  have fz := blk_frozen HX.out
                  obtain ⟨z0, z1, z2, z3⟩ := cell4 HX.out
                  go_wp2_with fail
                  have hp := box_put HX.out ⟨_, _, _, _, rfl⟩ HB.out (by rw [HGB.out]; exact Nat.le_refl _) (.int .i64 0) (.int .i64 0) (.string ⟨#[]⟩) (.int .i64 0)
                  refine bodyPost_ret (results_ct rfl _ _ gb 32 #[.int .i64 0, .int .i64 0, .string ⟨#[]⟩, .int .i64 0] (0, 0) _ rfl hp.1 Try.underlying32 rfl (by kernel_rfl)) rfl ⟨?_, hp.2⟩
                  rw [HT.out]
                  rfl
                · have k4 : ((d.toNat : Int) == 39) = false := beq_eq_false_iff_ne.mpr (by omega)
                  by_cases c5 : d.toNat = 92
                  · have k5 : ((d.toNat : Int) == 92) = true := beq_iff_eq.mpr (by omega)
                    have HT : Aside0 (tokS s.toList = ⟨0, [], 0, 2⟩) := Aside0.mk (by rw [ht, if_neg (by omega)])
                    clear ht
                    go_upto_region 15 with (first | (go_at_call 35; with_reducible refine (letter_c c _).mono ?_; rintro e wn ⟨rfl, hk⟩; rw [HL.out]; replace HB := Aside0.mk (below_step HB.out hk); replace HX := Aside0.mk (blk_below HX.out hk); clear hk) | (go_at_call 26; with_reducible refine (digit_c c _).mono ?_; rintro e wn ⟨rfl, hk⟩; rw [HD.out]; replace HB := Aside0.mk (below_step HB.out hk); replace HX := Aside0.mk (blk_below HX.out hk); clear hk))
                    have fz := blk_frozen HX.out
                    obtain ⟨z0, z1, z2, z3⟩ := cell4 HX.out
                    go_wp2_with fail
                    have hp := box_put HX.out ⟨_, _, _, _, rfl⟩ HB.out (by rw [HGB.out]; exact Nat.le_refl _) (.int .i64 0) (.int .i64 0) (.string ⟨#[]⟩) (.int .i64 0)
                    refine bodyPost_ret (results_ct rfl _ _ gb 32 #[.int .i64 0, .int .i64 0, .string ⟨#[]⟩, .int .i64 0] (0, 0) _ rfl hp.1 Try.underlying32 rfl (by kernel_rfl)) rfl ⟨?_, hp.2⟩
                    rw [HT.out]
                    rfl
                  · have k5 : ((d.toNat : Int) == 92) = false := beq_eq_false_iff_ne.mpr (by omega)
                    have HT : Aside0 (tokS s.toList = ⟨3, s.toList.take 3, d.toNat, 0⟩) := Aside0.mk (by rw [ht, if_pos ⟨c1, c2, c3, c4, c5⟩])
                    clear ht
                    go_upto_region 16 with (first | (go_at_call 35; with_reducible refine (letter_c c _).mono ?_; rintro e wn ⟨rfl, hk⟩; rw [HL.out]; replace HB := Aside0.mk (below_step HB.out hk); replace HX := Aside0.mk (blk_below HX.out hk); clear hk) | (go_at_call 26; with_reducible refine (digit_c c _).mono ?_; rintro e wn ⟨rfl, hk⟩; rw [HD.out]; replace HB := Aside0.mk (below_step HB.out hk); replace HX := Aside0.mk (blk_below HX.out hk); clear hk))
                    go_still_tail 6, (by kernel_rfl)
                    change wpList _ _ _ _ _ wn.drew
                    replace HX := Aside0.mk (show wn.drew.heap[gb]? = _ from HX.out)
                    replace HB := Aside0.mk (below_drew HB.out)
                    generalize wn.drew = wd at HX HB ⊢
                    have fz := blk_frozen HX.out
                    obtain ⟨z0, z1, z2, z3⟩ := cell4 HX.out
                    go_wp2_with fail
                    have hp := box_put HX.out ⟨_, _, _, _, rfl⟩ HB.out (by rw [HGB.out]; exact Nat.le_refl _) (.int .i64 3) (.int .i64 0) (.string (s.extract 0 3)) (.int .i64 (d.toNat : Int))
                    refine bodyPost_ret (results_ct rfl _ _ gb 32 #[.int .i64 3, .int .i64 0, .string (s.extract 0 3), .int .i64 (d.toNat : Int)] (0, 0) _ rfl hp.1 Try.underlying32 rfl (by kernel_rfl)) rfl ⟨?_, hp.2⟩
                    rw [HT.out, ext_toB]
                    rfl
              · have k3 : (126 : Int) < (d.toNat : Int) := by omega
                have HT : Aside0 (tokS s.toList = ⟨0, [], 0, 2⟩) := Aside0.mk (by rw [ht, if_neg (by omega)])
                clear ht
                go_upto_region 15 with (first | (go_at_call 35; with_reducible refine (letter_c c _).mono ?_; rintro e wn ⟨rfl, hk⟩; rw [HL.out]; replace HB := Aside0.mk (below_step HB.out hk); replace HX := Aside0.mk (blk_below HX.out hk); clear hk) | (go_at_call 26; with_reducible refine (digit_c c _).mono ?_; rintro e wn ⟨rfl, hk⟩; rw [HD.out]; replace HB := Aside0.mk (below_step HB.out hk); replace HX := Aside0.mk (blk_below HX.out hk); clear hk))
                have fz := blk_frozen HX.out
                obtain ⟨z0, z1, z2, z3⟩ := cell4 HX.out
                go_wp2_with fail
                have hp := box_put HX.out ⟨_, _, _, _, rfl⟩ HB.out (by rw [HGB.out]; exact Nat.le_refl _) (.int .i64 0) (.int .i64 0) (.string ⟨#[]⟩) (.int .i64 0)
                refine bodyPost_ret (results_ct rfl _ _ gb 32 #[.int .i64 0, .int .i64 0, .string ⟨#[]⟩, .int .i64 0] (0, 0) _ rfl hp.1 Try.underlying32 rfl (by kernel_rfl)) rfl ⟨?_, hp.2⟩
                rw [HT.out]
                rfl
            · have k2 : (d.toNat : Int) < 32 := by omega
              have HT : Aside0 (tokS s.toList = ⟨0, [], 0, 2⟩) := Aside0.mk (by rw [ht, if_neg (by omega)])
              clear ht
              go_upto_region 15 with (first | (go_at_call 35; with_reducible refine (letter_c c _).mono ?_; rintro e wn ⟨rfl, hk⟩; rw [HL.out]; replace HB := Aside0.mk (below_step HB.out hk); replace HX := Aside0.mk (blk_below HX.out hk); clear hk) | (go_at_call 26; with_reducible refine (digit_c c _).mono ?_; rintro e wn ⟨rfl, hk⟩; rw [HD.out]; replace HB := Aside0.mk (below_step HB.out hk); replace HX := Aside0.mk (blk_below HX.out hk); clear hk))
              have fz := blk_frozen HX.out
              obtain ⟨z0, z1, z2, z3⟩ := cell4 HX.out
              go_wp2_with fail
              have hp := box_put HX.out ⟨_, _, _, _, rfl⟩ HB.out (by rw [HGB.out]; exact Nat.le_refl _) (.int .i64 0) (.int .i64 0) (.string ⟨#[]⟩) (.int .i64 0)
              refine bodyPost_ret (results_ct rfl _ _ gb 32 #[.int .i64 0, .int .i64 0, .string ⟨#[]⟩, .int .i64 0] (0, 0) _ rfl hp.1 Try.underlying32 rfl (by kernel_rfl)) rfl ⟨?_, hp.2⟩
              rw [HT.out]
              rfl
          · have k1 : ((f.toNat : Int) == 39) = false := beq_eq_false_iff_ne.mpr (by omega)
            have HT : Aside0 (tokS s.toList = ⟨0, [], 0, 2⟩) := Aside0.mk (by rw [ht, if_neg (by omega)])
            clear ht
            go_upto_region 15 with (first | (go_at_call 35; with_reducible refine (letter_c c _).mono ?_; rintro e wn ⟨rfl, hk⟩; rw [HL.out]; replace HB := Aside0.mk (below_step HB.out hk); replace HX := Aside0.mk (blk_below HX.out hk); clear hk) | (go_at_call 26; with_reducible refine (digit_c c _).mono ?_; rintro e wn ⟨rfl, hk⟩; rw [HD.out]; replace HB := Aside0.mk (below_step HB.out hk); replace HX := Aside0.mk (blk_below HX.out hk); clear hk))
            have fz := blk_frozen HX.out
            obtain ⟨z0, z1, z2, z3⟩ := cell4 HX.out
            go_wp2_with fail
            have hp := box_put HX.out ⟨_, _, _, _, rfl⟩ HB.out (by rw [HGB.out]; exact Nat.le_refl _) (.int .i64 0) (.int .i64 0) (.string ⟨#[]⟩) (.int .i64 0)
            refine bodyPost_ret (results_ct rfl _ _ gb 32 #[.int .i64 0, .int .i64 0, .string ⟨#[]⟩, .int .i64 0] (0, 0) _ rfl hp.1 Try.underlying32 rfl (by kernel_rfl)) rfl ⟨?_, hp.2⟩
            rw [HT.out]
            rfl
        · have HT : Aside0 (tokS s.toList = ⟨0, [], 0, 2⟩) := Aside0.mk (by rw [ht, charS_short h3])
          have h3i : (s.size : Int) < 3 := by omega
          clear ht h3
          go_upto_region 15 with (first | (go_at_call 35; with_reducible refine (letter_c c _).mono ?_; rintro e wn ⟨rfl, hk⟩; rw [HL.out]; replace HB := Aside0.mk (below_step HB.out hk); replace HX := Aside0.mk (blk_below HX.out hk); clear hk) | (go_at_call 26; with_reducible refine (digit_c c _).mono ?_; rintro e wn ⟨rfl, hk⟩; rw [HD.out]; replace HB := Aside0.mk (below_step HB.out hk); replace HX := Aside0.mk (blk_below HX.out hk); clear hk))
          have fz := blk_frozen HX.out
          obtain ⟨z0, z1, z2, z3⟩ := cell4 HX.out
          go_wp2_with fail
          have hp := box_put HX.out ⟨_, _, _, _, rfl⟩ HB.out (by rw [HGB.out]; exact Nat.le_refl _) (.int .i64 0) (.int .i64 0) (.string ⟨#[]⟩) (.int .i64 0)
          refine bodyPost_ret (results_ct rfl _ _ gb 32 #[.int .i64 0, .int .i64 0, .string ⟨#[]⟩, .int .i64 0] (0, 0) _ rfl hp.1 Try.underlying32 rfl (by kernel_rfl)) rfl ⟨?_, hp.2⟩
          rw [HT.out]
          rfl
      · rw [if_neg hq] at ht
        have hqb : ((c.toNat : Int) == 39) = false := beq_eq_false_iff_ne.mpr (by omega)
        clear hq
        cases hs : signS s.toList with
        | none =>
          rw [hs] at ht
          have HT := Aside0.mk ht
          have HSG : Aside0 (toB (signR s.toList) = ⟨#[]⟩) := Aside0.mk (by unfold signR; rw [hs]; rfl)
          clear ht hs
          go_upto_region 19 with (first | (go_at_call 35; with_reducible refine (letter_c c _).mono ?_; rintro e wn ⟨rfl, hk⟩; rw [HL.out]; replace HB := Aside0.mk (below_step HB.out hk); replace HX := Aside0.mk (blk_below HX.out hk); clear hk) | (go_at_call 26; with_reducible refine (digit_c c _).mono ?_; rintro e wn ⟨rfl, hk⟩; rw [HD.out]; replace HB := Aside0.mk (below_step HB.out hk); replace HX := Aside0.mk (blk_below HX.out hk); clear hk) | (go_at_call 37; with_reducible refine (sign_calls s _ HS.out.1).mono ?_; rintro e wn ⟨rfl, hk⟩; rw [HSG.out]; replace HB := Aside0.mk (below_step HB.out hk); replace HX := Aside0.mk (blk_below HX.out hk); clear hk))
          have fz := blk_frozen HX.out
          obtain ⟨z0, z1, z2, z3⟩ := cell4 HX.out
          go_wp2_with fail
          have hp := box_put HX.out ⟨_, _, _, _, rfl⟩ HB.out (by rw [HGB.out]; exact Nat.le_refl _) (.int .i64 0) (.int .i64 0) (.string ⟨#[]⟩) (.int .i64 0)
          refine bodyPost_ret (results_ct rfl _ _ gb 32 #[.int .i64 0, .int .i64 0, .string ⟨#[]⟩, .int .i64 0] (0, 0) _ rfl hp.1 Try.underlying32 rfl (by kernel_rfl)) rfl ⟨?_, hp.2⟩
          rw [HT.out]
          rfl
        | some x =>
          rw [hs] at ht
          have HT := Aside0.mk ht
          have HSG : Aside0 (toB (signR s.toList) = toB x) := Aside0.mk (by unfold signR; rw [hs])
          have hxl := (sign_len (signS_some hs).1).1
          have hne : (toB x).toList.isEmpty = false := by rw [toB_list]; cases x with | nil => simp at hxl | cons _ _ => rfl
          have hne2 : ((toB x).toList == []) = false := by rw [toB_list]; cases x with | nil => simp at hxl | cons _ _ => rfl
          have hne3 : ¬ ((toB x).toList = []) := by rw [toB_list]; cases x with | nil => simp at hxl | cons _ _ => simp
          clear ht hs hxl
          go_upto_region 20 with (first | (go_at_call 35; with_reducible refine (letter_c c _).mono ?_; rintro e wn ⟨rfl, hk⟩; rw [HL.out]; replace HB := Aside0.mk (below_step HB.out hk); replace HX := Aside0.mk (blk_below HX.out hk); clear hk) | (go_at_call 26; with_reducible refine (digit_c c _).mono ?_; rintro e wn ⟨rfl, hk⟩; rw [HD.out]; replace HB := Aside0.mk (below_step HB.out hk); replace HX := Aside0.mk (blk_below HX.out hk); clear hk) | (go_at_call 37; with_reducible refine (sign_calls s _ HS.out.1).mono ?_; rintro e wn ⟨rfl, hk⟩; rw [HSG.out]; replace HB := Aside0.mk (below_step HB.out hk); replace HX := Aside0.mk (blk_below HX.out hk); clear hk))
          have fz := blk_frozen HX.out
          obtain ⟨z0, z1, z2, z3⟩ := cell4 HX.out
          go_wp2_with fail
          have hp := box_put HX.out ⟨_, _, _, _, rfl⟩ HB.out (by rw [HGB.out]; exact Nat.le_refl _) (.int .i64 4) (.int .i64 0) (.string (toB x)) (.int .i64 0)
          refine bodyPost_ret (results_ct rfl _ _ gb 32 #[.int .i64 4, .int .i64 0, .string (toB x), .int .i64 0] (0, 0) _ rfl hp.1 Try.underlying32 rfl (by kernel_rfl)) rfl ⟨?_, hp.2⟩
          rw [HT.out]
          rfl
end Go.Proofs.Ytikfgdkplgfiiaa.G
