/- The two Tokens. Each contract names its state. -/
import Derived.Test.YtikfgdkplgfiiaaNd
import Derived.Test.YtikfgdkplgfiiaaPg
set_option linter.unusedVariables false
set_option linter.unusedSimpArgs false
namespace Go.Proofs.Ytikfgdkplgfiiaa.G
open Go.RowKit Go.Proofs.Ytikfgdkplgfiiaa.B Go.Proofs.YtikfgdkplgfiiaaW.PrintWords Go.Proofs.YtikfgdkplgfiiaaW.PrintLast Go.Proofs.YtikfgdkplgfiiaaW.PrintMore

/-- A row of tokens of the call's own. -/
def RowT (W : World) (b : Nat) (v : Value) (l : List S32) : Prop := Kd.R k32 32 W b (fun _ => True) v l
theorem RowT.below {W W' : World} {b : Nat} {v : Value} {l : List S32} (h : RowT W b v l) (hb : Below W.heap.size W W') : RowT W' b v l := Kd.R_below h hb
theorem RowT.sl {W : World} {b : Nat} {v : Value} {l : List S32} (h : RowT W b v l) : ∃ A c, v = .slice A l.length c := Kd.R_slice h
theorem rblank_c {s : ByteArray} {a : Nat} (hs : s.size ≤ 20000) (ha : a ≤ s.size) (W : World) :
    Calls Try.prog 23 #[.string s, .int .i64 (a : Int)] W fun e w' => e = .returned (.tuple #[.int .i64 (blankR s.size (skip (s.toList.drop a))).1, .int .i64 (blankR s.size (skip (s.toList.drop a))).2]) ∧ Below W.heap.size W w' :=
  (crosstreeref01_Blank.calls 300000 s a _ _ W (blank_f s hs a ha 300000 (Nat.le_refl _))).mono fun e w' ⟨he, hd⟩ => ⟨he, hd.below⟩
theorem rtoken_c {s : ByteArray} (hs : s.size ≤ 20000) (h0 : 0 < s.size) (W : World) :
    Calls Try.prog 24 #[.string s] W fun e w' => e = .returned (tokV (tokS s.toList)) ∧ Below W.heap.size W w' :=
  crosstreeref01_token.calls 50000 s _ _ _ _ _ W (token_f s (by omega) h0 50000 (by omega))
theorem blank_at {s : ByteArray} {a : Nat} {W : World} (hs : s.size ≤ 20000) (hg : Glob W) :
    Calls Try.prog 21 #[.string (s.extract a s.size)] W fun e w' => e = .returned (.tuple #[.int .i64 (blankR (s.size - a) (skip (s.toList.drop a))).1, .int .i64 (blankR (s.size - a) (skip (s.toList.drop a))).2]) ∧ Below W.heap.size W w' := by
  have hz : (s.extract a s.size).size = s.size - a := by rw [← tl_len, tl_tail, List.length_drop, tl_len]
  have := blank_calls (s.extract a s.size) W (by omega) hg
  rw [hz, tl_tail] at this
  exact this
theorem token_at {s : ByteArray} {b : Nat} {c : UInt8} {t : L8} (hs : s.size ≤ 20000) (hb : s.toList.drop b = c :: t) (W : World) :
    Calls Try.prog 22 #[.string (s.extract b s.size)] W fun e w' => e = .returned (tokV (tokS (c :: t))) ∧ Below W.heap.size W w' := by
  have hz : (s.extract b s.size).size = s.size - b := by rw [← tl_len, tl_tail, List.length_drop, tl_len]
  have hlt := (bt_drop hb).2.1
  have := token_calls (s.extract b s.size) W (by omega) (by omega)
  rw [tl_tail, hb] at this
  exact this
theorem rtoken_at {s : ByteArray} {b : Nat} {c : UInt8} {t : L8} (hs : s.size ≤ 20000) (hb : s.toList.drop b = c :: t) (W : World) :
    Calls Try.prog 24 #[.string (s.extract b s.size)] W fun e w' => e = .returned (tokV (tokS (c :: t))) ∧ Below W.heap.size W w' := by
  have hz : (s.extract b s.size).size = s.size - b := by rw [← tl_len, tl_tail, List.length_drop, tl_len]
  have hlt := (bt_drop hb).2.1
  have := rtoken_c (s := s.extract b s.size) (by omega) (by omega) W
  rw [tl_tail, hb] at this
  exact this
/-- What both tell. -/
def ToksOf (w W : World) (e : Ending) (l : L8) : Prop := ∃ A c, e = .returned (.tuple #[.slice A (lexS l).1.length c, .int .i64 (lexS l).2.1, .int .i64 (lexS l).2.2]) ∧ RowT W w.heap.size (.slice A (lexS l).1.length c) (lexS l).1 ∧ Below w.heap.size w W
set_option maxRecDepth 100000 in
set_option maxHeartbeats 8000000 in
theorem tokens_calls (s : ByteArray) (w : World) (hg : Glob w) :
    Calls Try.prog 12 #[.string s] w fun e w' => ToksOf w w' e s.toList := by
  by_cases hbig : 20000 < s.size
  · have hl : lexS s.toList = ([], 0, 5) := by unfold lexS; rw [tl_len, if_pos hbig]
    have HL := Aside0.mk hl
    have hbi : (20000 : Int) < (s.size : Int) := by omega
    clear hl hbig hg
    go_enter Try.func12, Try.ntmps12
    go_wp2_with fail
    refine bodyPost_ret (v := .tuple #[.slice none 0 0, .int .i64 0, .int .i64 5]) (by simp [results, Try.results12, go_sem]) rfl ?_
    refine ⟨none, 0, ?_, ?_, Below.refl _ _⟩
    · rw [HL.out]; rfl
    · rw [HL.out]; exact Kd.R_nil _ _ _ _ _
  · have h20 : s.size ≤ 20000 := by omega
    have hl : lexS s.toList = lexA s.size [] s.toList := by rw [lexS_A (by rw [tl_len]; exact hbig), tl_len]
    have HL := Aside0.mk hl
    have HS := Aside0.mk (And.intro h20 hg)
    clear hl hbig hg
    go_enter Try.func12, Try.ntmps12
    go_upto_block 0 with (fail)
    go_wp2_with fail
    go_loopw [6, 5] (fun av lv wx => ∃ (a : Nat) (A : Option Addr) (c : Nat) (acc : List S32), a ≤ s.size ∧ av = .int .i64 (a : Int) ∧ lv = .slice A acc.length c ∧ acc.length ≤ a ∧ Hid (RowT wx w.heap.size lv acc) ∧ Hid (lexA s.size acc (s.toList.drop a) = lexS s.toList) ∧ Hid (Below w.heap.size w wx)) (fun av _ _ => s.size - (intOf av).toNat)
    case atStart => exact ⟨0, none, 0, [], Nat.zero_le _, rfl, rfl, Nat.zero_le _, Kd.R_nil _ _ _ _ _, HL.out.symm, Below.refl _ _⟩
    case round =>
      obtain ⟨a, A, c, acc, ha, rfl, rfl, hac, hR, hX, hB⟩ := hrel
      have HR : Aside0 (RowT wr w.heap.size (.slice A acc.length c) acc) := Aside0.mk hR
      have HX := Aside0.mk (show lexA s.size acc (s.toList.drop a) = lexS s.toList from hX)
      have HB : Aside0 (Below w.heap.size w wr) := Aside0.mk hB
      have HA := Aside0.mk ha
      have HAC := Aside0.mk hac
      have hai : (a : Int) ≤ (s.size : Int) := by omega
      have hai2 := eq_true hai
      have hs9 := HS.out.1
      clear hR hX hB hac
      cases hk : skip (s.toList.drop a) with
      | bad r =>
        obtain ⟨d1, d2, d3⟩ := suf_at (skip_suf (.inr hk)) ha
        have hl : lexS s.toList = ([], ((s.size - r.length : Nat) : Int), 2) := by rw [← HX.out]; exact lexA_bad hk
        have HLL := Aside0.mk hl
        obtain ⟨b, hb⟩ : ∃ b, s.size - r.length = b := ⟨_, rfl⟩
        have HBB := Aside0.mk hb
        have hv : blankR (s.size - a) (skip (s.toList.drop a)) = (-1, ((b : Int) - (a : Int))) := by rw [hk]; simp only [blankR]; congr 1; omega
        have HSK := Aside0.mk hv
        have hb9 : (b : Int) ≤ 20000 := by omega
        have hba : (a : Int) ≤ (b : Int) := by omega
        have hab : (a : Int) + ((b : Int) - (a : Int)) = (b : Int) := by omega
        clear hk d1 d2 d3 hl hb hv ha
        go_wp2_with (go_at_call 21; with_reducible refine (blank_at HS.out.1 (HS.out.2.below HB.out)).mono ?_; rintro e wn ⟨rfl, hk⟩; rw [HSK.out]; replace HB := Aside0.mk (below_step HB.out hk); replace HR := Aside0.mk (HR.out.below hk); clear hk)
        refine bodyPost_ret (v := .tuple #[.slice none 0 0, .int .i64 (b : Int), .int .i64 2]) (by simp [results, Try.results12, go_sem]) rfl ?_
        refine ⟨none, 0, ?_, ?_, HB.out⟩
        · rw [HLL.out, HBB.out]; rfl
        · rw [HLL.out]; exact Kd.R_nil _ _ _ _ _
      | ok r =>
        obtain ⟨d1, d2, d3⟩ := suf_at (skip_suf (.inl hk)) ha
        obtain ⟨b, hb⟩ : ∃ b, s.size - r.length = b := ⟨_, rfl⟩
        rw [hb] at d1 d2
        have hv : blankR (s.size - a) (skip (s.toList.drop a)) = ((b : Int) - (a : Int), 0) := by rw [hk]; simp only [blankR]; congr 1; omega
        have HSK := Aside0.mk hv
        have hb9 : (b : Int) ≤ 20000 := by omega
        have hba : (a : Int) ≤ (b : Int) := by omega
        have hab : (a : Int) + ((b : Int) - (a : Int)) = (b : Int) := by omega
        have hbs : (b : Int) ≤ (s.size : Int) := by omega
        have hbs2 := eq_true hbs
        have hb0 : (0 : Int) ≤ (b : Int) := by omega
        cases r with
        | nil =>
          have hl : lexS s.toList = (acc, 0, 0) := by rw [← HX.out]; exact lexA_end hk
          have HLL := Aside0.mk hl
          have hbe : b = s.size := by rw [← hb]; simp
          have hbq : ((b : Int) == (s.size : Int)) = true := beq_iff_eq.mpr (by omega)
          have hbg : (s.size : Int) ≤ (b : Int) := by omega
          clear hk d1 d2 d3 hl hb hv ha hbe
          go_wp2_with (go_at_call 21; with_reducible refine (blank_at HS.out.1 (HS.out.2.below HB.out)).mono ?_; rintro e wn ⟨rfl, hk⟩; rw [HSK.out]; replace HB := Aside0.mk (below_step HB.out hk); replace HR := Aside0.mk (HR.out.below hk); clear hk)
          refine bodyPost_ret (v := .tuple #[.slice A acc.length c, .int .i64 0, .int .i64 0]) (by simp [results, Try.results12, go_sem]) rfl ?_
          refine ⟨A, c, ?_, ?_, HB.out⟩
          · rw [HLL.out]; try rfl
          · rw [HLL.out]; exact HR.out
        | cons ch t =>
          have hlen := congrArg List.length d1
          rw [List.length_drop, tl_len, List.length_cons] at hlen
          have hbl : b < s.size := by omega
          have hbq : ((b : Int) == (s.size : Int)) = false := beq_eq_false_iff_ne.mpr (by omega)
          have hbg : (b : Int) < (s.size : Int) := by omega
          have HD := Aside0.mk d1
          have HLN := Aside0.mk (And.intro hlen (And.intro d2 hb))
          obtain ⟨T, hT⟩ : ∃ T, tokS (ch :: t) = T := ⟨_, rfl⟩
          have HTV : Aside0 (tokV (tokS (ch :: t)) = .tuple #[.agg #[.int .i64 (T.kind : Int), .int .i64 0, .string (toB T.text), .int .i64 (T.n : Int)], .int .i64 (T.err : Int)]) := Aside0.mk (by rw [hT]; rfl)
          by_cases he : T.err = 0
          · have HM := Aside0.mk (lexA_more (n := s.size) (acc := acc) hk (by rw [hT]; exact he))
            obtain ⟨t1, t2, t3⟩ := tok_text (l := ch :: t) (by rw [hT]; exact he)
            rw [hT] at t1 t2 t3
            have HTT := Aside0.mk (And.intro t1 (And.intro t2 hT))
            have heq : ((T.err : Int) == 0) = true := beq_iff_eq.mpr (by omega)
            have hen : ((T.err : Int) != 0) = false := by rw [bne, heq]; rfl
            have hnext : (b : Int) + (T.text.length : Int) ≤ 20000 := by have := t2; rw [List.length_cons] at this; omega
            have hsz : (toB T.text).size = T.text.length := toB_size _
            rw [he] at HTV
            clear hk d1 d2 d3 hb hv ha hlen hT t1 t2 t3 he heq hen hbl
            go_upto_region 15 with (first | (go_at_call 21; with_reducible refine (blank_at HS.out.1 (HS.out.2.below HB.out)).mono ?_; rintro e wn ⟨rfl, hk⟩; rw [HSK.out]; replace HB := Aside0.mk (below_step HB.out hk); replace HR := Aside0.mk (HR.out.below hk); clear hk) | (go_at_call 22; with_reducible refine (token_at HS.out.1 HD.out _).mono ?_; rintro e wm ⟨rfl, hk⟩; rw [HTV.out]; replace HB := Aside0.mk (below_step HB.out hk); replace HR := Aside0.mk (HR.out.below hk); clear hk))
            have HX9 := Aside0.mk (blk_new wm (.cells #[.int .i64 (T.kind : Int), .int .i64 (b : Int), .string (toB T.text), .int .i64 (T.n : Int)] 32))
            have HNR : Aside0 (some wm.heap.size ≠ (Value.slice A acc.length c).ownBlock) := Aside0.mk (fun hh => by have := Kd.R_lt HR.out _ hh.symm; omega)
            replace HR := Aside0.mk (HR.out.below (below_alloc (Below.refl _ _) (.cells #[.int .i64 (T.kind : Int), .int .i64 (b : Int), .string (toB T.text), .int .i64 (T.n : Int)] 32)))
            replace HB := Aside0.mk (below_alloc HB.out (.cells #[.int .i64 (T.kind : Int), .int .i64 (b : Int), .string (toB T.text), .int .i64 (T.n : Int)] 32))
            generalize wm.alloc (.cells #[.int .i64 (T.kind : Int), .int .i64 (b : Int), .string (toB T.text), .int .i64 (T.n : Int)] 32) = w9 at HX9 HR HB ⊢
            generalize wm.heap.size = g9 at HX9 HNR ⊢
            obtain ⟨z0, z1, z2, z3⟩ := cell4 HX9.out
            obtain ⟨S, hS⟩ : ∃ S, S = (⟨(T.kind : Int), (b : Int), toB T.text, (T.n : Int)⟩ : S32) := ⟨_, rfl⟩
            have HSS := Aside0.mk hS
            clear hS
            have hl40 : (acc.length + 1) * 40 ≤ 140737488355328 := by have := HAC.out; have := HA.out; omega
            go_wp2_with (at_builtin; refine Kd.R_append k32 (w0 := w) w.heap.size rfl _ _ 23 32 (.agg #[.int .i64 0, .int .i64 0, .string ⟨#[]⟩, .int .i64 0]) 40 rfl Try.underlying23 info32 rfl (by decide) (by decide) (.slice A acc.length c) acc ⟨(T.kind : Int), (b : Int), toB T.text, (T.n : Int)⟩ [.int .i64 (T.kind : Int), .int .i64 (b : Int), .string (toB T.text), .int .i64 (T.n : Int)] (fun _ => True) (fun _ => False) rfl rfl (k32_mkM _ _ _ _) (fun _ h => h.elim) (fun _ _ => trivial) HR.out HB.out HB.out.size hl40 ?_; intro v1 w1 hR1 hB1 hg1 hat1; rw [← HSS.out] at hR1; obtain ⟨A1, c1, rfl⟩ := Kd.R_slice hR1; have HX1 := Aside0.mk (blk_grown HX9.out hg1 HNR.out); obtain ⟨n1, hn1⟩ : ∃ n, n = (acc ++ [S]).length := ⟨_, rfl⟩; rw [← hn1] at hR1 ⊢; have HN1 := Aside0.mk hn1; have HR1 := Aside0.mk hR1; have HB1 := Aside0.mk hB1; clear z0 z1 z2 z3 hn1 hR1 hB1 hg1 hat1; obtain ⟨z0, z1, z2, z3⟩ := cell4 HX1.out)
            obtain ⟨hln, hd2, hbb⟩ := HLN.out
            obtain ⟨t1, t2, hT⟩ := HTT.out
            have hac := HAC.out
            have ha := HA.out
            rw [List.length_cons] at t2
            have HF : Aside0 (lexA s.size (acc ++ [S]) (s.toList.drop (b + T.text.length)) = lexS s.toList) := Aside0.mk (by
              rw [← HX.out, HM.out, hT]
              have e1 : atS32 s.size ⟨T, (ch :: t).length⟩ = S := by rw [HSS.out]; unfold atS32; rw [List.length_cons, ← hln, show s.size - (s.size - b) = b by omega]
              rw [e1, ← HD.out, List.drop_drop])
            go_roundw
            case rel => exact ⟨b + T.text.length, A1, c1, acc ++ [S], by omega, by go_num, by rw [← HN1.out], by rw [List.length_append, List.length_singleton]; omega, HR1.out, HF.out, HB1.out⟩
            case measure => simp [intOf]; omega
          · have hl : lexS s.toList = ([], (b : Int), (T.err : Int)) := by rw [← HX.out, lexA_err hk (by rw [hT]; exact he), hT, hb]
            have HLL := Aside0.mk hl
            have heq : ((T.err : Int) == 0) = false := beq_eq_false_iff_ne.mpr (by omega)
            have hen : ((T.err : Int) != 0) = true := by rw [bne, heq]; rfl
            clear hk d1 d2 d3 hl hb hv ha hlen hT he hbl
            go_wp2_with (first | (go_at_call 21; with_reducible refine (blank_at HS.out.1 (HS.out.2.below HB.out)).mono ?_; rintro e wn ⟨rfl, hk⟩; rw [HSK.out]; replace HB := Aside0.mk (below_step HB.out hk); replace HR := Aside0.mk (HR.out.below hk); clear hk) | (go_at_call 22; with_reducible refine (token_at HS.out.1 HD.out _).mono ?_; rintro e wm ⟨rfl, hk⟩; rw [HTV.out]; replace HB := Aside0.mk (below_step HB.out hk); replace HR := Aside0.mk (HR.out.below hk); clear hk))
            refine bodyPost_ret (v := .tuple #[.slice none 0 0, .int .i64 (b : Int), .int .i64 (T.err : Int)]) (by simp [results, Try.results12, go_sem]) rfl ?_
            refine ⟨none, 0, ?_, ?_, by first | exact HB.out | exact below_alloc HB.out _⟩
            · rw [HLL.out]; try rfl
            · rw [HLL.out]; exact Kd.R_nil _ _ _ _ _
set_option maxRecDepth 100000 in
set_option maxHeartbeats 8000000 in
theorem rtokens_calls (s : ByteArray) (w : World) :
    Calls Try.prog 13 #[.string s] w fun e w' => ToksOf w w' e s.toList := by
  by_cases hbig : 20000 < s.size
  · have hl : lexS s.toList = ([], 0, 5) := by unfold lexS; rw [tl_len, if_pos hbig]
    have HL := Aside0.mk hl
    have hbi : (20000 : Int) < (s.size : Int) := by omega
    clear hl hbig
    go_enter Try.func13, Try.ntmps13
    go_wp2_with fail
    refine bodyPost_ret (v := .tuple #[.slice none 0 0, .int .i64 0, .int .i64 5]) (by simp [results, Try.results13, go_sem]) rfl ?_
    refine ⟨none, 0, ?_, ?_, Below.refl _ _⟩
    · rw [HL.out]; rfl
    · rw [HL.out]; exact Kd.R_nil _ _ _ _ _
  · have h20 : s.size ≤ 20000 := by omega
    have hl : lexS s.toList = lexA s.size [] s.toList := by rw [lexS_A (by rw [tl_len]; exact hbig), tl_len]
    have HL := Aside0.mk hl
    have HS := Aside0.mk (And.intro h20 True.intro)
    clear hl hbig
    go_enter Try.func13, Try.ntmps13
    go_upto_block 0 with (fail)
    go_wp2_with fail
    go_loopw [6, 5] (fun av lv wx => ∃ (a : Nat) (A : Option Addr) (c : Nat) (acc : List S32), a ≤ s.size ∧ av = .int .i64 (a : Int) ∧ lv = .slice A acc.length c ∧ acc.length ≤ a ∧ Hid (RowT wx w.heap.size lv acc) ∧ Hid (lexA s.size acc (s.toList.drop a) = lexS s.toList) ∧ Hid (Below w.heap.size w wx)) (fun av _ _ => s.size - (intOf av).toNat)
    case atStart => exact ⟨0, none, 0, [], Nat.zero_le _, rfl, rfl, Nat.zero_le _, Kd.R_nil _ _ _ _ _, HL.out.symm, Below.refl _ _⟩
    case round =>
      obtain ⟨a, A, c, acc, ha, rfl, rfl, hac, hR, hX, hB⟩ := hrel
      have HR : Aside0 (RowT wr w.heap.size (.slice A acc.length c) acc) := Aside0.mk hR
      have HX := Aside0.mk (show lexA s.size acc (s.toList.drop a) = lexS s.toList from hX)
      have HB : Aside0 (Below w.heap.size w wr) := Aside0.mk hB
      have HA := Aside0.mk ha
      have HAC := Aside0.mk hac
      have hai : (a : Int) ≤ (s.size : Int) := by omega
      have hai2 := eq_true hai
      have hs9 := HS.out.1
      clear hR hX hB hac
      cases hk : skip (s.toList.drop a) with
      | bad r =>
        obtain ⟨d1, d2, d3⟩ := suf_at (skip_suf (.inr hk)) ha
        have hl : lexS s.toList = ([], ((s.size - r.length : Nat) : Int), 2) := by rw [← HX.out]; exact lexA_bad hk
        have HLL := Aside0.mk hl
        obtain ⟨b, hb⟩ : ∃ b, s.size - r.length = b := ⟨_, rfl⟩
        have HBB := Aside0.mk hb
        have hv : blankR s.size (skip (s.toList.drop a)) = (-1, ((b : Int))) := by rw [hk]; simp only [blankR]; congr 1; omega
        have HSK := Aside0.mk hv
        have hb9 : (b : Int) ≤ 20000 := by omega
        have hba : (a : Int) ≤ (b : Int) := by omega
        have hab : (a : Int) + ((b : Int) - (a : Int)) = (b : Int) := by omega
        clear hk d1 d2 d3 hl hb hv ha
        go_wp2_with (go_at_call 23; with_reducible refine (rblank_c HS.out.1 HA.out _).mono ?_; rintro e wn ⟨rfl, hk⟩; rw [HSK.out]; replace HB := Aside0.mk (below_step HB.out hk); replace HR := Aside0.mk (HR.out.below hk); clear hk)
        refine bodyPost_ret (v := .tuple #[.slice none 0 0, .int .i64 (b : Int), .int .i64 2]) (by simp [results, Try.results13, go_sem]) rfl ?_
        refine ⟨none, 0, ?_, ?_, HB.out⟩
        · rw [HLL.out, HBB.out]; rfl
        · rw [HLL.out]; exact Kd.R_nil _ _ _ _ _
      | ok r =>
        obtain ⟨d1, d2, d3⟩ := suf_at (skip_suf (.inl hk)) ha
        obtain ⟨b, hb⟩ : ∃ b, s.size - r.length = b := ⟨_, rfl⟩
        rw [hb] at d1 d2
        have hv : blankR s.size (skip (s.toList.drop a)) = ((b : Int), 0) := by rw [hk]; simp only [blankR]; congr 1; omega
        have HSK := Aside0.mk hv
        have hb9 : (b : Int) ≤ 20000 := by omega
        have hba : (a : Int) ≤ (b : Int) := by omega
        have hab : (a : Int) + ((b : Int) - (a : Int)) = (b : Int) := by omega
        have hbs : (b : Int) ≤ (s.size : Int) := by omega
        have hbs2 := eq_true hbs
        have hb0 : (0 : Int) ≤ (b : Int) := by omega
        cases r with
        | nil =>
          have hl : lexS s.toList = (acc, 0, 0) := by rw [← HX.out]; exact lexA_end hk
          have HLL := Aside0.mk hl
          have hbe : b = s.size := by rw [← hb]; simp
          have hbq : ((b : Int) == (s.size : Int)) = true := beq_iff_eq.mpr (by omega)
          have hbg : (s.size : Int) ≤ (b : Int) := by omega
          clear hk d1 d2 d3 hl hb hv ha hbe
          go_wp2_with (go_at_call 23; with_reducible refine (rblank_c HS.out.1 HA.out _).mono ?_; rintro e wn ⟨rfl, hk⟩; rw [HSK.out]; replace HB := Aside0.mk (below_step HB.out hk); replace HR := Aside0.mk (HR.out.below hk); clear hk)
          refine bodyPost_ret (v := .tuple #[.slice A acc.length c, .int .i64 0, .int .i64 0]) (by simp [results, Try.results13, go_sem]) rfl ?_
          refine ⟨A, c, ?_, ?_, HB.out⟩
          · rw [HLL.out]; try rfl
          · rw [HLL.out]; exact HR.out
        | cons ch t =>
          have hlen := congrArg List.length d1
          rw [List.length_drop, tl_len, List.length_cons] at hlen
          have hbl : b < s.size := by omega
          have hbq : ((b : Int) == (s.size : Int)) = false := beq_eq_false_iff_ne.mpr (by omega)
          have hbg : (b : Int) < (s.size : Int) := by omega
          have HD := Aside0.mk d1
          have HLN := Aside0.mk (And.intro hlen (And.intro d2 hb))
          obtain ⟨T, hT⟩ : ∃ T, tokS (ch :: t) = T := ⟨_, rfl⟩
          have HTV : Aside0 (tokV (tokS (ch :: t)) = .tuple #[.agg #[.int .i64 (T.kind : Int), .int .i64 0, .string (toB T.text), .int .i64 (T.n : Int)], .int .i64 (T.err : Int)]) := Aside0.mk (by rw [hT]; rfl)
          by_cases he : T.err = 0
          · have HM := Aside0.mk (lexA_more (n := s.size) (acc := acc) hk (by rw [hT]; exact he))
            obtain ⟨t1, t2, t3⟩ := tok_text (l := ch :: t) (by rw [hT]; exact he)
            rw [hT] at t1 t2 t3
            have HTT := Aside0.mk (And.intro t1 (And.intro t2 hT))
            have heq : ((T.err : Int) == 0) = true := beq_iff_eq.mpr (by omega)
            have hen : ((T.err : Int) != 0) = false := by rw [bne, heq]; rfl
            have hnext : (b : Int) + (T.text.length : Int) ≤ 20000 := by have := t2; rw [List.length_cons] at this; omega
            have hsz : (toB T.text).size = T.text.length := toB_size _
            rw [he] at HTV
            clear hk d1 d2 d3 hb hv ha hlen hT t1 t2 t3 he heq hen hbl
            go_upto_region 15 with (first | (go_at_call 23; with_reducible refine (rblank_c HS.out.1 HA.out _).mono ?_; rintro e wn ⟨rfl, hk⟩; rw [HSK.out]; replace HB := Aside0.mk (below_step HB.out hk); replace HR := Aside0.mk (HR.out.below hk); clear hk) | (go_at_call 24; with_reducible refine (rtoken_at HS.out.1 HD.out _).mono ?_; rintro e wm ⟨rfl, hk⟩; rw [HTV.out]; replace HB := Aside0.mk (below_step HB.out hk); replace HR := Aside0.mk (HR.out.below hk); clear hk))
            have HX9 := Aside0.mk (blk_new wm (.cells #[.int .i64 (T.kind : Int), .int .i64 (b : Int), .string (toB T.text), .int .i64 (T.n : Int)] 32))
            have HNR : Aside0 (some wm.heap.size ≠ (Value.slice A acc.length c).ownBlock) := Aside0.mk (fun hh => by have := Kd.R_lt HR.out _ hh.symm; omega)
            replace HR := Aside0.mk (HR.out.below (below_alloc (Below.refl _ _) (.cells #[.int .i64 (T.kind : Int), .int .i64 (b : Int), .string (toB T.text), .int .i64 (T.n : Int)] 32)))
            replace HB := Aside0.mk (below_alloc HB.out (.cells #[.int .i64 (T.kind : Int), .int .i64 (b : Int), .string (toB T.text), .int .i64 (T.n : Int)] 32))
            generalize wm.alloc (.cells #[.int .i64 (T.kind : Int), .int .i64 (b : Int), .string (toB T.text), .int .i64 (T.n : Int)] 32) = w9 at HX9 HR HB ⊢
            generalize wm.heap.size = g9 at HX9 HNR ⊢
            obtain ⟨z0, z1, z2, z3⟩ := cell4 HX9.out
            obtain ⟨S, hS⟩ : ∃ S, S = (⟨(T.kind : Int), (b : Int), toB T.text, (T.n : Int)⟩ : S32) := ⟨_, rfl⟩
            have HSS := Aside0.mk hS
            clear hS
            have hl40 : (acc.length + 1) * 40 ≤ 140737488355328 := by have := HAC.out; have := HA.out; omega
            go_wp2_with (at_builtin; refine Kd.R_append k32 (w0 := w) w.heap.size rfl _ _ 23 32 (.agg #[.int .i64 0, .int .i64 0, .string ⟨#[]⟩, .int .i64 0]) 40 rfl Try.underlying23 info32 rfl (by decide) (by decide) (.slice A acc.length c) acc ⟨(T.kind : Int), (b : Int), toB T.text, (T.n : Int)⟩ [.int .i64 (T.kind : Int), .int .i64 (b : Int), .string (toB T.text), .int .i64 (T.n : Int)] (fun _ => True) (fun _ => False) rfl rfl (k32_mkM _ _ _ _) (fun _ h => h.elim) (fun _ _ => trivial) HR.out HB.out HB.out.size hl40 ?_; intro v1 w1 hR1 hB1 hg1 hat1; rw [← HSS.out] at hR1; obtain ⟨A1, c1, rfl⟩ := Kd.R_slice hR1; have HX1 := Aside0.mk (blk_grown HX9.out hg1 HNR.out); obtain ⟨n1, hn1⟩ : ∃ n, n = (acc ++ [S]).length := ⟨_, rfl⟩; rw [← hn1] at hR1 ⊢; have HN1 := Aside0.mk hn1; have HR1 := Aside0.mk hR1; have HB1 := Aside0.mk hB1; clear z0 z1 z2 z3 hn1 hR1 hB1 hg1 hat1; obtain ⟨z0, z1, z2, z3⟩ := cell4 HX1.out)
            obtain ⟨hln, hd2, hbb⟩ := HLN.out
            obtain ⟨t1, t2, hT⟩ := HTT.out
            have hac := HAC.out
            have ha := HA.out
            rw [List.length_cons] at t2
            have HF : Aside0 (lexA s.size (acc ++ [S]) (s.toList.drop (b + T.text.length)) = lexS s.toList) := Aside0.mk (by
              rw [← HX.out, HM.out, hT]
              have e1 : atS32 s.size ⟨T, (ch :: t).length⟩ = S := by rw [HSS.out]; unfold atS32; rw [List.length_cons, ← hln, show s.size - (s.size - b) = b by omega]
              rw [e1, ← HD.out, List.drop_drop])
            go_roundw
            case rel => exact ⟨b + T.text.length, A1, c1, acc ++ [S], by omega, by go_num, by rw [← HN1.out], by rw [List.length_append, List.length_singleton]; omega, HR1.out, HF.out, HB1.out⟩
            case measure => simp [intOf]; omega
          · have hl : lexS s.toList = ([], (b : Int), (T.err : Int)) := by rw [← HX.out, lexA_err hk (by rw [hT]; exact he), hT, hb]
            have HLL := Aside0.mk hl
            have heq : ((T.err : Int) == 0) = false := beq_eq_false_iff_ne.mpr (by omega)
            have hen : ((T.err : Int) != 0) = true := by rw [bne, heq]; rfl
            clear hk d1 d2 d3 hl hb hv ha hlen hT he hbl
            go_wp2_with (first | (go_at_call 23; with_reducible refine (rblank_c HS.out.1 HA.out _).mono ?_; rintro e wn ⟨rfl, hk⟩; rw [HSK.out]; replace HB := Aside0.mk (below_step HB.out hk); replace HR := Aside0.mk (HR.out.below hk); clear hk) | (go_at_call 24; with_reducible refine (rtoken_at HS.out.1 HD.out _).mono ?_; rintro e wm ⟨rfl, hk⟩; rw [HTV.out]; replace HB := Aside0.mk (below_step HB.out hk); replace HR := Aside0.mk (HR.out.below hk); clear hk))
            refine bodyPost_ret (v := .tuple #[.slice none 0 0, .int .i64 (b : Int), .int .i64 (T.err : Int)]) (by simp [results, Try.results13, go_sem]) rfl ?_
            refine ⟨none, 0, ?_, ?_, by first | exact HB.out | exact below_alloc HB.out _⟩
            · rw [HLL.out]; try rfl
            · rw [HLL.out]; exact Kd.R_nil _ _ _ _ _
end Go.Proofs.Ytikfgdkplgfiiaa.G
