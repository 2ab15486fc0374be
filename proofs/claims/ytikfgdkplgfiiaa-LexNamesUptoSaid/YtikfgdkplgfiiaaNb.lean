/- lex.figure. Each contract names its state. -/
import Derived.Test.YtikfgdkplgfiiaaNa
import Derived.Lib.ConvBytes
set_option linter.unusedVariables false
set_option linter.unusedSimpArgs false
namespace Go.Proofs.Ytikfgdkplgfiiaa.G
open Go.RowKit Go.Proofs.Ytikfgdkplgfiiaa.B Go.Proofs.YtikfgdkplgfiiaaW.PrintWords Go.Proofs.YtikfgdkplgfiiaaW.PrintLast Go.Proofs.YtikfgdkplgfiiaaW.PrintMore

theorem bytes_below (w : World) (e : TypeId) (s : ByteArray) : Below w.heap.size w (Lib.bytesWorld w e s) :=
  ⟨rfl, rfl, rfl, by rw [Lib.bytesWorld_size]; omega, fun i hi => Lib.bytesWorld_at_old w e s i hi⟩
/-- A row of bytes that is read. -/
def RdB (W : World) (g : Nat) (l : L8) : Prop := ∀ (j : Nat) (c : UInt8), l[j]? = some c → W.cell? ⟨g, j, none⟩ = some (.int .u8 (c.toNat : Int))
theorem RdB.below {W W' : World} {g : Nat} {l : L8} (h : RdB W g l) (hb : Below W.heap.size W W') : RdB W' g l := fun j c hc =>
  (hb.cell (p := ⟨g, j, none⟩) (World.block_lt_of_cell? _ _ (h j c hc))).trans (h j c hc)
theorem bytes_rd (w : World) (s : ByteArray) : RdB (Lib.bytesWorld w 5 s) w.heap.size s.toList := fun j c hc => by
  have hj : j < s.size := by rw [← tl_len]; exact (List.getElem?_eq_some_iff.1 hc).1
  rw [Lib.bytesWorld_cell w 5 s j hj, ← bytes_toList, List.getD_eq_getElem?_getD, hc]
  rfl
theorem valS_snoc {base : Nat} {l : L8} {j : Nat} {c : UInt8} (h : l[j]? = some c) : valS base 0 (l.take (j + 1)) = valS base 0 (l.take j) * base + worthS c := by
  rw [List.take_add_one, h]
  unfold valS
  rw [List.foldl_append]
  rfl
theorem valS_take_le {base : Nat} (hb : 1 ≤ base) (l : L8) (j : Nat) : valS base 0 (l.take j) ≤ valS base 0 l := by
  have h : valS base 0 l = valS base (valS base 0 (l.take j)) (l.drop j) := by
    conv => lhs; rw [← List.take_append_drop j l]
    unfold valS
    rw [List.foldl_append]
  rw [h]
  exact valS_ge hb _ _
theorem any_at {base : Nat} {l : L8} {j : Nat} {c : UInt8} (h : l[j]? = some c) (hb : base ≤ worthS c) : l.any (fun c => decide (base ≤ worthS c)) = true := by
  rw [List.any_eq_true]
  exact ⟨c, List.mem_of_getElem? h, by simpa using hb⟩
theorem any_take {base : Nat} {l : L8} {j : Nat} {c : UInt8} (h : l[j]? = some c) (hb : ¬ base ≤ worthS c) (ha : (l.take j).any (fun c => decide (base ≤ worthS c)) = false) : (l.take (j + 1)).any (fun c => decide (base ≤ worthS c)) = false := by
  rw [List.take_add_one, h, List.any_append, ha]
  simp [hb]
theorem worth_c (c : UInt8) (W : World) : Calls Try.prog 49 #[.int .u8 (c.toNat : Int)] W fun e w' => e = .returned (.int .i64 (worthS c : Int)) ∧ Below W.heap.size W w' :=
  (lex_worth.calls _ _ W (lworth_f c)).mono fun e w' ⟨he, hd⟩ => ⟨he, hd.below⟩
theorem wordly_c (s : ByteArray) (hs : s.size ≤ 20000) (W : World) : Calls Try.prog 25 #[.string s] W fun e w' => e = .returned (.int .i64 (wordLen s.toList : Int)) ∧ Below W.heap.size W w' :=
  (lex_wordly.calls 30000 s _ W (wordly_f s (by omega) 30000 (by omega))).mono fun e w' ⟨he, hd⟩ => ⟨he, hd.below⟩
set_option maxRecDepth 100000 in
set_option maxHeartbeats 8000000 in
theorem figureHex (s : ByteArray) (w : World) (hs : s.size ≤ 20000) (h0 : 0 < s.size) (hx : hexS s.toList = true) :
    Calls Try.prog 36 #[.string s] w fun e w' => e = .returned (.tuple #[.int .i64 ((numS s.toList).1 : Int), .int .i64 ((numS s.toList).2.1 : Int), .int .i64 ((numS s.toList).2.2 : Int)]) ∧ Below w.heap.size w w' := by
  have HN := Aside0.mk (numS_eq s.toList)
  have hf := from_le s.toList
  have hwl := wordLen_le s.toList
  rw [tl_len] at hwl
  have hdt := digs_take s.toList
  rw [hx] at HN hf hdt
  obtain ⟨a, ha⟩ : ∃ a, wordLen s.toList = a := ⟨_, rfl⟩
  have HX := Aside0.mk (And.intro hx (And.intro hs h0))
  have HHX : Aside0 (begins 48 120 s.toList = true) := Aside0.mk hx
  have HDT : Aside0 ((s.extract 2 a).toList = digsS s.toList) := Aside0.mk (by rw [tl_extract, hdt, ← ha]; rfl)
  rw [ha] at HN hf hwl
  have HAA := Aside0.mk ha
  have hf2 : 2 ≤ a := hf
  have hf3 : (2 : Int) ≤ (a : Int) := by omega
  have hf4 : (a : Int) ≤ (s.size : Int) := by omega
  have hf5 := eq_true hf3
  have hf6 := eq_true hf4
  have hsz : (digsS s.toList).length = a - 2 := by rw [← HDT.out, tl_len, ByteArray.size_extract]; omega
  have HSZ := Aside0.mk hsz
  generalize digsS s.toList = ds at HN HDT HSZ
  have HNA : Aside0 (ds.any (fun c => decide ((16 : Nat) ≤ worthS c)) = true → numS s.toList = (0, 0, 2)) := Aside0.mk (fun h => HN.out.trans (if_pos h))
  have hng : ds.any (fun c => decide ((16 : Nat) ≤ worthS c)) = false → numS s.toList = if (a = 2 ∨ 18 < a) then (0, 0, 2) else if 9223372036854775807 < valS 16 0 ds then (0, 0, 5) else (valS 16 0 ds, a, 0) := fun h => by
    refine (HN.out.trans (if_neg (fun hh => Bool.false_ne_true (h.symm.trans hh)))).trans ?_
    by_cases hc : (a = 2 ∨ 18 < a)
    · rw [if_pos hc]
      exact if_pos (hc.elim .inl (fun h => .inr (.inl ⟨rfl, h⟩)))
    · rw [if_neg hc]
      exact if_neg (fun hh => hc (hh.elim .inl (fun h => h.elim (fun h => .inr h.2) (fun h => absurd h.1 (by simp)))))
  have HNG := Aside0.mk hng
  clear hng HN
  have hmin : min a s.size = a := Nat.min_eq_left hwl
  have kc := fun (w : World) (s : ByteArray) => Lib.run_convert_string_bytes (P := Try.prog) w 9 62 5 s Try.underlying9 Try.underlying62 Try.underlying5
  clear hs h0 hx hwl hdt ha hf3 hf4 hsz hf
  go_enter Try.func36, Try.ntmps36
  go_upto_block 0 with (first | (go_at_call 25; with_reducible refine (wordly_c s HX.out.2.1 _).mono ?_; rintro e wn ⟨rfl, hk⟩; rw [HAA.out]; have HB := Aside0.mk hk; clear hk) | (go_at_call 33; with_reducible refine (pre_two 48 120 (s := s) _ rfl).mono ?_; rintro e wm ⟨rfl, hk⟩; rw [HHX.out]; replace HB := Aside0.mk (below_step HB.out hk); clear hk))
  have HR := Aside0.mk (bytes_rd wm (s.extract 2 a))
  rw [HDT.out] at HR
  replace HB := Aside0.mk (below_step HB.out (bytes_below wm 5 (s.extract 2 a)))
  generalize Lib.bytesWorld wm 5 (s.extract 2 a) = wb at HR HB ⊢
  generalize wm.heap.size = gb at HR ⊢
  clear kc
  go_wp2_with fail
  go_loopw [23, 8, 9] (fun iv nv ev wx => ∃ (j : Nat) (n e : Int), j ≤ a - 2 ∧ iv = .int .i64 (j : Int) ∧ nv = .int .i64 n ∧ ev = .int .i64 e ∧ Hid ((ds.take j).any (fun c => decide ((16 : Nat) ≤ worthS c)) = false) ∧ Hid ((valS 16 0 (ds.take j) ≤ 9223372036854775807 ∧ n = (valS 16 0 (ds.take j) : Int) ∧ e = 0) ∨ (9223372036854775807 < valS 16 0 (ds.take j) ∧ e = 5)) ∧ Hid (Below w.heap.size w wx) ∧ Hid (RdB wx gb ds)) (fun iv _ _ _ => a - (intOf iv).toNat)
  case atStart => exact ⟨0, 0, 0, Nat.zero_le _, rfl, rfl, rfl, rfl, .inl ⟨Nat.zero_le _, rfl, rfl⟩, HB.out, HR.out⟩
  case round =>
    clear HB HR
    obtain ⟨j, n, e, hj, rfl, rfl, rfl, hany, hst, hB, hR⟩ := hrel
    have HA := Aside0.mk (show (ds.take j).any (fun c => decide ((16 : Nat) ≤ worthS c)) = false from hany)
    have HST := Aside0.mk (show (valS 16 0 (ds.take j) ≤ 9223372036854775807 ∧ n = (valS 16 0 (ds.take j) : Int) ∧ e = 0) ∨ (9223372036854775807 < valS 16 0 (ds.take j) ∧ e = 5) from hst)
    have HB : Aside0 (Below w.heap.size w wr) := Aside0.mk hB
    have HR : Aside0 (RdB wr gb ds) := Aside0.mk hR
    have hs9 := HX.out.2.1
    clear hany hst hB hR
    by_cases hlt : j < a - 2
    · obtain ⟨c, hc⟩ : ∃ c, ds[j]? = some c := ⟨_, List.getElem?_eq_getElem (by rw [HSZ.out]; exact hlt)⟩
      have hcell := HR.out j c hc
      have hv := valS_snoc (base := 16) hc
      have hwc := worth_le c
      have HC := Aside0.mk hc
      have h5 : (j : Int) < (a : Int) - 2 := by omega
      have h6 : (0 : Int) ≤ (worthS c : Int) := Int.natCast_nonneg _
      by_cases hbad : 16 ≤ worthS c
      · have HBAD := Aside0.mk (any_at hc hbad)
        have hbi : (16 : Int) ≤ (worthS c : Int) := by omega
        obtain ⟨q, hq⟩ : ∃ q : Int, (worthS c : Int) = q := ⟨_, rfl⟩
        have HQ := Aside0.mk hq
        rw [hq] at hbi h6
        clear hc hv hbad hq hwc
        go_wp2_with (go_at_call 49; with_reducible refine (worth_c c _).mono ?_; rintro e9 wn ⟨rfl, hk⟩; rw [HQ.out]; replace HB := Aside0.mk (below_step HB.out hk); replace HR := Aside0.mk (HR.out.below hk); clear hk)
        refine bodyPost_ret (v := .tuple #[.int .i64 0, .int .i64 0, .int .i64 2]) (by simp [results, Try.results36, go_sem]) rfl ⟨?_, HB.out⟩
        have hres : numS s.toList = (0, 0, 2) := HNA.out HBAD.out
        rw [hres]
        rfl
      · have HAN := Aside0.mk (any_take hc hbad HA.out)
        obtain ⟨q, hq⟩ : ∃ q : Int, (worthS c : Int) = q := ⟨_, rfl⟩
        have HQ := Aside0.mk hq
        have hbi : q < 16 := by omega
        rw [hq] at h6
        rcases HST.out with ⟨s1, s2, s3⟩ | ⟨s1, s2⟩
        · subst s2 s3
          have hnn : (0 : Int) ≤ (valS 16 0 (ds.take j) : Int) := Int.natCast_nonneg _
          obtain ⟨v, hvv⟩ : ∃ v : Int, (valS 16 0 (ds.take j) : Int) = v := ⟨_, rfl⟩
          rw [hvv] at hnn ⊢
          have hvn : (valS 16 0 (ds.take (j + 1)) : Int) = v * 16 + q := by rw [hv, ← hvv, ← hq]; omega
          have hv9 : v ≤ 9223372036854775807 := by omega
          have HVN := Aside0.mk hvn
          clear hc hv hbad hq hwc s1 HST hvv hvn
          by_cases hov : 9223372036854775807 < v * 16 + q
          · have htest : (9223372036854775807 - q) / 16 < v := by omega
            have HOV := Aside0.mk hov
            clear hov
            go_wp2_with (go_at_call 49; with_reducible refine (worth_c c _).mono ?_; rintro e9 wn ⟨rfl, hk⟩; rw [HQ.out]; replace HB := Aside0.mk (below_step HB.out hk); replace HR := Aside0.mk (HR.out.below hk); clear hk)
            have hov := HOV.out
            go_roundw
            case rel => exact ⟨j + 1, v, 5, by omega, by go_num, rfl, rfl, HAN.out, .inr ⟨by have := HVN.out; omega, rfl⟩, HB.out, HR.out⟩
            case measure => simp [intOf]; omega
          · have htest : v ≤ (9223372036854775807 - q) / 16 := by omega
            have hw1 : IntKind.i64.wrap (v * 16) = v * 16 := by rw [IntKind.wrap_i64]; omega
            have hw2 : IntKind.i64.wrap (v * 16 + q) = v * 16 + q := by rw [IntKind.wrap_i64]; omega
            go_wp2_with (go_at_call 49; with_reducible refine (worth_c c _).mono ?_; rintro e9 wn ⟨rfl, hk⟩; rw [HQ.out]; replace HB := Aside0.mk (below_step HB.out hk); replace HR := Aside0.mk (HR.out.below hk); clear hk)
            go_roundw
            case rel => exact ⟨j + 1, v * 16 + q, 0, by omega, by go_num, rfl, rfl, HAN.out, .inl ⟨by have := HVN.out; omega, by rw [HVN.out], rfl⟩, HB.out, HR.out⟩
            case measure => simp [intOf]; omega
        · subst s2
          have HVN : Aside0 (9223372036854775807 < valS 16 0 (ds.take (j + 1))) := Aside0.mk (by rw [hv]; omega)
          clear hc hv hbad hq hwc s1 HST
          by_cases htest : (9223372036854775807 - q) / 16 < n
          · go_wp2_with (go_at_call 49; with_reducible refine (worth_c c _).mono ?_; rintro e9 wn ⟨rfl, hk⟩; rw [HQ.out]; replace HB := Aside0.mk (below_step HB.out hk); replace HR := Aside0.mk (HR.out.below hk); clear hk)
            go_roundw
            case rel => exact ⟨j + 1, n, 5, by omega, by go_num, rfl, rfl, HAN.out, .inr ⟨HVN.out, rfl⟩, HB.out, HR.out⟩
            case measure => simp [intOf]; omega
          · replace htest : n ≤ (9223372036854775807 - q) / 16 := by omega
            go_wp2_with (go_at_call 49; with_reducible refine (worth_c c _).mono ?_; rintro e9 wn ⟨rfl, hk⟩; rw [HQ.out]; replace HB := Aside0.mk (below_step HB.out hk); replace HR := Aside0.mk (HR.out.below hk); clear hk)
            go_roundw
            case rel => exact ⟨j + 1, n, 5, by omega, by go_num, rfl, rfl, HAN.out, .inr ⟨HVN.out, rfl⟩, HB.out, HR.out⟩
            case measure => simp [intOf]; omega
    · have hje : j = a - 2 := by omega
      have hji : (j : Int) = (a : Int) - 2 := by omega
      have hta : ds.take j = ds := by rw [hje, ← HSZ.out, List.take_length]
      rw [hta] at HA HST
      have HN2 : Aside0 (numS s.toList = if (a = 2 ∨ 18 < a) then (0, 0, 2) else if 9223372036854775807 < valS 16 0 ds then (0, 0, 5) else (valS 16 0 ds, a, 0)) := Aside0.mk (HNG.out HA.out)
      clear hta hj hlt hje
      by_cases c1 : a = 2
      · have c1b : ((a : Int) == 2) = true := beq_iff_eq.mpr (by omega)
        have hres : numS s.toList = (0, 0, 2) := HN2.out.trans (if_pos (.inl c1))
        have HRS := Aside0.mk hres
        clear hres
        subst c1
        go_wp2_with fail
        refine bodyPost_ret (v := .tuple #[.int .i64 0, .int .i64 0, .int .i64 2]) (by simp [results, Try.results36, go_sem]) rfl ⟨?_, HB.out⟩
        rw [HRS.out]
        rfl
      · have c1b : ((a : Int) == 2) = false := beq_eq_false_iff_ne.mpr (by omega)
        by_cases c2 : 18 < a
        · have hres : numS s.toList = (0, 0, 2) := HN2.out.trans (if_pos (.inr c2))
          have HRS := Aside0.mk hres
          have c2b : (18 : Int) < (a : Int) := by omega
          clear hres c1
          go_wp2_with fail
          refine bodyPost_ret (v := .tuple #[.int .i64 0, .int .i64 0, .int .i64 2]) (by simp [results, Try.results36, go_sem]) rfl ⟨?_, HB.out⟩
          rw [HRS.out]
          rfl
        · have HN3 : Aside0 (numS s.toList = if 9223372036854775807 < valS 16 0 ds then (0, 0, 5) else (valS 16 0 ds, a, 0)) := Aside0.mk (HN2.out.trans (if_neg (by
            rintro (h | h)
            · exact c1 h
            · exact c2 h)))
          have c2b : (a : Int) ≤ 18 := by omega
          clear c1 c2
          rcases HST.out with ⟨s1, s2, s3⟩ | ⟨s1, s2⟩
          · subst s2 s3
            have hres : numS s.toList = (valS 16 0 ds, a, 0) := HN3.out.trans (if_neg (by omega))
            have HRS := Aside0.mk hres
            clear hres s1 HST
            go_wp2_with fail
            refine bodyPost_ret (v := .tuple #[.int .i64 (valS 16 0 ds : Int), .int .i64 (a : Int), .int .i64 0]) (by simp [results, Try.results36, go_sem]) rfl ⟨?_, HB.out⟩
            rw [HRS.out]
            rfl
          · subst s2
            have hres : numS s.toList = (0, 0, 5) := HN3.out.trans (if_pos s1)
            have HRS := Aside0.mk hres
            clear hres s1 HST
            go_wp2_with fail
            refine bodyPost_ret (v := .tuple #[.int .i64 0, .int .i64 0, .int .i64 5]) (by simp [results, Try.results36, go_sem]) rfl ⟨?_, HB.out⟩
            rw [HRS.out]
            rfl
set_option maxRecDepth 100000 in
set_option maxHeartbeats 8000000 in
theorem figureDec (s : ByteArray) (w : World) (hs : s.size ≤ 20000) (h0 : 0 < s.size) (hx : hexS s.toList = false) :
    Calls Try.prog 36 #[.string s] w fun e w' => e = .returned (.tuple #[.int .i64 ((numS s.toList).1 : Int), .int .i64 ((numS s.toList).2.1 : Int), .int .i64 ((numS s.toList).2.2 : Int)]) ∧ Below w.heap.size w w' := by
  have HN := Aside0.mk (numS_eq s.toList)
  have hf := from_le s.toList
  have hwl := wordLen_le s.toList
  rw [tl_len] at hwl
  have hdt := digs_take s.toList
  rw [hx] at HN hf hdt
  obtain ⟨a, ha⟩ : ∃ a, wordLen s.toList = a := ⟨_, rfl⟩
  have HX := Aside0.mk (And.intro hx (And.intro hs h0))
  have HHX : Aside0 (begins 48 120 s.toList = false) := Aside0.mk hx
  have HDT : Aside0 ((s.extract 0 a).toList = digsS s.toList) := Aside0.mk (by rw [tl_extract, hdt, ← ha]; rfl)
  rw [ha] at HN hf hwl
  have HAA := Aside0.mk ha
  have hf2 : 0 ≤ a := hf
  have hf3 : (0 : Int) ≤ (a : Int) := by omega
  have hf4 : (a : Int) ≤ (s.size : Int) := by omega
  have hf5 := eq_true hf3
  have hf6 := eq_true hf4
  have hsz : (digsS s.toList).length = a - 0 := by rw [← HDT.out, tl_len, ByteArray.size_extract]; omega
  have HSZ := Aside0.mk hsz
  generalize digsS s.toList = ds at HN HDT HSZ
  have HNA : Aside0 (ds.any (fun c => decide ((10 : Nat) ≤ worthS c)) = true → numS s.toList = (0, 0, 2)) := Aside0.mk (fun h => HN.out.trans (if_pos h))
  have hng : ds.any (fun c => decide ((10 : Nat) ≤ worthS c)) = false → numS s.toList = if (a = 0 ∨ (1 < a ∧ s.toList.head? = some 48)) then (0, 0, 2) else if 9223372036854775807 < valS 10 0 ds then (0, 0, 5) else (valS 10 0 ds, a, 0) := fun h => by
    refine (HN.out.trans (if_neg (fun hh => Bool.false_ne_true (h.symm.trans hh)))).trans ?_
    by_cases hc : (a = 0 ∨ (1 < a ∧ s.toList.head? = some 48))
    · rw [if_pos hc]
      exact if_pos (hc.elim .inl (fun h => .inr (.inr ⟨rfl, h⟩)))
    · rw [if_neg hc]
      exact if_neg (fun hh => hc (hh.elim .inl (fun h => h.elim (fun h => absurd h.1 (by simp)) (fun h => .inr h.2))))
  have HNG := Aside0.mk hng
  clear hng HN
  have hmin : min a s.size = a := Nat.min_eq_left hwl
  have kc := fun (w : World) (s : ByteArray) => Lib.run_convert_string_bytes (P := Try.prog) w 9 62 5 s Try.underlying9 Try.underlying62 Try.underlying5
  clear hs h0 hx hwl hdt ha hf3 hf4 hsz hf
  go_enter Try.func36, Try.ntmps36
  go_upto_block 0 with (first | (go_at_call 25; with_reducible refine (wordly_c s HX.out.2.1 _).mono ?_; rintro e wn ⟨rfl, hk⟩; rw [HAA.out]; have HB := Aside0.mk hk; clear hk) | (go_at_call 33; with_reducible refine (pre_two 48 120 (s := s) _ rfl).mono ?_; rintro e wm ⟨rfl, hk⟩; rw [HHX.out]; replace HB := Aside0.mk (below_step HB.out hk); clear hk))
  have HR := Aside0.mk (bytes_rd wm (s.extract 0 a))
  rw [HDT.out] at HR
  replace HB := Aside0.mk (below_step HB.out (bytes_below wm 5 (s.extract 0 a)))
  generalize Lib.bytesWorld wm 5 (s.extract 0 a) = wb at HR HB ⊢
  generalize wm.heap.size = gb at HR ⊢
  clear kc
  go_wp2_with fail
  go_loopw [23, 8, 9] (fun iv nv ev wx => ∃ (j : Nat) (n e : Int), j ≤ a - 0 ∧ iv = .int .i64 (j : Int) ∧ nv = .int .i64 n ∧ ev = .int .i64 e ∧ Hid ((ds.take j).any (fun c => decide ((10 : Nat) ≤ worthS c)) = false) ∧ Hid ((valS 10 0 (ds.take j) ≤ 9223372036854775807 ∧ n = (valS 10 0 (ds.take j) : Int) ∧ e = 0) ∨ (9223372036854775807 < valS 10 0 (ds.take j) ∧ e = 5)) ∧ Hid (Below w.heap.size w wx) ∧ Hid (RdB wx gb ds)) (fun iv _ _ _ => a - (intOf iv).toNat)
  case atStart => exact ⟨0, 0, 0, Nat.zero_le _, rfl, rfl, rfl, rfl, .inl ⟨Nat.zero_le _, rfl, rfl⟩, HB.out, HR.out⟩
  case round =>
    clear HB HR
    obtain ⟨j, n, e, hj, rfl, rfl, rfl, hany, hst, hB, hR⟩ := hrel
    have HA := Aside0.mk (show (ds.take j).any (fun c => decide ((10 : Nat) ≤ worthS c)) = false from hany)
    have HST := Aside0.mk (show (valS 10 0 (ds.take j) ≤ 9223372036854775807 ∧ n = (valS 10 0 (ds.take j) : Int) ∧ e = 0) ∨ (9223372036854775807 < valS 10 0 (ds.take j) ∧ e = 5) from hst)
    have HB : Aside0 (Below w.heap.size w wr) := Aside0.mk hB
    have HR : Aside0 (RdB wr gb ds) := Aside0.mk hR
    have hs9 := HX.out.2.1
    clear hany hst hB hR
    by_cases hlt : j < a - 0
    · obtain ⟨c, hc⟩ : ∃ c, ds[j]? = some c := ⟨_, List.getElem?_eq_getElem (by rw [HSZ.out]; exact hlt)⟩
      have hcell := HR.out j c hc
      have hv := valS_snoc (base := 10) hc
      have hwc := worth_le c
      have HC := Aside0.mk hc
      have h5 : (j : Int) < (a : Int) - 0 := by omega
      have h6 : (0 : Int) ≤ (worthS c : Int) := Int.natCast_nonneg _
      by_cases hbad : 10 ≤ worthS c
      · have HBAD := Aside0.mk (any_at hc hbad)
        have hbi : (10 : Int) ≤ (worthS c : Int) := by omega
        obtain ⟨q, hq⟩ : ∃ q : Int, (worthS c : Int) = q := ⟨_, rfl⟩
        have HQ := Aside0.mk hq
        rw [hq] at hbi h6
        clear hc hv hbad hq hwc
        go_wp2_with (go_at_call 49; with_reducible refine (worth_c c _).mono ?_; rintro e9 wn ⟨rfl, hk⟩; rw [HQ.out]; replace HB := Aside0.mk (below_step HB.out hk); replace HR := Aside0.mk (HR.out.below hk); clear hk)
        refine bodyPost_ret (v := .tuple #[.int .i64 0, .int .i64 0, .int .i64 2]) (by simp [results, Try.results36, go_sem]) rfl ⟨?_, HB.out⟩
        have hres : numS s.toList = (0, 0, 2) := HNA.out HBAD.out
        rw [hres]
        rfl
      · have HAN := Aside0.mk (any_take hc hbad HA.out)
        obtain ⟨q, hq⟩ : ∃ q : Int, (worthS c : Int) = q := ⟨_, rfl⟩
        have HQ := Aside0.mk hq
        have hbi : q < 10 := by omega
        rw [hq] at h6
        rcases HST.out with ⟨s1, s2, s3⟩ | ⟨s1, s2⟩
        · subst s2 s3
          have hnn : (0 : Int) ≤ (valS 10 0 (ds.take j) : Int) := Int.natCast_nonneg _
          obtain ⟨v, hvv⟩ : ∃ v : Int, (valS 10 0 (ds.take j) : Int) = v := ⟨_, rfl⟩
          rw [hvv] at hnn ⊢
          have hvn : (valS 10 0 (ds.take (j + 1)) : Int) = v * 10 + q := by rw [hv, ← hvv, ← hq]; omega
          have hv9 : v ≤ 9223372036854775807 := by omega
          have HVN := Aside0.mk hvn
          clear hc hv hbad hq hwc s1 HST hvv hvn
          by_cases hov : 9223372036854775807 < v * 10 + q
          · have htest : (9223372036854775807 - q) / 10 < v := by omega
            have HOV := Aside0.mk hov
            clear hov
            go_wp2_with (go_at_call 49; with_reducible refine (worth_c c _).mono ?_; rintro e9 wn ⟨rfl, hk⟩; rw [HQ.out]; replace HB := Aside0.mk (below_step HB.out hk); replace HR := Aside0.mk (HR.out.below hk); clear hk)
            have hov := HOV.out
            go_roundw
            case rel => exact ⟨j + 1, v, 5, by omega, by go_num, rfl, rfl, HAN.out, .inr ⟨by have := HVN.out; omega, rfl⟩, HB.out, HR.out⟩
            case measure => simp [intOf]; omega
          · have htest : v ≤ (9223372036854775807 - q) / 10 := by omega
            have hw1 : IntKind.i64.wrap (v * 10) = v * 10 := by rw [IntKind.wrap_i64]; omega
            have hw2 : IntKind.i64.wrap (v * 10 + q) = v * 10 + q := by rw [IntKind.wrap_i64]; omega
            go_wp2_with (go_at_call 49; with_reducible refine (worth_c c _).mono ?_; rintro e9 wn ⟨rfl, hk⟩; rw [HQ.out]; replace HB := Aside0.mk (below_step HB.out hk); replace HR := Aside0.mk (HR.out.below hk); clear hk)
            go_roundw
            case rel => exact ⟨j + 1, v * 10 + q, 0, by omega, by go_num, rfl, rfl, HAN.out, .inl ⟨by have := HVN.out; omega, by rw [HVN.out], rfl⟩, HB.out, HR.out⟩
            case measure => simp [intOf]; omega
        · subst s2
          have HVN : Aside0 (9223372036854775807 < valS 10 0 (ds.take (j + 1))) := Aside0.mk (by rw [hv]; omega)
          clear hc hv hbad hq hwc s1 HST
          by_cases htest : (9223372036854775807 - q) / 10 < n
          · go_wp2_with (go_at_call 49; with_reducible refine (worth_c c _).mono ?_; rintro e9 wn ⟨rfl, hk⟩; rw [HQ.out]; replace HB := Aside0.mk (below_step HB.out hk); replace HR := Aside0.mk (HR.out.below hk); clear hk)
            go_roundw
            case rel => exact ⟨j + 1, n, 5, by omega, by go_num, rfl, rfl, HAN.out, .inr ⟨HVN.out, rfl⟩, HB.out, HR.out⟩
            case measure => simp [intOf]; omega
          · replace htest : n ≤ (9223372036854775807 - q) / 10 := by omega
            go_wp2_with (go_at_call 49; with_reducible refine (worth_c c _).mono ?_; rintro e9 wn ⟨rfl, hk⟩; rw [HQ.out]; replace HB := Aside0.mk (below_step HB.out hk); replace HR := Aside0.mk (HR.out.below hk); clear hk)
            go_roundw
            case rel => exact ⟨j + 1, n, 5, by omega, by go_num, rfl, rfl, HAN.out, .inr ⟨HVN.out, rfl⟩, HB.out, HR.out⟩
            case measure => simp [intOf]; omega
    · have hje : j = a - 0 := by omega
      have hji : (j : Int) = (a : Int) - 0 := by omega
      have hta : ds.take j = ds := by rw [hje, ← HSZ.out, List.take_length]
      rw [hta] at HA HST
      have HN2 : Aside0 (numS s.toList = if (a = 0 ∨ (1 < a ∧ s.toList.head? = some 48)) then (0, 0, 2) else if 9223372036854775807 < valS 10 0 ds then (0, 0, 5) else (valS 10 0 ds, a, 0)) := Aside0.mk (HNG.out HA.out)
      clear hta hj hlt hje
      obtain ⟨b0, t0, e0, _⟩ := drop_cons (s := s) (i := 0) HX.out.2.2
      have hx0 := get_drop e0
      have hq0 := eq_true (show (0 : Int) < (s.size : Int) by have := HX.out.2.2; omega)
      have hhd : s.toList.head? = some b0 := by rw [List.drop_zero] at e0; rw [e0]; rfl
      rw [hhd] at HN2
      clear e0 hhd
      by_cases c1 : a = 0
      · have c1b : ((a : Int) == 0) = true := beq_iff_eq.mpr (by omega)
        have hres : numS s.toList = (0, 0, 2) := HN2.out.trans (if_pos (.inl c1))
        have HRS := Aside0.mk hres
        clear hres
        subst c1
        go_wp2_with fail
        refine bodyPost_ret (v := .tuple #[.int .i64 0, .int .i64 0, .int .i64 2]) (by simp [results, Try.results36, go_sem]) rfl ⟨?_, HB.out⟩
        rw [HRS.out]
        rfl
      · have c1b : ((a : Int) == 0) = false := beq_eq_false_iff_ne.mpr (by omega)
        by_cases c2 : 1 < a ∧ b0 = 48
        · have hres : numS s.toList = (0, 0, 2) := HN2.out.trans (if_pos (.inr ⟨c2.1, by rw [c2.2]⟩))
          have HRS := Aside0.mk hres
          have c2b : (1 : Int) < (a : Int) := by have := c2.1; omega
          obtain ⟨_, hb0⟩ := c2
          subst hb0
          clear hres c1
          go_wp2_with fail
          refine bodyPost_ret (v := .tuple #[.int .i64 0, .int .i64 0, .int .i64 2]) (by simp [results, Try.results36, go_sem]) rfl ⟨?_, HB.out⟩
          rw [HRS.out]
          rfl
        · have HN3 : Aside0 (numS s.toList = if 9223372036854775807 < valS 10 0 ds then (0, 0, 5) else (valS 10 0 ds, a, 0)) := Aside0.mk (HN2.out.trans (if_neg (by
            rintro (h | h)
            · exact c1 h
            · exact c2 ⟨h.1, Option.some.inj h.2⟩)))
          by_cases c3 : 1 < a
          · have hb0 : ((b0.toNat : Int) == 48) = false := beq_eq_false_iff_ne.mpr (fun h => c2 ⟨c3, byte_eq.2 (by show b0.toNat = 48; omega)⟩)
            have c3b : (1 : Int) < (a : Int) := by omega
            clear c1 c2
            rcases HST.out with ⟨s1, s2, s3⟩ | ⟨s1, s2⟩
            · subst s2 s3
              have hres : numS s.toList = (valS 10 0 ds, a, 0) := HN3.out.trans (if_neg (by omega))
              have HRS := Aside0.mk hres
              clear hres s1 HST
              go_wp2_with fail
              refine bodyPost_ret (v := .tuple #[.int .i64 (valS 10 0 ds : Int), .int .i64 (a : Int), .int .i64 0]) (by simp [results, Try.results36, go_sem]) rfl ⟨?_, HB.out⟩
              rw [HRS.out]
              rfl
            · subst s2
              have hres : numS s.toList = (0, 0, 5) := HN3.out.trans (if_pos s1)
              have HRS := Aside0.mk hres
              clear hres s1 HST
              go_wp2_with fail
              refine bodyPost_ret (v := .tuple #[.int .i64 0, .int .i64 0, .int .i64 5]) (by simp [results, Try.results36, go_sem]) rfl ⟨?_, HB.out⟩
              rw [HRS.out]
              rfl
          · have c3b : (a : Int) ≤ 1 := by omega
            clear c1 c2
            rcases HST.out with ⟨s1, s2, s3⟩ | ⟨s1, s2⟩
            · subst s2 s3
              have hres : numS s.toList = (valS 10 0 ds, a, 0) := HN3.out.trans (if_neg (by omega))
              have HRS := Aside0.mk hres
              clear hres s1 HST
              go_wp2_with fail
              refine bodyPost_ret (v := .tuple #[.int .i64 (valS 10 0 ds : Int), .int .i64 (a : Int), .int .i64 0]) (by simp [results, Try.results36, go_sem]) rfl ⟨?_, HB.out⟩
              rw [HRS.out]
              rfl
            · subst s2
              have hres : numS s.toList = (0, 0, 5) := HN3.out.trans (if_pos s1)
              have HRS := Aside0.mk hres
              clear hres s1 HST
              go_wp2_with fail
              refine bodyPost_ret (v := .tuple #[.int .i64 0, .int .i64 0, .int .i64 5]) (by simp [results, Try.results36, go_sem]) rfl ⟨?_, HB.out⟩
              rw [HRS.out]
              rfl
theorem figure_calls (s : ByteArray) (w : World) (hs : s.size ≤ 20000) (h0 : 0 < s.size) :
    Calls Try.prog 36 #[.string s] w fun e w' => e = .returned (.tuple #[.int .i64 ((numS s.toList).1 : Int), .int .i64 ((numS s.toList).2.1 : Int), .int .i64 ((numS s.toList).2.2 : Int)]) ∧ Below w.heap.size w w' := by
  cases hx : hexS s.toList with
  | true => exact figureHex s w hs h0 hx
  | false => exact figureDec s w hs h0 hx
end Go.Proofs.Ytikfgdkplgfiiaa.G
