/- The reference's WithInt, Add, Union on a list that is only read. Each contract names its state. -/
import Derived.Test.YtmcecmcnbhhniaaNh
import Derived.Test.YtmcecmcnbhhniaaNj
set_option linter.unusedVariables false
set_option linter.unusedSimpArgs false
namespace Go.Proofs.Ytmcecmcnbhhniaa.G
open Go.RowKit Go.Proofs.Ytmcecmcnbhhniaa.B Go.Proofs.YtmcecmcnbhhniaaW.PrintWords Go.Proofs.YtmcecmcnbhhniaaW.PrintLast Go.Proofs.YtmcecmcnbhhniaaW.PrintMore

/-- What is still to be done of WithInt. -/
def fin (x : Int) (out : List Int) (d : Bool) (r : List Int) : List Int := if d = true then out ++ r else out ++ ins x r
theorem fin_done (x y : Int) (out r : List Int) : fin x out true (y :: r) = fin x (out ++ [y]) true r := by simp [fin]
theorem fin_lt {x y : Int} (out r : List Int) (h : x < y) : fin x out false (y :: r) = fin x (out ++ [x] ++ [y]) true r := by simp [fin, ins, h]
theorem fin_ge {x y : Int} (out r : List Int) (h : ¬ x < y) : fin x out false (y :: r) = fin x (out ++ [y]) false r := by simp [fin, ins, h]
theorem ins_len (x : Int) (l : List Int) : (ins x l).length = l.length + 1 := by
  induction l with
  | nil => rfl
  | cons y l ih =>
    unfold ins
    split
    · rfl
    · rw [List.length_cons, ih, List.length_cons]
theorem fin_len (x : Int) (out : List Int) (d : Bool) (r : List Int) : out.length ≤ (fin x out d r).length := by
  unfold fin
  split <;> rw [List.length_append] <;> omega
def APP (y : Int) : Prop := True
set_option maxHeartbeats 8000000 in
theorem with_calls {W : World} {A : Option Addr} {c : Nat} {l : List Int} {x : Int} (hC : Kd.C (Kd.int .i64) W A l.length l) (hn : l.length ≤ 1000001) (hx : x ∉ l) :
    Calls Try.prog 30 #[.slice A l.length c, .int .i64 x] W fun e w' => ∃ A2 c2, e = .returned (.slice A2 (ins x l).length c2) ∧ RowI w' W.heap.size (.slice A2 (ins x l).length c2) (ins x l) ∧ Below W.heap.size W w' := by
  have HC := Aside0.mk hC
  have HN := Aside0.mk (And.intro hn hx)
  clear hC hn hx
  go_enter Try.func30, Try.ntmps30
  go_upto_block 0 with (fail)
  go_wp2_with fail
  go_loopw [7, 6, 5] (fun iv dv ov wx => ∃ (j : Nat) (d : Bool) (A2 : Option Addr) (c2 : Nat) (out : List Int), j ≤ l.length ∧ iv = .int .i64 (j : Int) ∧ dv = .bool d ∧ ov = .slice A2 out.length c2 ∧ Hid (fin x out d (l.drop j) = ins x l) ∧ Hid (RowI wx W.heap.size ov out) ∧ Hid (Below W.heap.size W wx)) (fun iv _ _ _ => l.length - (intOf iv).toNat)
  case atStart => exact ⟨0, false, none, 0, [], Nat.zero_le _, rfl, rfl, rfl, by simp [Hid, fin], RowI.nil _ _, Below.refl _ _⟩
  case round =>
    obtain ⟨j, d, A2, c2, out, hj, rfl, rfl, rfl, hf, hR, hB⟩ := hrel
    have HF : Aside0 (fin x out d (l.drop j) = ins x l) := Aside0.mk hf
    have HR : Aside0 (RowI wr W.heap.size (.slice A2 out.length c2) out) := Aside0.mk hR
    have HB : Aside0 (Below W.heap.size W wr) := Aside0.mk hB
    clear hf hR hB
    have HOL : Aside0 (out.length ≤ 1000002) := Aside0.mk (by
      have h1 := fin_len x out d (l.drop j)
      rw [HF.out, ins_len] at h1
      have := HN.out.1
      omega)
    by_cases hlt : (j : Int) < (l.length : Int)
    · have hj1 : j < l.length := by omega
      obtain ⟨ad, hA, hx⟩ := Kd.at_int (Kd.C_below HC.out HB.out) (j : Int) (Int.natCast_nonneg j) hlt
      have HA := Aside0.mk hA
      subst hA
      rw [Int.toNat_natCast, rd_nat hj1] at hx
      have hdr : l.drop j = l[j] :: l.drop (j + 1) := List.drop_eq_getElem_cons hj1
      have hne : l[j] ≠ x := fun he => HN.out.2 (by rw [← he]; exact List.getElem_mem hj1)
      have hrd := rd_nat hj1
      generalize l[j] = y at hx hdr hne hrd
      have hq : (y == x) = false := beq_eq_false_iff_ne.mpr hne
      have hwj : IntKind.i64.wrap ((j : Int) + 1) = (j : Int) + 1 := by have := HN.out; rw [IntKind.wrap_i64]; omega
      have HJ := Aside0.mk (And.intro hj1 hrd)
      rw [hdr] at HF
      clear hj hj1 hdr hne hrd HA
      cases d with
      | true =>
        have HG : Aside0 (fin x (out ++ [y]) true (l.drop (j + 1)) = ins x l) := Aside0.mk (by rw [← fin_done]; exact HF.out)
        go_wp2_with (at_builtin; refine append_int W.heap.size rfl _ _ rfl (.slice A2 out.length c2) out [y] rfl (HR.out.below (below_alloc (Below.refl _ _) _)) wr.heap.size (0, 0) 1 1 rfl rfl (blk_new wr _) (by have := HB.out.size; simp; omega) (by have := HOL.out; simp only [List.length_cons, List.length_nil]; omega) ?_; intro A4 c4 w4 h4 g4; obtain ⟨n4, hn4⟩ : ∃ n, n = (out ++ [y]).length := ⟨_, rfl⟩; rw [← hn4] at h4 ⊢; have HN4 := Aside0.mk hn4; clear hn4; have HR4 := Aside0.mk h4; have HB4 := Aside0.mk ((below_alloc HB.out (.cells #[.int .i64 y] 3)).grown g4 (by have := HB.out.size; simp; omega) (fun k hk => own_base (HR.out) k hk)); clear h4 g4)
        have hj1 := HJ.out.1
        go_roundw
        case rel => exact ⟨j + 1, true, A4, c4, out ++ [y], by omega, by go_num, rfl, by rw [← HN4.out], HG.out, HR4.out, HB4.out⟩
        case measure => simp [intOf]; omega
      | false =>
        by_cases hxy : x < y
        · have HG : Aside0 (fin x (out ++ [x] ++ [y]) true (l.drop (j + 1)) = ins x l) := Aside0.mk (by rw [← fin_lt _ _ hxy]; exact HF.out)
          go_upto_region 11 with (at_builtin; refine append_int W.heap.size rfl _ _ rfl (.slice A2 out.length c2) out [x] rfl (HR.out.below (below_alloc (Below.refl _ _) _)) wr.heap.size (0, 0) 1 1 rfl rfl (blk_new wr _) (by have := HB.out.size; simp; omega) (by have := HOL.out; simp only [List.length_cons, List.length_nil]; omega) ?_; intro A4 c4 w4 h4 g4; obtain ⟨n4, hn4⟩ : ∃ n, n = (out ++ [x]).length := ⟨_, rfl⟩; rw [← hn4] at h4 ⊢; have HN4 := Aside0.mk hn4; clear hn4; have HR4 := Aside0.mk h4; have HB4 := Aside0.mk ((below_alloc HB.out (.cells #[.int .i64 x] 3)).grown g4 (by have := HB.out.size; simp; omega) (fun k hk => own_base (HR.out) k hk)); clear h4 g4)
          clear hx
          obtain ⟨ad', hA', hx⟩ := Kd.at_int (Kd.C_below HC.out HB4.out) (j : Int) (Int.natCast_nonneg j) hlt
          injection hA' with hA'
          subst hA'
          rw [Int.toNat_natCast, HJ.out.2] at hx
          obtain ⟨out4, ho4⟩ : ∃ o, o = out ++ [x] := ⟨_, rfl⟩
          rw [← ho4] at HG HN4 HR4
          have ho5 := HN4.out
          subst ho5
          have HO4 : Aside0 (out4.length ≤ 1000003) := Aside0.mk (by rw [ho4, List.length_append]; have := HOL.out; simp; omega)
          clear ho4
          go_wp2_with (at_builtin; refine append_int W.heap.size rfl _ _ rfl (.slice A4 out4.length c4) out4 [y] rfl (HR4.out.below (below_alloc (Below.refl _ _) _)) w4.heap.size (0, 0) 1 1 rfl rfl (blk_new w4 _) (by have := HB4.out.size; simp; omega) (by have := HO4.out; simp only [List.length_cons, List.length_nil]; omega) ?_; intro A5 c5 w5 h5 g5; obtain ⟨n5, hn5⟩ : ∃ n, n = (out4 ++ [y]).length := ⟨_, rfl⟩; rw [← hn5] at h5 ⊢; have HN5 := Aside0.mk hn5; clear hn5; have HR5 := Aside0.mk h5; have HB5 := Aside0.mk ((below_alloc HB4.out (.cells #[.int .i64 y] 3)).grown g5 (by have := HB4.out.size; simp; omega) (fun k hk => own_base (HR4.out) k hk)); clear h5 g5)
          have hj1 := HJ.out.1
          go_roundw
          case rel => exact ⟨j + 1, true, A5, c5, out4 ++ [y], by omega, by go_num, rfl, by rw [← HN5.out], HG.out, HR5.out, HB5.out⟩
          case measure => simp [intOf]; omega
        · have HG : Aside0 (fin x (out ++ [y]) false (l.drop (j + 1)) = ins x l) := Aside0.mk (by rw [← fin_ge _ _ hxy]; exact HF.out)
          go_wp2_with (at_builtin; refine append_int W.heap.size rfl _ _ rfl (.slice A2 out.length c2) out [y] rfl (HR.out.below (below_alloc (Below.refl _ _) _)) wr.heap.size (0, 0) 1 1 rfl rfl (blk_new wr _) (by have := HB.out.size; simp; omega) (by have := HOL.out; simp only [List.length_cons, List.length_nil]; omega) ?_; intro A4 c4 w4 h4 g4; obtain ⟨n4, hn4⟩ : ∃ n, n = (out ++ [y]).length := ⟨_, rfl⟩; rw [← hn4] at h4 ⊢; have HN4 := Aside0.mk hn4; clear hn4; have HR4 := Aside0.mk h4; have HB4 := Aside0.mk ((below_alloc HB.out (.cells #[.int .i64 y] 3)).grown g4 (by have := HB.out.size; simp; omega) (fun k hk => own_base (HR.out) k hk)); clear h4 g4)
          have hj1 := HJ.out.1
          go_roundw
          case rel => exact ⟨j + 1, false, A4, c4, out ++ [y], by omega, by go_num, rfl, by rw [← HN4.out], HG.out, HR4.out, HB4.out⟩
          case measure => simp [intOf]; omega
    · have hje : j = l.length := by omega
      subst hje
      rw [List.drop_eq_nil_of_le (Nat.le_refl _)] at HF
      clear hj
      cases d with
      | true =>
        have hres : out = ins x l := by have := HF.out; simpa [fin] using this
        have HE := Aside0.mk hres
        clear hres
        go_wp2_with fail
        go_ret
        exact ⟨A2, c2, by rw [← HE.out]; rfl, by rw [← HE.out]; exact HR.out, HB.out⟩
      | false =>
        have hres : out ++ [x] = ins x l := by have := HF.out; simpa [fin, ins] using this
        have HE := Aside0.mk hres
        clear hres
        go_wp2_with (at_builtin; refine append_int W.heap.size rfl _ _ rfl (.slice A2 out.length c2) out [x] rfl (HR.out.below (below_alloc (Below.refl _ _) _)) wr.heap.size (0, 0) 1 1 rfl rfl (blk_new wr _) (by have := HB.out.size; simp; omega) (by have := HOL.out; simp only [List.length_cons, List.length_nil]; omega) ?_; intro A4 c4 w4 h4 g4; rw [HE.out] at h4 ⊢; have HR4 := Aside0.mk h4; have HB4 := Aside0.mk ((below_alloc HB.out (.cells #[.int .i64 x] 3)).grown g4 (by have := HB.out.size; simp; omega) (fun k hk => own_base (HR.out) k hk)); clear h4 g4)
        go_ret
        exact ⟨A4, c4, rfl, HR4.out, HB4.out⟩
/-- A row that is read. -/
def RdI (W : World) (v : Value) (l : List Int) : Prop := ∃ A c, v = .slice A l.length c ∧ l.length ≤ c ∧ Kd.C (Kd.int .i64) W A l.length l
theorem RdI.below {W W' : World} {v : Value} {l : List Int} (h : RdI W v l) (hb : Below W.heap.size W W') : RdI W' v l := by
  obtain ⟨A, c, h1, h2, h3⟩ := h
  exact ⟨A, c, h1, h2, Kd.C_below h3 hb⟩
theorem RdI.sl {W : World} {v : Value} {l : List Int} (h : RdI W v l) : ∃ A c, v = .slice A l.length c := by
  obtain ⟨A, c, h1, _⟩ := h
  exact ⟨A, c, h1⟩
theorem RdI.C {W : World} {A : Option Addr} {n c : Nat} {l : List Int} (h : RdI W (.slice A n c) l) : n = l.length ∧ l.length ≤ c ∧ Kd.C (Kd.int .i64) W A l.length l := by
  obtain ⟨A', c', he, h1, h2⟩ := h
  injection he with h3 h4 h5
  subst h3 h4 h5
  exact ⟨rfl, h1, h2⟩
theorem RowI.rd {W : World} {b : Nat} {v : Value} {l : List Int} (h : RowI W b v l) : RdI W v l := h.form
set_option maxHeartbeats 8000000 in
theorem add2_calls {W : World} {v : Value} {l : List Sp} (h : RdI W v (listS l)) (hw : WF l) (n : Int) :
    Calls Try.prog 18 #[v, .int .i64 n] W fun e w' => ∃ v2, e = .returned (.tuple #[v2, .bool (addS l n).2]) ∧ RdI w' v2 (listS (addS l n).1) ∧ Below W.heap.size W w' := by
  obtain ⟨A, c, rfl, hc, hC⟩ := h
  have HC := Aside0.mk (And.intro hc hC)
  have HW := Aside0.mk hw
  clear hc hC hw
  by_cases h0 : n < 0
  · have ha : addS l n = (l, false) := by unfold addS; rw [if_neg (by omega)]
    rw [ha]
    clear ha
    go_enter Try.func18, Try.ntmps18
    go_wp2_with fail
    exact bodyPost_ret (v := .tuple #[.slice A (listS l).length c, .bool false]) (by simp [results, Try.results18, go_sem]) rfl ⟨_, rfl, ⟨A, c, rfl, HC.out.1, HC.out.2⟩, Below.refl _ _⟩
  · by_cases h9 : 1000000 < n
    · have ha : addS l n = (l, false) := by unfold addS; rw [if_neg (by omega)]
      rw [ha]
      clear ha
      go_enter Try.func18, Try.ntmps18
      go_wp2_with fail
      exact bodyPost_ret (v := .tuple #[.slice A (listS l).length c, .bool false]) (by simp [results, Try.results18, go_sem]) rfl ⟨_, rfl, ⟨A, c, rfl, HC.out.1, HC.out.2⟩, Below.refl _ _⟩
    · cases hh : hasS l n with
      | true =>
        have ha : addS l n = (l, false) := by unfold addS; rw [if_neg (by simp [hh])]
        rw [ha]
        have HH := Aside0.mk hh
        clear ha hh
        go_enter Try.func18, Try.ntmps18
        go_wp2_with (go_at_call 21; with_reducible refine (r_has HC.out.2 HC.out.1 HW.out n).mono ?_; rintro e wn ⟨rfl, hk⟩; rw [HH.out]; have HK := Aside0.mk hk; clear hk)
        exact bodyPost_ret (v := .tuple #[.slice A (listS l).length c, .bool false]) (by simp [results, Try.results18, go_sem]) rfl ⟨_, rfl, ⟨A, c, rfl, HC.out.1, Kd.C_below HC.out.2 HK.out⟩, HK.out⟩
      | false =>
        have hin : n ∉ listS l := fun hm => by have := (hasS_false HW.out n).1 hh; exact this ((mem_listS l n).1 hm)
        have hle := listS_len_le HW.out
        have ha2 : (addS l n).2 = true := by unfold addS; rw [if_pos ⟨by omega, by omega, hh⟩]
        have ha : ins n (listS l) = listS (addS l n).1 := by
          have h1 := refAdd HW.out n 9000000 (by omega)
          unfold crosstreeref13_Add.f at h1
          rw [if_neg h0, if_neg (by omega), has_f _ _ (by omega) _ (by omega)] at h1
          simp only [Option.bind_some] at h1
          rw [if_neg (by simpa using hin), with_f (by omega) hin _ (by omega)] at h1
          simp only [Option.bind_some, Option.some.injEq, Prod.mk.injEq] at h1
          exact h1.1
        rw [ha2]
        have HH := Aside0.mk hh
        have HA := Aside0.mk ha
        have HI := Aside0.mk (And.intro hle hin)
        clear ha2 ha hh hle hin
        go_enter Try.func18, Try.ntmps18
        go_wp2_with (first | (go_at_call 21; with_reducible refine (r_has HC.out.2 HC.out.1 HW.out n).mono ?_; rintro e wn ⟨rfl, hk⟩; rw [HH.out]; have HK := Aside0.mk hk; clear hk) | (go_at_call 30; with_reducible refine (with_calls (Kd.C_below HC.out.2 HK.out) HI.out.1 HI.out.2).mono ?_; rintro e wm ⟨A2, c2, rfl, hR, hk⟩; have HR := Aside0.mk hR; have HK2 := Aside0.mk (below_step HK.out hk); clear hR hk))
        exact bodyPost_ret (v := .tuple #[.slice A2 (ins n (listS l)).length c2, .bool true]) (by simp [results, Try.results18, go_sem]) rfl ⟨_, rfl, by rw [← HA.out]; exact HR.out.rd, HK2.out⟩
set_option maxHeartbeats 8000000 in
theorem union2_calls {W : World} {v u : Value} {s t : List Sp} (h : RdI W v (listS s)) (hs : WF s) (h2 : RdI W u (listS t)) (ht : WF t) :
    Calls Try.prog 25 #[v, u] W fun e w' => ∃ v2, e = .returned (.tuple #[v2, .bool (unionS s t).2]) ∧ RdI w' v2 (listS (unionS s t).1) ∧ Below W.heap.size W w' := by
  have HV := Aside0.mk h
  have HS := Aside0.mk hs
  obtain ⟨A, c, rfl, hc, hC⟩ := h2
  have HC := Aside0.mk (And.intro hc hC)
  have HT := Aside0.mk ht
  rw [← addAll_union hs ht]
  have hle := listS_len_le ht
  generalize listS t = m at HC hle ⊢
  have HL := Aside0.mk hle
  clear h hs hc hC ht hle
  go_enter Try.func25, Try.ntmps25
  go_upto_block 0 with (fail)
  go_wp2_with fail
  have HV2 : Aside0 (∃ A3 c3, v = .slice A3 (listS (addAll (s, false) (m.take 0)).1).length c3 ∧ Hid (RdI W v (listS (addAll (s, false) (m.take 0)).1))) := Aside0.mk (by
    obtain ⟨A3, c3, h1, h2, h3⟩ := HV.out
    exact ⟨A3, c3, h1, HV.out⟩)
  clear HV
  go_loopw [7, 6, 0] (fun iv mv ov wx => ∃ (j : Nat) (A3 : Option Addr) (c3 : Nat), j ≤ m.length ∧ iv = .int .i64 (j : Int) ∧ mv = .bool (addAll (s, false) (m.take j)).2 ∧ ov = .slice A3 (listS (addAll (s, false) (m.take j)).1).length c3 ∧ Hid (RdI wx ov (listS (addAll (s, false) (m.take j)).1)) ∧ Hid (Below W.heap.size W wx)) (fun iv _ _ _ => m.length - (intOf iv).toNat)
  case atStart =>
    obtain ⟨A3, c3, h1, h2⟩ := HV2.out
    exact ⟨0, A3, c3, Nat.zero_le _, rfl, rfl, h1, h2, Below.refl _ _⟩
  case round =>
    clear HV2
    obtain ⟨j, A3, c3, hj, rfl, rfl, rfl, hV, hB⟩ := hrel
    have HV : Aside0 (RdI wr (.slice A3 (listS (addAll (s, false) (m.take j)).1).length c3) (listS (addAll (s, false) (m.take j)).1)) := Aside0.mk hV
    have HB : Aside0 (Below W.heap.size W wr) := Aside0.mk hB
    clear hV hB
    by_cases hlt : (j : Int) < (m.length : Int)
    · have hj1 : j < m.length := by omega
      obtain ⟨ad, hA, hx⟩ := Kd.at_int (Kd.C_below HC.out.2 HB.out) (j : Int) (Int.natCast_nonneg j) hlt
      subst hA
      rw [Int.toNat_natCast, rd_nat hj1] at hx
      have hsn := addAll_snoc (s, false) m j hj1
      have hwj : IntKind.i64.wrap ((j : Int) + 1) = (j : Int) + 1 := by have := HL.out; rw [IntKind.wrap_i64]; omega
      have HWF := Aside0.mk (addAll_spec (m.take j) (b := false) HS.out).1
      generalize m[j] = y at hx hsn
      have HJ := Aside0.mk (And.intro hj1 hsn)
      clear hj hj1 hsn
      generalize addAll (s, false) (m.take j) = p at HV HJ HWF ⊢
      cases hp : p.2 with
      | true =>
        have HP := Aside0.mk hp
        clear hp
        go_wp2_with (go_at_call 18; with_reducible refine (add2_calls HV.out HWF.out y).mono ?_; rintro e wn ⟨v2, rfl, hR, hk⟩; have HB2 := Aside0.mk (below_step HB.out hk); obtain ⟨A4, c4, hv4⟩ := RdI.sl hR; subst hv4; have HR := Aside0.mk hR; clear hR hk)
        obtain ⟨hj1, hsn⟩ := HJ.out
        go_roundw
        case rel => exact ⟨j + 1, A4, c4, by omega, by go_num, by rw [hsn, HP.out]; rfl, by rw [hsn], by rw [hsn]; exact HR.out, HB2.out⟩
        case measure => simp [intOf]; omega
      | false =>
        have HP := Aside0.mk hp
        clear hp
        go_wp2_with (go_at_call 18; with_reducible refine (add2_calls HV.out HWF.out y).mono ?_; rintro e wn ⟨v2, rfl, hR, hk⟩; have HB2 := Aside0.mk (below_step HB.out hk); obtain ⟨A4, c4, hv4⟩ := RdI.sl hR; subst hv4; have HR := Aside0.mk hR; clear hR hk)
        obtain ⟨hj1, hsn⟩ := HJ.out
        go_roundw
        case rel => exact ⟨j + 1, A4, c4, by omega, by go_num, by rw [hsn, HP.out]; rfl, by rw [hsn], by rw [hsn]; exact HR.out, HB2.out⟩
        case measure => simp [intOf]; omega
    · have hje : j = m.length := by omega
      subst hje
      rw [List.take_length] at HV ⊢
      clear hj
      go_wp2_with fail
      exact bodyPost_ret (v := .tuple #[.slice A3 (listS (addAll (s, false) m).1).length c3, .bool (addAll (s, false) m).2]) (by simp [results, Try.results25, go_sem]) rfl ⟨_, rfl, HV.out, HB.out⟩
end Go.Proofs.Ytmcecmcnbhhniaa.G
