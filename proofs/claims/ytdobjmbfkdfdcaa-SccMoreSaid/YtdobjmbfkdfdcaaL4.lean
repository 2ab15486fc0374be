/- The law SccBoth of scc is true: its walk. No condition. -/
import Derived.Test.YtdobjmbfkdfdcaaL3
set_option linter.unusedVariables false
set_option linter.unusedSimpArgs false
namespace Go.Proofs.Ytdobjmbfkdfdcaa.G
open Go.RowKit Go.Proofs.Ytdobjmbfkdfdcaa.B Go.Proofs.YtdobjmbfkdfdcaaW.PrintWords Go.Proofs.YtdobjmbfkdfdcaaW.PrintLast Go.Proofs.YtdobjmbfkdfdcaaW.PrintMore

theorem reach1 (m : Int) (l : List S33) (A : Option Addr) (c : Nat) (W : World) (h : Edg W A l c) (a : Int) (s : List Nat) (hs : ROk (sizeN m) l [a] s) :
    Calls Try.prog 16 #[.int .i64 m, .slice A l.length c, .slice (some ⟨W.heap.size, 0, none⟩) 1 1] (W.alloc (.cells #[.int .i64 a] 3)) fun e w' => ∃ A c, e = .returned (.slice A s.length c) ∧ Nts w' A s c ∧ Below W.heap.size W w' := by
  have hb := below_alloc (Below.refl W.heap.size W) (.cells #[.int .i64 a] 3)
  refine (reach_d m l A c [a] (some ⟨W.heap.size, 0, none⟩) 1 _ (h.below hb) (c_new W [a] (by simp)) (by simp) s hs).mono ?_
  rintro e W6 ⟨A6, c6, rfl, h6, hb6⟩
  exact ⟨A6, c6, rfl, h6, below_step hb hb6⟩
theorem mem_next (x : List Nat) (b i : Nat) (hi : i < x.length) : decide (b ∈ x.take (i + 1)) = (decide (b ∈ x.take i) || decide (x.getD i 0 = b)) := by
  rw [List.take_succ_eq_append_getElem hi, List.getD_eq_getElem?_getD, List.getElem?_eq_getElem hi]
  by_cases h1 : b ∈ x.take i
  · rw [decide_eq_true h1, decide_eq_true (List.mem_append_left _ h1)]; rfl
  · by_cases h2 : x[i] = b
    · rw [decide_eq_true (List.mem_append_right _ (List.mem_singleton.2 h2.symm))]
      simp [h2]
    · rw [decide_eq_false h1, decide_eq_false (fun h => (List.mem_append.1 h).elim h1 (fun k => h2 (List.mem_singleton.1 k).symm))]
      simp [h2]
set_option maxRecDepth 100000 in
set_option maxHeartbeats 1000000 in
theorem SccBoth_walk (n : Int) (l : List S33) (A : Option Addr) (c : Nat) (a b : Int) (w : World) (hlc : l.length ≤ c) (hC : Kd.C k33 w A l.length l) :
    Calls Try.prog 6 #[.int .i64 n, .slice A l.length c, .int .i64 a, .int .i64 b] w fun e w' => e = .returned (.bool true) ∧ Below w.heap.size w w' := by
  obtain ⟨m, l2, hm, hl2, hF⟩ := few_e n l A c w hC hlc
  have HF := Aside0.mk hF
  have hll : l2.length ≤ 200 := by rw [hl2, List.length_take]; omega
  clear hC hlc hF hm hl2
  obtain ⟨s, _, hr0⟩ := groups_ok (sizeN m) l2 (sizeN_le m)
  generalize s.out = r at hr0
  have HG := Aside0.mk hr0
  have HRN : Aside0 (r.length ≤ 20000) := Aside0.mk (by rw [hr0.1]; exact sizeN_le m)
  obtain ⟨x, hx⟩ := ROk.exists_ (sizeN m) (sizeN_le m) l2 (by omega) [a] (by simp)
  obtain ⟨y, hy⟩ := ROk.exists_ (sizeN m) (sizeN_le m) l2 (by omega) [b] (by simp)
  have HX := Aside0.mk hx
  have HY := Aside0.mk hy
  have HXL := Aside0.mk (And.intro (Nat.le_trans hx.len (sizeN_le m)) (Nat.le_trans hy.len (sizeN_le m)))
  have HBO : Aside0 (∀ a' b' : Nat, a = a' → b = b' → a' < r.length → b' < r.length → (r.getD a' 0 = r.getD b' 0 ↔ b' ∈ x ∧ a' ∈ y)) := Aside0.mk (fun a' b' ha hb h1 h2 => by
    subst ha hb
    rw [hr0.1] at h1 h2
    exact both_ok hr0 h1 h2 hx hy)
  clear hr0 hx hy hll
  go_enter Try.func6, Try.ntmps6
  go_upto_region 4 with (first
    | (go_at_call 9; with_reducible refine (shown_c _).mono ?_; rintro e w1 ⟨rfl, hk⟩; have HB := Aside0.mk hk; clear hk)
    | (go_at_call 10; with_reducible refine (HF.out _ HB.out).mono ?_; rintro e w2 ⟨rfl, hE, hk⟩; have HE := Aside0.mk hE; replace HB := Aside0.mk hk; clear hE hk)
    | (go_at_call 12; with_reducible refine (groups_d _ _ _ _ _ HE.out r HG.out).mono ?_; rintro e w3 ⟨A3, c3, rfl, h3, hb3⟩; have HE3 := Aside0.mk (HE.out.below hb3); have HA3 := Aside0.mk h3; have HB3 := Aside0.mk (below_step HB.out hb3); clear h3 hb3))
  clear HF HB HE
  by_cases h1 : a < 0
  · have k1 : decide (a < 0) = true := decide_eq_true h1
    clear h1
    go_wp2_with fail
    go_ret
    exact ⟨rfl, HB3.out⟩
  have k1 : decide (a < 0) = false := decide_eq_false h1
  by_cases h2 : (r.length : Int) ≤ a
  · have k2 : decide ((r.length : Int) ≤ a) = true := decide_eq_true h2
    clear h1 h2
    go_wp2_with fail
    go_ret
    exact ⟨rfl, HB3.out⟩
  have k2 : decide ((r.length : Int) ≤ a) = false := decide_eq_false h2
  by_cases h3 : b < 0
  · have k3 : decide (b < 0) = true := decide_eq_true h3
    clear h1 h2 h3
    go_wp2_with fail
    go_ret
    exact ⟨rfl, HB3.out⟩
  have k3 : decide (b < 0) = false := decide_eq_false h3
  by_cases h4 : (r.length : Int) ≤ b
  · have k4 : decide ((r.length : Int) ≤ b) = true := decide_eq_true h4
    clear h1 h2 h3 h4
    go_wp2_with fail
    go_ret
    exact ⟨rfl, HB3.out⟩
  have k4 : decide ((r.length : Int) ≤ b) = false := decide_eq_false h4
  have hab : 0 ≤ a ∧ a < r.length ∧ 0 ≤ b ∧ b < r.length := by omega
  have HAB := Aside0.mk hab
  clear h1 h2 h3 h4 hab
  go_upto_region 6 with (fail)
  clear k1 k2 k3 k4
  go_upto_region 7 with (go_at_call 16; with_reducible refine (reach1 _ _ _ _ _ HE3.out a x HX.out).mono ?_; rintro e w4 ⟨A4, c4, rfl, h4, hb4⟩; have HE4 := Aside0.mk (HE3.out.below hb4); have HA34 := Aside0.mk (HA3.out.below hb4); have HA4 := Aside0.mk h4; have HB4 := Aside0.mk (below_step HB3.out hb4); clear h4 hb4)
  go_upto_block 0 with (go_at_call 16; with_reducible refine (reach1 _ _ _ _ _ HE4.out b y HY.out).mono ?_; rintro e w5 ⟨A5, c5, rfl, h5, hb5⟩; have HA35 := Aside0.mk (HA34.out.below hb5); have HA45 := Aside0.mk (HA4.out.below hb5); have HA5 := Aside0.mk h5; have HB5 := Aside0.mk (below_step HB4.out hb5); clear h5 hb5)
  clear HA3 HA34 HA4 HE3 HE4 HX HY HB3 HB4
  obtain ⟨a', rfl⟩ : ∃ a' : Nat, a = a' := ⟨a.toNat, by have := HAB.out; omega⟩
  obtain ⟨b', rfl⟩ : ∃ b' : Nat, b = b' := ⟨b.toNat, by have := HAB.out; omega⟩
  go_wp2_with fail
  go_loopw [13, 15] (fun v13 iv wx => ∃ (t : Bool) (i : Nat), i ≤ x.length ∧ v13 = .bool t ∧ iv = .int .i64 (i : Int) ∧ Hid (t = decide (b' ∈ x.take i)) ∧ Hid (Below w5.heap.size w5 wx)) (fun _ iv _ => x.length - (intOf iv).toNat)
  case atStart => exact ⟨false, 0, Nat.zero_le _, rfl, rfl, rfl, Below.refl _ _⟩
  case round =>
    obtain ⟨t, i, hi, rfl, rfl, h1, h2⟩ := hrel
    have HT := Aside0.mk (show t = decide (b' ∈ x.take i) from h1)
    have HB := Aside0.mk (show Below w5.heap.size w5 wr from h2)
    clear h1 h2
    by_cases hlt : (i : Int) < (x.length : Int)
    · have hi1 : i < x.length := by omega
      have hi0 : (0 : Int) ≤ (i : Int) := Int.natCast_nonneg i
      have hwi : IntKind.i64.wrap ((i : Int) + 1) = (i : Int) + 1 := by have := HXL.out; rw [IntKind.wrap_i64]; omega
      have hst := mem_next x b' i hi1
      rw [← HT.out] at hst
      obtain ⟨ad4, e4, g1⟩ := (HA45.out.below HB.out).at_ i hi1
      cases t with
      | true =>
        rw [Bool.true_or] at hst
        have HST := Aside0.mk hst
        clear hst g1 e4
        go_wp2_with fail
        go_roundw
        case rel => exact ⟨true, i + 1, by omega, rfl, by go_num, HST.out.symm, HB.out⟩
        case measure => simp [intOf]; omega
      | false =>
        rw [Bool.false_or] at hst
        generalize x.getD i 0 = xi at hst g1
        subst e4
        by_cases hxb : xi = b'
        · rw [decide_eq_true hxb] at hst
          rw [hxb] at g1
          have HST := Aside0.mk hst
          clear hst hxb
          go_wp2_with fail
          go_roundw
          case rel => exact ⟨true, i + 1, by omega, rfl, by go_num, HST.out.symm, HB.out⟩
          case measure => simp [intOf]; omega
        · rw [decide_eq_false hxb] at hst
          have e1 : ((xi : Int) == (b' : Int)) = false := beq_eq_false_iff_ne.mpr (by omega)
          have e2 : (xi == b') = false := beq_eq_false_iff_ne.mpr hxb
          have HST := Aside0.mk hst
          clear hst hxb
          go_wp2_with fail
          go_roundw
          case rel => exact ⟨false, i + 1, by omega, rfl, by go_num, HST.out.symm, HB.out⟩
          case measure => simp [intOf]; omega
    · have hie : i = x.length := by omega
      have htx : t = decide (b' ∈ x) := by rw [HT.out, hie, List.take_length]
      have HTX := Aside0.mk htx
      clear htx hie HT
      go_upto_block 2 with (fail)
      go_wp2_with fail
      go_loopw [14, 16] (fun v14 iv wx => ∃ (t : Bool) (i : Nat), i ≤ y.length ∧ v14 = .bool t ∧ iv = .int .i64 (i : Int) ∧ Hid (t = decide (a' ∈ y.take i)) ∧ Hid (Below w5.heap.size w5 wx)) (fun _ iv _ => y.length - (intOf iv).toNat)
      case atStart => exact ⟨false, 0, Nat.zero_le _, rfl, rfl, rfl, HB.out⟩
      case round =>
        clear HB
        obtain ⟨t2, j, hj, rfl, rfl, h1, h2⟩ := hrel
        have HT := Aside0.mk (show t2 = decide (a' ∈ y.take j) from h1)
        have HB := Aside0.mk (show Below w5.heap.size w5 wr from h2)
        clear h1 h2
        by_cases hltj : (j : Int) < (y.length : Int)
        · have hi1 : j < y.length := by omega
          have hi0 : (0 : Int) ≤ (j : Int) := Int.natCast_nonneg j
          have hwi : IntKind.i64.wrap ((j : Int) + 1) = (j : Int) + 1 := by have := HXL.out; rw [IntKind.wrap_i64]; omega
          have hst := mem_next y a' j hi1
          rw [← HT.out] at hst
          obtain ⟨ad5, e5, g1⟩ := (HA5.out.below HB.out).at_ j hi1
          cases t2 with
          | true =>
            rw [Bool.true_or] at hst
            have HST := Aside0.mk hst
            clear hst g1 e5
            go_wp2_with fail
            go_roundw
            case rel => exact ⟨true, j + 1, by omega, rfl, by go_num, HST.out.symm, HB.out⟩
            case measure => simp [intOf]; omega
          | false =>
            rw [Bool.false_or] at hst
            generalize y.getD j 0 = xi at hst g1
            subst e5
            by_cases hxb : xi = a'
            · rw [decide_eq_true hxb] at hst
              rw [hxb] at g1
              have HST := Aside0.mk hst
              clear hst hxb
              go_wp2_with fail
              go_roundw
              case rel => exact ⟨true, j + 1, by omega, rfl, by go_num, HST.out.symm, HB.out⟩
              case measure => simp [intOf]; omega
            · rw [decide_eq_false hxb] at hst
              have e1 : ((xi : Int) == (a' : Int)) = false := beq_eq_false_iff_ne.mpr (by omega)
              have e2 : (xi == a') = false := beq_eq_false_iff_ne.mpr hxb
              have HST := Aside0.mk hst
              clear hst hxb
              go_wp2_with fail
              go_roundw
              case rel => exact ⟨false, j + 1, by omega, rfl, by go_num, HST.out.symm, HB.out⟩
              case measure => simp [intOf]; omega
        · have hie : j = y.length := by omega
          have hty : t2 = decide (a' ∈ y) := by rw [HT.out, hie, List.take_length]
          have hbo := HBO.out a' b' rfl rfl (by have := HAB.out; omega) (by have := HAB.out; omega)
          have htx := HTX.out
          obtain ⟨ad3, e3, g1⟩ := (HA35.out.below HB.out).at_ a' (by have := HAB.out; omega)
          obtain ⟨ad3', e3', g2⟩ := (HA35.out.below HB.out).at_ b' (by have := HAB.out; omega)
          obtain rfl : ad3 = ad3' := by rw [e3] at e3'; injection e3'
          clear e3'
          subst e3
          have k1 : (0 : Int) ≤ (a' : Int) := Int.natCast_nonneg a'
          have k2 : (a' : Int) < (r.length : Int) := HAB.out.2.1
          have k3 : (0 : Int) ≤ (b' : Int) := Int.natCast_nonneg b'
          have k4 : (b' : Int) < (r.length : Int) := HAB.out.2.2.2
          generalize r.getD a' 0 = ga at hbo g1
          generalize r.getD b' 0 = gb at hbo g2
          have hend : ∀ wz : World, wz.heap = wr.heap → True := fun _ _ => trivial
          clear hend hie HT
          by_cases hg : ga = gb
          · have hm := hbo.1 hg
            rw [decide_eq_true hm.1] at htx
            rw [decide_eq_true hm.2] at hty
            subst htx hty hg
            clear hm hbo HTX
            go_upto_region 18 with (fail)
            go_still (by kernel_rfl)
            go_wp2_with fail
            go_ret
            exact ⟨rfl, below_step HB5.out (below_drew HB.out)⟩
          · have e1 : ((ga : Int) == (gb : Int)) = false := beq_eq_false_iff_ne.mpr (by omega)
            have e2 : (ga == gb) = false := beq_eq_false_iff_ne.mpr hg
            cases t with
            | true =>
              cases t2 with
              | true => exact absurd (hbo.2 ⟨of_decide_eq_true htx.symm, of_decide_eq_true hty.symm⟩) hg
              | false =>
                clear hbo hg htx hty HTX
                go_upto_region 18 with (fail)
                go_still (by kernel_rfl)
                go_wp2_with fail
                go_ret
                exact ⟨rfl, below_step HB5.out (below_drew HB.out)⟩
            | false =>
              clear hbo hg htx hty HTX
              go_upto_region 18 with (fail)
              go_still (by kernel_rfl)
              go_wp2_with fail
              go_ret
              exact ⟨rfl, below_step HB5.out (below_drew HB.out)⟩
end Go.Proofs.Ytdobjmbfkdfdcaa.G
