/- The law NormSteps of norm is true: its walk. No condition. -/
import Derived.Test.YtndcnhbcconbcaaNh
set_option linter.unusedVariables false
set_option linter.unusedSimpArgs false
namespace Go.Proofs.Ytndcnhbcconbcaa.G
open Go.RowKit Go.Proofs.Ytndcnhbcconbcaa.B Go.Proofs.YtndcnhbcconbcaaW.PrintWords Go.Proofs.YtndcnhbcconbcaaW.PrintLast Go.Proofs.YtndcnhbcconbcaaW.PrintMore

theorem size_L (m : Int) (h : 1 ≤ m ∧ m ≤ 20) : sizeS [] (tArr m (tK 4)) = (8 * m, 8, 0) := by
  rw [size_arr [] m (tK 4) (by omega), size_K (k := 4) (w := 8) (by decide) (by decide) (by decide) (by decide) []]
  unfold arrS
  rw [if_pos rfl, if_pos (by decide), if_neg (by show ¬ m > Int.tdiv 4096 8; rw [show Int.tdiv 4096 8 = 512 from by decide]; omega)]
  rw [show wrap64 (((8 : Int), (8 : Int), (0 : Int)).1 * m) = 8 * m from by show wrap64 (8 * m) = 8 * m; unfold wrap64; omega]
theorem norm_L (m off : Int) : normF 2 [] (tArr m (tK 4)) off = some (Int.tmod off 8) := norm_arrK [] m 4 8 off 0 (by decide) (by decide) (by decide) (by decide)
theorem kL (W : World) (g : Nat) (h : W.heap[g]? = some (.cells #[.int .i64 4, .int .i64 0, .string ⟨#[]⟩, .slice none 0 0] 24 (0, 0))) : k24.C W (some ⟨g, 0, none⟩) 1 [tK 4] := by
  refine ⟨rfl, by decide, fun _ => ⟨_, rfl, fun j p hj => ?_⟩⟩
  match j, hj with
  | 0, hj =>
    obtain rfl : tK 4 = p := by simpa using hj
    refine ⟨_, rfl, k24_mk W (tK 4) (A3 := none) (c3 := 0) (Nat.le_refl _) (Kd.C_nil _ W), fun i u hu => ?_⟩
    show W.cell? ((⟨g, 0, none⟩ : Addr).add (0 * 4 + i)) = _
    rw [add_plain, blk_cell h, Nat.zero_mul, Nat.zero_add, ← hu]
    match i with
    | 0 => rfl
    | 1 => rfl
    | 2 => rfl
    | 3 => rfl
    | i + 4 => rfl
theorem norm_at (m off a : Int) (h : 1 ≤ m ∧ m ≤ 20) (ho : 0 ≤ off ∧ off ≤ 8 * m) (ha : (if off = 8 * m then off else Int.tmod off 8) = a) (g : Nat) (W : World) (hb : W.heap[g]? = some (.cells #[.int .i64 4, .int .i64 0, .string ⟨#[]⟩, .slice none 0 0] 24 (0, 0))) :
    Calls Try.prog 12 #[.slice none 0 0, .agg #[.int .i64 6, .int .i64 m, .string ⟨#[]⟩, .slice (some ⟨g, 0, none⟩) 1 1], .int .i64 off] W fun e w' => e = .returned (.tuple #[.int .i64 a, .int .i64 0]) ∧ Below W.heap.size W w' :=
  norm12_c [] none 0 (Nat.le_refl _) 2 (tArr m (tK 4)) off a 0 (some ⟨g, 0, none⟩) 1 W (by unfold I64; omega) (kR W) (kL W g hb) (Nat.le_refl _) (by
    rw [size_L m h, norm_L]
    unfold normT
    rw [if_pos rfl, if_neg (by omega), if_neg (show ¬ 8 * m < off by omega)]
    by_cases he : off = 8 * m
    · rw [if_pos he] at ha ⊢
      rw [← ha, ← he]
    · rw [if_neg he] at ha ⊢
      rw [← ha]
      rfl)
set_option maxRecDepth 100000 in
set_option maxHeartbeats 4000000 in
theorem NormSteps_walk (n : Int) (hn : 0 ≤ n ∧ n ≤ 255) (off : Int) (ho : 0 ≤ off ∧ off ≤ 65535) (k : Int) (hk : 0 ≤ k ∧ k ≤ 255) (w : World) :
    Calls Try.prog 8 #[.int .u8 n, .int .u16 off, .int .u8 k] w fun e w' => e = .returned (.bool true) ∧ Below w.heap.size w w' := by
  go_enter Try.func8, Try.ntmps8
  go_upto_region 4 with (go_at_call 10; with_reducible refine (shown_c _).mono ?_; rintro e1 w1 ⟨rfl, hb⟩; have HB1 := Aside0.mk hb; clear hb)
  have hm : 1 ≤ 1 + n % 20 ∧ 1 + n % 20 ≤ 20 := by omega
  have HX := Aside0.mk (blk_alloc (blk_new w1 (.cells #[.int .i64 4, .int .i64 0, .string ⟨#[]⟩, .slice none 0 0] 24)) (.cells #[.int .i64 6, .int .i64 (1 + n % 20), .string ⟨#[]⟩, .slice (some ⟨w1.heap.size, 0, none⟩) 1 1] 24))
  have HY := Aside0.mk (blk_at_ (W := w1.alloc (.cells #[.int .i64 4, .int .i64 0, .string ⟨#[]⟩, .slice none 0 0] 24)) (n := w1.heap.size + 1) (.cells #[.int .i64 6, .int .i64 (1 + n % 20), .string ⟨#[]⟩, .slice (some ⟨w1.heap.size, 0, none⟩) 1 1] 24) (by simp))
  have HB2 := Aside0.mk (below_alloc (below_alloc HB1.out (.cells #[.int .i64 4, .int .i64 0, .string ⟨#[]⟩, .slice none 0 0] 24)) (.cells #[.int .i64 6, .int .i64 (1 + n % 20), .string ⟨#[]⟩, .slice (some ⟨w1.heap.size, 0, none⟩) 1 1] 24))
  generalize (w1.alloc (.cells #[.int .i64 4, .int .i64 0, .string ⟨#[]⟩, .slice none 0 0] 24)).alloc (.cells #[.int .i64 6, .int .i64 (1 + n % 20), .string ⟨#[]⟩, .slice (some ⟨w1.heap.size, 0, none⟩) 1 1] 24) = W2 at HX HY HB2 ⊢
  generalize w1.heap.size + 1 = g9 at HY ⊢
  generalize w1.heap.size = g1 at HX HY ⊢
  generalize 1 + n % 20 = m at HX HY hm ⊢
  generalize n % 20 = n20
  clear HB1 hn
  have hm8 : ¬ 8 * m = 0 := by omega
  have hmb : (8 * m == 0) = false := beq_eq_false_iff_ne.mpr hm8
  go_upto_region 5 with (fail)
  have hat : 0 ≤ off % (8 * m) ∧ off % (8 * m) < 8 * m := ⟨Int.emod_nonneg _ (by omega), Int.emod_lt_of_pos _ (by omega)⟩
  generalize off % (8 * m) = at_ at hat ⊢
  clear ho
  obtain ⟨q, hq⟩ : ∃ q, Int.tmod at_ 8 = q := ⟨_, rfl⟩
  have hqb : 0 ≤ q ∧ q < 8 ∧ ∃ d, at_ = 8 * d + q := by
    have h1 : Int.tmod at_ 8 = at_ % 8 := Int.tmod_eq_emod_of_nonneg hat.1
    rw [h1] at hq
    exact ⟨by omega, by omega, ⟨at_ / 8, by omega⟩⟩
  obtain ⟨hq0, hq8, hd0⟩ := hqb
  have HD := Aside0.mk hd0
  clear hd0
  have hw1 : wrap64 (8 - q) = 8 - q := by unfold wrap64; omega
  have hn8 : ¬ (8 - q) = 0 := by omega
  have hn8b : ((8 - q) == 0) = false := beq_eq_false_iff_ne.mpr hn8
  go_upto_region 6 with (fail)
  obtain ⟨d, hd⟩ := HD.out
  have hj : 0 ≤ k % (8 - q) ∧ k % (8 - q) < 8 - q := ⟨Int.emod_nonneg _ (by omega), Int.emod_lt_of_pos _ (by omega)⟩
  generalize k % (8 - q) = j at hj ⊢
  obtain ⟨b, hb⟩ : ∃ b, (if at_ + j = 8 * m then at_ + j else Int.tmod (at_ + j) 8) = b := ⟨_, rfl⟩
  have HN1 := Aside0.mk (fun W h => norm_at m at_ q hm ⟨hat.1, by omega⟩ (by rw [if_neg (by omega)]; exact hq) g1 W h)
  have HN2 := Aside0.mk (fun W h => norm_at m (at_ + j) b hm ⟨by omega, by omega⟩ hb g1 W h)
  have hsum : at_ + j ≠ 8 * m → b = q + j := fun hne => by
    rw [if_neg hne] at hb
    rw [← hb, Int.tmod_eq_emod_of_nonneg (by omega)]
    omega
  have HSUM := Aside0.mk hsum
  have hwj : wrap64 (at_ + j) = at_ + j := by unfold wrap64; omega
  have hwq : wrap64 (q + j) = q + j := by unfold wrap64; omega
  have HQ := Aside0.mk hq
  have HBQ := Aside0.mk (show 0 ≤ q ∧ q < 8 ∧ 0 ≤ j ∧ j < 8 ∧ 1 ≤ m ∧ m ≤ 20 ∧ 0 ≤ at_ ∧ at_ < 160 from by omega)
  clear hk hsum hb hw1 hn8 hn8b hm8 hmb hd d HD hq0 hq8 hj
  obtain ⟨z0, z1, z2, z3⟩ := cell4 HY.out
  go_upto_region 7 with (go_at_call 12; with_reducible refine (HN1.out _ HX.out).mono ?_; rintro e1 w3 ⟨rfl, hb⟩; have HB3 := Aside0.mk (below_step HB2.out hb); have HX3 := Aside0.mk (blk_below HX.out hb); have HY3 := Aside0.mk (blk_below HY.out hb); clear hb)
  clear z0 z1 z2 z3
  obtain ⟨z0, z1, z2, z3⟩ := cell4 HY3.out
  go_upto_region 8 with (go_at_call 12; with_reducible refine (HN2.out _ HX3.out).mono ?_; rintro e1 w4 ⟨rfl, hb⟩; have HB4 := Aside0.mk (below_step HB3.out hb); clear hb)
  have hw8 : wrap64 (8 * m) = 8 * m := by have := HBQ.out; unfold wrap64; omega
  by_cases he : at_ + j = 8 * m
  · have hb1 : (at_ + j == 8 * m) = true := beq_iff_eq.mpr he
    clear he
    go_wp2_with fail
    go_ret
    exact ⟨rfl, HB4.out⟩
  · have hb1 : (at_ + j == 8 * m) = false := beq_eq_false_iff_ne.mpr he
    have hbb := HSUM.out he
    subst hbb
    clear he
    go_wp2_with fail
    go_ret
    exact ⟨rfl, HB4.out⟩
end Go.Proofs.Ytndcnhbcconbcaa.G
