/- The law MemFills of mem is true: its walk. No condition. -/
import Derived.Test.YteogfjhmjlelnaaMu
import Derived.Test.YteogfjhmjlelnaaMv
set_option linter.unusedVariables false
set_option linter.unusedSimpArgs false
namespace Go.Proofs.Yteogfjhmjlelnaa.G
open Go.RowKit Go.Proofs.Yteogfjhmjlelnaa.B Go.Proofs.YteogfjhmjlelnaaW.PrintWords Go.Proofs.YteogfjhmjlelnaaW.PrintLast Go.Proofs.YteogfjhmjlelnaaW.PrintMore

def f0 : List Bt := List.replicate 64 z0
theorem f0_len : f0.length = 64 := rfl
theorem fi_a : allocS [] 0 64 false = (one 0 f0, 1, 0) := rfl
def f2 (a : Nat) : List Bt := over f0 (a - a % 8) (ptrSeg ⟨1, 1, 0⟩)
def f3 (a k : Nat) (c : Int) : List Bt := over (f2 a) a (List.replicate k ⟨1, c % 256, ⟨0, 0, 0⟩⟩)
theorem bytes_one (l : List Bt) : bytesS (one 0 l) 1 = l := rfl
theorem ptr8 (x : Vl) : (ptrSeg x).length = 8 := by simp [ptrSeg]
theorem f2_len {a : Nat} (h : a < 64) : (f2 a).length = 64 := by
  unfold f2; rw [over_length (by rw [ptr8, f0_len]; omega), f0_len]
theorem f3_len {a k : Nat} (c : Int) (h : a + k ≤ 64) (ha : a < 64) : (f3 a k c).length = 64 := by
  unfold f3; rw [over_length (by rw [List.length_replicate, f2_len ha]; exact h), f2_len ha]
theorem fi_s {a : Nat} (h : a < 64) (q : Int) (hq : q = ((a - a % 8 : Nat) : Int)) : storeS (one 0 f0) (vat q) 8 (vat 1) = (one 0 (f2 a), 0) := by
  subst hq
  unfold storeS
  rw [if_pos (show isW 8 = true from rfl), one_ok (by omega) (by decide) (by decide) (by rw [f0_len]; omega)]
  show ((one 0 (over f0 ((a - a % 8 : Nat) : Int).toNat (ptrSeg (vat 1)))), (0 : Int)) = _
  rw [Int.toNat_natCast]
  rfl
theorem fi_f {a k : Nat} (c : Int) (h : a + k ≤ 64) (ha : a < 64) : fillS (one 0 (f2 a)) (vat a) ⟨c, 0, 0⟩ ⟨k, 0, 0⟩ = (one 0 (f3 a k c), 0) := by
  unfold fillS
  rw [show (⟨(k : Int), 0, 0⟩ : Vl).n = (k : Int) from rfl, one_ok (by omega) (by omega) (by omega) (by rw [f2_len ha]; omega)]
  rfl
theorem fi_g {a k : Nat} (c : Int) (h : 64 < a + k) (ha : a < 64) : fillS (one 0 (f2 a)) (vat a) ⟨c, 0, 0⟩ ⟨k, 0, 0⟩ = (one 0 (f2 a), 9) := by
  unfold fillS
  rw [show (⟨(k : Int), 0, 0⟩ : Vl).n = (k : Int) from rfl, one_no (by rw [f2_len ha]; omega)]
theorem f3_get {a k : Nat} (c : Int) (h : a + k ≤ 64) (ha : a < 64) {i : Nat} (h1 : a ≤ i) (h2 : i < a + k) : (f3 a k c)[i]? = some ⟨1, c % 256, ⟨0, 0, 0⟩⟩ := by
  unfold f3
  rw [over_get (by rw [List.length_replicate, f2_len ha]; exact h), if_neg (by omega), if_pos (by rw [List.length_replicate]; exact h2), List.getElem?_replicate, if_pos (by omega)]
theorem fi_l {a k : Nat} (c : Int) (h : a + k ≤ 64) (ha : a < 64) (hk : 0 < k) : loadS (one 0 (f3 a k c)) (vat a) 1 = (⟨c % 256, 0, 0⟩, 0) := by
  rw [load_one (x := ⟨1, c % 256, ⟨0, 0, 0⟩⟩) (by omega) (by rw [f3_len c h ha]; decide) (by rw [Int.toNat_natCast]; exact f3_get c h ha (Nat.le_refl _) (by omega)), byte_num]
  congr 2
  unfold wrap64; omega
set_option maxRecDepth 100000 in
set_option maxHeartbeats 16000000 in
theorem MemFills_in (c : Int) (F M a k : Nat) (hF : F ≤ 255) (hM : M ≤ 255) (haF : F % 64 = a) (hkM : M % 65 = k) (hak : a + k ≤ 64) (hk0 : 0 < k) (w : World) :
    Calls Try.prog 6 #[.int .i64 c, .int .u8 F, .int .u8 M] w fun e w' => e = .returned (.bool true) ∧ Below w.heap.size w w' := by
  have ha : a < 64 := by omega
  have hk65 : k < 65 := by omega
  go_enter Try.func6, Try.ntmps6
  go_upto_region 4 with (first | (go_at_call 10; refine (shown_calls _).mono ?_; rintro e wn ⟨rfl, hk⟩; have HB := Aside0.mk hk; clear hk) | (go_at_call 11; refine (Live.new _ HB.out).mono ?_; rintro e wn ⟨rfl, hL, hk⟩; have HL := Aside0.mk hL; clear hL hk) | (go_at_call 12; refine (HL.out.alloc (by decide) 0 64 false _ fi_a).mono ?_; rintro e wn ⟨rfl, gs1, hL, hk⟩; replace HL := Aside0.mk hL; clear hL hk))
  clear HB
  go_upto_region 6 with (fail)
  rw [show (F : Int) % 64 = ((F % 64 : Nat) : Int) by omega, show (M : Int) % 65 = ((M % 65 : Nat) : Int) by omega, haF, hkM]
  have HAK := Aside0.mk hak
  clear haF hkM hF hM hak
  skip
  skip
  go_upto_region 7 with (first | (go_at_call 15; refine (at_calls _ _).mono ?_; rintro e wn ⟨rfl, hk⟩; replace HL := Aside0.mk (HL.out.low hk); clear hk) | (go_at_call 16; refine (HL.out.store (vat ((a : Int) - (a : Int) % 8)) 8 (vat 1) _ (fi_s ha _ (by omega))).mono ?_; rintro e wn ⟨rfl, hL, hk⟩; replace HL := Aside0.mk hL; clear hL hk))
  go_upto_region 8 with (first | (go_at_call 15; refine (at_calls _ _).mono ?_; rintro e wn ⟨rfl, hk⟩; replace HL := Aside0.mk (HL.out.low hk); clear hk) | (go_at_call 19; refine (HL.out.fill (vat a) ⟨c, 0, 0⟩ ⟨k, 0, 0⟩ _ (fi_f c HAK.out ha)).mono ?_; rintro e wn ⟨rfl, hL, hk⟩; replace HL := Aside0.mk hL; clear hL hk))
  have hle : (a : Int) + (k : Int) ≤ 64 := by have := HAK.out; omega
  go_upto_region 11 with (first | (go_at_call 17; refine (HL.out.bytes 1 (f3 a k c) (bytes_one _)).mono ?_; rintro e wn ⟨A1, c1, rfl, hL, hK, hk⟩; replace HL := Aside0.mk hL; have HK := Aside0.mk hK; clear hL hK hk))
  rw [(f3_len c HAK.out ha)]
  go_upto_block 0 with (fail)
  obtain ⟨_, _, he1, _, hr1⟩ := HK.out.row.form
  have HLK := Aside0.mk (HL.out)
  have HROW := Aside0.mk HK.out
  clear he1 hr1
  go_wp2_with fail
  go_loopw [14] (fun i wx => ∃ j : Nat, a ≤ j ∧ j ≤ a + k ∧ i = .int .i64 j ∧ wx = wn) (fun i _ => a + k - (intOf i).toNat)
  case atStart => exact ⟨a, Nat.le_refl _, by omega, rfl, rfl⟩
  case round =>
    obtain ⟨j, hja, hj, rfl, rfl⟩ := hrel
    by_cases hlt : j < a + k
    · obtain ⟨A', c', he, _, hr⟩ := HROW.out.row.form
      rw [(f3_len c HAK.out ha)] at he
      injection he with he _ _
      subst he
      obtain ⟨g1, hg1, hc1⟩ := hr j _ (f3_get c HAK.out ha hja hlt)
      subst hg1
      clear hr
      have hjl : ((j : Int) < (a : Int) + (k : Int)) := by omega
      have hj64 : ((j : Int) < 64) := by have := HAK.out; omega
      have hj0 : (0 : Int) ≤ j := by omega
      have hwj : IntKind.i64.wrap ((j : Int) + 1) = (j : Int) + 1 := by rw [IntKind.wrap_i64]; omega
      go_wp2_with fail
      go_roundw
      case rel => exact ⟨j + 1, by omega, by omega, by go_num, trivial⟩
      case measure => simp [intOf]; omega
    · have hnl : (a : Int) + (k : Int) ≤ (j : Int) := by omega
      clear hlt hj hja
      have hw1 : wrap64 (c % 256) = c % 256 := by unfold wrap64; omega
      have hw2 : IntKind.i64.wrap (c % 256) = c % 256 := by rw [IntKind.wrap_i64]; omega
      have hk2 : ((k : Int) == 0) = false := beq_eq_false_iff_ne.mpr (by omega)
      go_upto_region 19 with (first | (go_at_call 15; refine (at_calls _ _).mono ?_; rintro e wn ⟨rfl, hk⟩; replace HL := Aside0.mk (HL.out.low hk); clear hk) | (go_at_call 14; refine (HL.out.load (vat a) 1 _ (fi_l c HAK.out ha hk0)).mono ?_; rintro e wn ⟨rfl, hL, hk⟩; replace HL := Aside0.mk hL; clear hL hk))
      have hk := below_alloc (Below.refl wn.heap.size wn) (.cells #[.int .i64 (c % 256), .int .i64 0, .int .i64 0] 23)
      have HX := Aside0.mk (blk_new wn (.cells #[.int .i64 (c % 256), .int .i64 0, .int .i64 0] 23))
      replace HL := Aside0.mk (HL.out.low hk)
      clear hk
      generalize wn.heap.size = g15 at HX ⊢
      generalize wn.alloc (.cells #[.int .i64 (c % 256), .int .i64 0, .int .i64 0] 23) = wn at HL HX ⊢
      have hx := cell3 HX.out
      clear HX
      go_wp2_with fail
      go_ret
      exact ⟨rfl, HL.out.below⟩
set_option maxRecDepth 100000 in
set_option maxHeartbeats 16000000 in
theorem MemFills_zero (c : Int) (F M a k : Nat) (hF : F ≤ 255) (hM : M ≤ 255) (haF : F % 64 = a) (hkM : M % 65 = k) (hak : a + k ≤ 64) (hk0 : k = 0) (w : World) :
    Calls Try.prog 6 #[.int .i64 c, .int .u8 F, .int .u8 M] w fun e w' => e = .returned (.bool true) ∧ Below w.heap.size w w' := by
  have ha : a < 64 := by omega
  have hk65 : k < 65 := by omega
  go_enter Try.func6, Try.ntmps6
  go_upto_region 4 with (first | (go_at_call 10; refine (shown_calls _).mono ?_; rintro e wn ⟨rfl, hk⟩; have HB := Aside0.mk hk; clear hk) | (go_at_call 11; refine (Live.new _ HB.out).mono ?_; rintro e wn ⟨rfl, hL, hk⟩; have HL := Aside0.mk hL; clear hL hk) | (go_at_call 12; refine (HL.out.alloc (by decide) 0 64 false _ fi_a).mono ?_; rintro e wn ⟨rfl, gs1, hL, hk⟩; replace HL := Aside0.mk hL; clear hL hk))
  clear HB
  go_upto_region 6 with (fail)
  rw [show (F : Int) % 64 = ((F % 64 : Nat) : Int) by omega, show (M : Int) % 65 = ((M % 65 : Nat) : Int) by omega, haF, hkM]
  have HAK := Aside0.mk hak
  clear haF hkM hF hM hak
  have HK0 := Aside0.mk hk0
  clear hk0
  go_upto_region 7 with (first | (go_at_call 15; refine (at_calls _ _).mono ?_; rintro e wn ⟨rfl, hk⟩; replace HL := Aside0.mk (HL.out.low hk); clear hk) | (go_at_call 16; refine (HL.out.store (vat ((a : Int) - (a : Int) % 8)) 8 (vat 1) _ (fi_s ha _ (by omega))).mono ?_; rintro e wn ⟨rfl, hL, hk⟩; replace HL := Aside0.mk hL; clear hL hk))
  go_upto_region 8 with (first | (go_at_call 15; refine (at_calls _ _).mono ?_; rintro e wn ⟨rfl, hk⟩; replace HL := Aside0.mk (HL.out.low hk); clear hk) | (go_at_call 19; refine (HL.out.fill (vat a) ⟨c, 0, 0⟩ ⟨k, 0, 0⟩ _ (fi_f c HAK.out ha)).mono ?_; rintro e wn ⟨rfl, hL, hk⟩; replace HL := Aside0.mk hL; clear hL hk))
  have hle : (a : Int) + (k : Int) ≤ 64 := by have := HAK.out; omega
  go_upto_region 11 with (first | (go_at_call 17; refine (HL.out.bytes 1 (f3 a k c) (bytes_one _)).mono ?_; rintro e wn ⟨A1, c1, rfl, hL, hK, hk⟩; replace HL := Aside0.mk hL; have HK := Aside0.mk hK; clear hL hK hk))
  rw [(f3_len c HAK.out ha)]
  go_upto_block 0 with (fail)
  rcases hxg : loadS (one 0 (f3 a k c)) (vat a) 1 with ⟨x, g⟩
  have HROW := Aside0.mk HK.out
  go_wp2_with fail
  go_loopw [14] (fun i wx => i = .int .i64 a ∧ wx = wn) (fun i _ => 0)
  case atStart => exact ⟨rfl, rfl⟩
  case round =>
    obtain ⟨rfl, rfl⟩ := hrel
    have hk2 : ((k : Int) == 0) = true := by rw [HK0.out]; rfl
    have hnl : (a : Int) + (k : Int) ≤ (a : Int) := by have := HK0.out; omega
    go_upto_region 19 with (first | (go_at_call 15; refine (at_calls _ _).mono ?_; rintro e wn ⟨rfl, hk⟩; replace HL := Aside0.mk (HL.out.low hk); clear hk) | (go_at_call 14; refine (HL.out.load (vat a) 1 (x, g) hxg).mono ?_; rintro e wn ⟨rfl, hL, hk⟩; replace HL := Aside0.mk hL; clear hL hk))
    have hk := below_alloc (Below.refl wn.heap.size wn) (.cells #[.int .i64 x.n, .int .i64 x.b, .int .i64 x.f] 23)
    have HX := Aside0.mk (blk_new wn (.cells #[.int .i64 x.n, .int .i64 x.b, .int .i64 x.f] 23))
    replace HL := Aside0.mk (HL.out.low hk)
    clear hk
    generalize wn.heap.size = g15 at HX ⊢
    generalize wn.alloc (.cells #[.int .i64 x.n, .int .i64 x.b, .int .i64 x.f] 23) = wn at HL HX ⊢
    have hx := cell3 HX.out
    clear HX
    go_wp2_with fail
    go_ret
    exact ⟨rfl, HL.out.below⟩
set_option maxRecDepth 100000 in
set_option maxHeartbeats 16000000 in
theorem MemFills_out (c : Int) (F M a k : Nat) (hF : F ≤ 255) (hM : M ≤ 255) (haF : F % 64 = a) (hkM : M % 65 = k) (hak : 64 < a + k) (w : World) :
    Calls Try.prog 6 #[.int .i64 c, .int .u8 F, .int .u8 M] w fun e w' => e = .returned (.bool true) ∧ Below w.heap.size w w' := by
  have ha : a < 64 := by omega
  have hk65 : k < 65 := by omega
  go_enter Try.func6, Try.ntmps6
  go_upto_region 4 with (first | (go_at_call 10; refine (shown_calls _).mono ?_; rintro e wn ⟨rfl, hk⟩; have HB := Aside0.mk hk; clear hk) | (go_at_call 11; refine (Live.new _ HB.out).mono ?_; rintro e wn ⟨rfl, hL, hk⟩; have HL := Aside0.mk hL; clear hL hk) | (go_at_call 12; refine (HL.out.alloc (by decide) 0 64 false _ fi_a).mono ?_; rintro e wn ⟨rfl, gs1, hL, hk⟩; replace HL := Aside0.mk hL; clear hL hk))
  clear HB
  go_upto_region 6 with (fail)
  rw [show (F : Int) % 64 = ((F % 64 : Nat) : Int) by omega, show (M : Int) % 65 = ((M % 65 : Nat) : Int) by omega, haF, hkM]
  have HAK := Aside0.mk hak
  clear haF hkM hF hM hak
  skip
  skip
  go_upto_region 7 with (first | (go_at_call 15; refine (at_calls _ _).mono ?_; rintro e wn ⟨rfl, hk⟩; replace HL := Aside0.mk (HL.out.low hk); clear hk) | (go_at_call 16; refine (HL.out.store (vat ((a : Int) - (a : Int) % 8)) 8 (vat 1) _ (fi_s ha _ (by omega))).mono ?_; rintro e wn ⟨rfl, hL, hk⟩; replace HL := Aside0.mk hL; clear hL hk))
  go_upto_region 8 with (first | (go_at_call 15; refine (at_calls _ _).mono ?_; rintro e wn ⟨rfl, hk⟩; replace HL := Aside0.mk (HL.out.low hk); clear hk) | (go_at_call 19; refine (HL.out.fill (vat a) ⟨c, 0, 0⟩ ⟨k, 0, 0⟩ _ (fi_g c HAK.out ha)).mono ?_; rintro e wn ⟨rfl, hL, hk⟩; replace HL := Aside0.mk hL; clear hL hk))
  have hle : (64 : Int) < (a : Int) + (k : Int) := by have := HAK.out; omega
  go_upto_region 11 with (first | (go_at_call 17; refine (HL.out.bytes 1 (f2 a) (bytes_one _)).mono ?_; rintro e wn ⟨A1, c1, rfl, hL, hK, hk⟩; replace HL := Aside0.mk hL; have HK := Aside0.mk hK; clear hL hK hk))
  rw [(f2_len ha)]
  go_upto_block 0 with (fail)
  rcases hxg : loadS (one 0 (f2 a)) (vat a) 1 with ⟨x, g⟩
  have HROW := Aside0.mk HK.out
  go_wp2_with fail
  go_loopw [14] (fun i wx => i = .int .i64 a ∧ wx = wn) (fun i _ => 0)
  case atStart => exact ⟨rfl, rfl⟩
  case round =>
    obtain ⟨rfl, rfl⟩ := hrel
    go_upto_region 19 with (first | (go_at_call 15; refine (at_calls _ _).mono ?_; rintro e wn ⟨rfl, hk⟩; replace HL := Aside0.mk (HL.out.low hk); clear hk) | (go_at_call 14; refine (HL.out.load (vat a) 1 (x, g) hxg).mono ?_; rintro e wn ⟨rfl, hL, hk⟩; replace HL := Aside0.mk hL; clear hL hk))
    have hk := below_alloc (Below.refl wn.heap.size wn) (.cells #[.int .i64 x.n, .int .i64 x.b, .int .i64 x.f] 23)
    have HX := Aside0.mk (blk_new wn (.cells #[.int .i64 x.n, .int .i64 x.b, .int .i64 x.f] 23))
    replace HL := Aside0.mk (HL.out.low hk)
    clear hk
    generalize wn.heap.size = g15 at HX ⊢
    generalize wn.alloc (.cells #[.int .i64 x.n, .int .i64 x.b, .int .i64 x.f] 23) = wn at HL HX ⊢
    have hx := cell3 HX.out
    clear HX
    go_wp2_with fail
    go_ret
    exact ⟨rfl, HL.out.below⟩
theorem MemFills_row (c F M : Int) (hF : 0 ≤ F ∧ F ≤ 255) (hM : 0 ≤ M ∧ M ≤ 255) (w : World) :
    Calls Try.prog 6 #[.int .i64 c, .int .u8 F, .int .u8 M] w fun e w' => e = .returned (.bool true) ∧ Below w.heap.size w w' := by
  obtain ⟨F, rfl⟩ := Int.eq_ofNat_of_zero_le hF.1
  obtain ⟨M, rfl⟩ := Int.eq_ofNat_of_zero_le hM.1
  by_cases h : F % 64 + M % 65 ≤ 64
  · by_cases h0 : 0 < M % 65
    · exact MemFills_in c F M _ _ (by omega) (by omega) rfl rfl h h0 w
    · exact MemFills_zero c F M _ _ (by omega) (by omega) rfl rfl h (by omega) w
  · exact MemFills_out c F M _ _ (by omega) (by omega) rfl rfl (by omega) w
end Go.Proofs.Yteogfjhmjlelnaa.G
