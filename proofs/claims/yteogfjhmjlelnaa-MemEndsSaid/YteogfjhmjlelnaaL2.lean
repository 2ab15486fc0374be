/- The law MemEnds of mem is true: its walk. No condition. -/
import Derived.Test.YteogfjhmjlelnaaMu
import Derived.Test.YteogfjhmjlelnaaMt
set_option linter.unusedVariables false
set_option linter.unusedSimpArgs false
namespace Go.Proofs.Yteogfjhmjlelnaa.G
open Go.RowKit Go.Proofs.Yteogfjhmjlelnaa.B Go.Proofs.YteogfjhmjlelnaaW.PrintWords Go.Proofs.YteogfjhmjlelnaaW.PrintLast Go.Proofs.YteogfjhmjlelnaaW.PrintMore

def l16 : List Bt := List.replicate 16 z1
def en1 : List Mb := [⟨3, l16, true⟩]
def en2 : List Mb := [⟨3, l16, true⟩, ⟨4, l16, true⟩]
def en3 : List Mb := [⟨3, l16, false⟩, ⟨4, l16, true⟩]
theorem en_a : allocS [] 3 16 true = (en1, 1, 0) := rfl
theorem en_b : allocS en1 4 16 true = (en2, 2, 0) := rfl
theorem en_w : bytesS en2 1 = l16 := rfl
theorem en_e : endS en2 1 = (en3, 0) := rfl
theorem en_gone (p : Vl) (n : Int) (hp : p.b = 1) : okS en3 p n = none := by
  cases hm : okS en3 p n with
  | none => rfl
  | some m =>
    exfalso
    obtain ⟨_, _, _, _, a5, a6, _⟩ := okS_spec hm
    rw [hp] at a6
    have h6 : some (⟨3, l16, false⟩ : Mb) = some m := a6
    cases h6
    cases a5
theorem en_l (n : Int) : loadS en3 (vat n) 8 = (⟨0, 0, 0⟩, 9) := by unfold loadS; rw [if_pos (show isW 8 = true from rfl), en_gone _ _ rfl]
theorem en_s (n : Int) (x : Vl) : storeS en3 (vat n) 8 x = (en3, 9) := by unfold storeS; rw [if_pos (show isW 8 = true from rfl), en_gone _ _ rfl]
theorem en_c1 : copyS en3 (vat 0) ⟨0, 2, 0⟩ 1 = (en3, 9) := by unfold copyS; rw [en_gone _ _ rfl]
theorem en_c2 : copyS en3 ⟨0, 2, 0⟩ (vat 0) 1 = (en3, 9) := by unfold copyS; rw [en_gone (vat 0) _ rfl]; cases okS en3 ⟨0, 2, 0⟩ 1 <;> rfl
theorem en_f : fillS en3 (vat 0) ⟨0, 0, 0⟩ ⟨1, 0, 0⟩ = (en3, 9) := by unfold fillS; rw [en_gone _ _ rfl]
theorem en_k : blockS en3 1 = (3, 16, false) := rfl
theorem en_e2 : endS en3 1 = (en3, 9) := rfl
theorem en_w2 : bytesS en3 1 = l16 := rfl
theorem en_t (x : Int) : (storeS en3 ⟨0, 2, 0⟩ 4 ⟨x, 0, 0⟩).2 = 0 := rfl
theorem l16_len : l16.length = 16 := rfl
set_option maxRecDepth 100000 in
set_option maxHeartbeats 16000000 in
theorem MemEnds_calls (n k v : Int) (hk : -2147483648 ≤ k ∧ k ≤ 2147483647) (w : World) : Calls Try.prog 8 #[.int .i64 n, .int .i32 k, .int .i64 v] w fun e w' => e = .returned (.bool true) ∧ Below w.heap.size w w' := by
  go_enter Try.func8, Try.ntmps8
  go_upto_region 4 with (first | (go_at_call 10; refine (shown_calls _).mono ?_; rintro e w1 ⟨rfl, hb1⟩; have HB1 := Aside0.mk hb1; clear hb1) | (go_at_call 11; refine (Live.new _ HB1.out).mono ?_; rintro e wn ⟨rfl, hL, _⟩; have HL := Aside0.mk hL; clear hL) | (go_at_call 12; refine (HL.out.alloc (by decide) 3 16 true _ en_a).mono ?_; rintro e wn ⟨rfl, gs1, hL, _⟩; replace HL := Aside0.mk hL; clear hL))
  go_upto_region 5 with (first | (go_at_call 12; refine (HL.out.alloc (by decide) 4 16 true _ en_b).mono ?_; rintro e wn ⟨rfl, gs2, hL, _⟩; replace HL := Aside0.mk hL; clear hL))
  go_upto_region 6 with (first | (go_at_call 17; refine (HL.out.bytes 1 l16 en_w).mono ?_; rintro e wn ⟨A1, c1, rfl, hL, hK, _⟩; replace HL := Aside0.mk hL; have HK := Aside0.mk hK; clear hL hK))
  go_upto_region 7 with (first | (go_at_call 21; refine (HL.out.end_ 1 _ en_e).mono ?_; rintro e wn ⟨rfl, hL, hk⟩; replace HL := Aside0.mk hL; replace HK := Aside0.mk (HK.out.fr hk); clear hL hk))
  rw [l16_len]
  go_upto_region 9 with (fail)
  go_upto_region 10 with (first | (go_at_call 15; refine (at_calls _ _).mono ?_; rintro e wn ⟨rfl, hk⟩; replace HL := Aside0.mk (HL.out.low hk); replace HK := Aside0.mk (HK.out.below hk); clear hk) | (go_at_call 14; refine (HL.out.load (vat n) 8 _ (en_l n)).mono ?_; rintro e wn ⟨rfl, hL, hk⟩; replace HL := Aside0.mk hL; replace HK := Aside0.mk (HK.out.below hk); clear hL hk))
  have hk0 := below_alloc (Below.refl wn.heap.size wn) (.cells #[.int .i64 0, .int .i64 0, .int .i64 0] 23)
  replace HL := Aside0.mk (HL.out.low hk0)
  replace HK := Aside0.mk (HK.out.below hk0)
  clear hk0
  generalize wn.alloc (.cells #[.int .i64 0, .int .i64 0, .int .i64 0] 23) = wn at HL HK ⊢
  go_upto_region 11 with (first | (go_at_call 15; refine (at_calls _ _).mono ?_; rintro e wn ⟨rfl, hk⟩; replace HL := Aside0.mk (HL.out.low hk); replace HK := Aside0.mk (HK.out.below hk); clear hk) | (go_at_call 16; refine (HL.out.store (vat n) 8 ⟨v, 0, 0⟩ _ (en_s n _)).mono ?_; rintro e wn ⟨rfl, hL, hk⟩; replace HL := Aside0.mk hL; replace HK := Aside0.mk (HK.out.fr hk); clear hL hk))
  go_upto_region 12 with (first | (go_at_call 15; refine (at_calls _ _).mono ?_; rintro e wn ⟨rfl, hk⟩; replace HL := Aside0.mk (HL.out.low hk); replace HK := Aside0.mk (HK.out.below hk); clear hk) | (go_at_call 18; refine (HL.out.copy (vat 0) ⟨0, 2, 0⟩ 1 _ en_c1).mono ?_; rintro e wn ⟨rfl, hL, hk⟩; replace HL := Aside0.mk hL; replace HK := Aside0.mk (HK.out.fr hk); clear hL hk))
  go_upto_region 13 with (first | (go_at_call 15; refine (at_calls _ _).mono ?_; rintro e wn ⟨rfl, hk⟩; replace HL := Aside0.mk (HL.out.low hk); replace HK := Aside0.mk (HK.out.below hk); clear hk) | (go_at_call 18; refine (HL.out.copy ⟨0, 2, 0⟩ (vat 0) 1 _ en_c2).mono ?_; rintro e wn ⟨rfl, hL, hk⟩; replace HL := Aside0.mk hL; replace HK := Aside0.mk (HK.out.fr hk); clear hL hk))
  go_upto_region 14 with (first | (go_at_call 15; refine (at_calls _ _).mono ?_; rintro e wn ⟨rfl, hk⟩; replace HL := Aside0.mk (HL.out.low hk); replace HK := Aside0.mk (HK.out.below hk); clear hk) | (go_at_call 19; refine (HL.out.fill (vat 0) ⟨0, 0, 0⟩ ⟨1, 0, 0⟩ _ en_f).mono ?_; rintro e wn ⟨rfl, hL, hk⟩; replace HL := Aside0.mk hL; replace HK := Aside0.mk (HK.out.fr hk); clear hL hk))
  go_upto_region 15 with (first | (go_at_call 20; refine (HL.out.block 1 _ en_k).mono ?_; rintro e wn ⟨rfl, hL, hk⟩; replace HL := Aside0.mk hL; replace HK := Aside0.mk (HK.out.below hk); clear hL hk))
  have hw : IntKind.i64.wrap k = k := by rw [IntKind.wrap_i64]; omega
  have HKK := HK
  go_wp2_with (first | (go_at_call 21; refine (HL.out.end_ 1 _ en_e2).mono ?_; rintro e wn ⟨rfl, hL, hk⟩; replace HL := Aside0.mk hL; replace HK := Aside0.mk (HK.out.fr hk); clear hL hk) | (go_at_call 17; refine (HL.out.bytes 1 l16 en_w2).mono ?_; rintro e wn ⟨A2, c2, rfl, hL, hK, hk⟩; replace HL := Aside0.mk hL; replace HK := Aside0.mk (HK.out.below hk); have HJ := Aside0.mk hK; clear hL hK hk; try rw [l16_len]) | (go_at_call 22; refine (same_calls l16 _ _ _ _ _ _ _ HJ.out.row HK.out.row).mono ?_; rintro e wn ⟨rfl, hk⟩; replace HL := Aside0.mk (HL.out.low hk); clear hk) | (go_at_call 16; refine (HL.out.store ⟨0, 2, 0⟩ 4 ⟨k, 0, 0⟩ _ rfl).mono ?_; rintro e wn ⟨rfl, hL, _⟩; replace HL := Aside0.mk hL; clear hL; rw [en_t]))
  go_ret
  exact ⟨rfl, HL.out.below⟩
end Go.Proofs.Yteogfjhmjlelnaa.G
