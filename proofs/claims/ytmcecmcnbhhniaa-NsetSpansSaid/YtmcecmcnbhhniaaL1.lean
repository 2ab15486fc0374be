/- The law NsetRuns of nset is true: its walk. No condition. -/
import Derived.Test.YtmcecmcnbhhniaaNg
import Derived.Test.YtmcecmcnbhhniaaPc
set_option linter.unusedVariables false
set_option linter.unusedSimpArgs false
namespace Go.Proofs.Ytmcecmcnbhhniaa.G
open Go.RowKit Go.Proofs.Ytmcecmcnbhhniaa.B Go.Proofs.YtmcecmcnbhhniaaW.PrintWords Go.Proofs.YtmcecmcnbhhniaaW.PrintLast Go.Proofs.YtmcecmcnbhhniaaW.PrintMore

theorem new_empty (w : World) : Calls Try.prog 11 #[.slice none 0 0] w fun e w' => ∃ gs, e = .returned (.pointer (some ⟨gs, 0, none⟩)) ∧ ∃ R, Made w w' gs R [] :=
  new_calls (xs := []) (Kd.C_of_reads (enc := Value.int .i64) (d := (0 : Int)) (h1 := fun _ => rfl) ⟨rfl, by simp, fun h => by simp at h⟩) (by simp)
set_option maxRecDepth 100000 in
set_option maxHeartbeats 8000000 in
theorem NsetRuns_walk (f many turn : Int) (hf : 0 ≤ f ∧ f ≤ 65535) (hm : 0 ≤ many ∧ many ≤ 255) (ht : 0 ≤ turn ∧ turn ≤ 255) (w : World) :
    Calls Try.prog 3 #[.int .u16 f, .int .u8 many, .int .u8 turn] w fun e w' => e = .returned (.bool true) ∧ Below w.heap.size w w' := by
  have HF := Aside0.mk hf
  have hm1 := hm.1
  have ht1 := ht.1
  clear hf
  go_enter Try.func3, Try.ntmps3
  go_upto_region 2 with (go_at_call 10; with_reducible refine (shown_calls _).mono ?_; rintro e w1 ⟨rfl, hk⟩; have HB := Aside0.mk hk; clear hk)
  go_upto_region 7 with (go_at_call 11; with_reducible refine (new_empty _).mono ?_; rintro e w2 ⟨gs, rfl, R, hM⟩; have HM := Aside0.mk hM; clear hM)
  generalize hNI : 1 + many % 100 = NI
  generalize hSI : 1 + turn % 7 = SI
  obtain ⟨N, rfl⟩ : ∃ N : Nat, NI = (N : Int) := ⟨NI.toNat, by omega⟩
  obtain ⟨s, rfl⟩ : ∃ s : Nat, SI = (s : Int) := ⟨SI.toNat, by omega⟩
  have hNs : 0 < N ∧ N ≤ 100 ∧ 0 < s ∧ s ≤ 7 := by omega
  have HN := Aside0.mk hNs
  clear hNI hSI hNs hm1 ht1 hm ht
  generalize many % 100 = m1
  generalize turn % 7 = m2
  go_upto_block 0 with (fail)
  go_wp2_with fail
  go_loopw [11] (fun kv wx => ∃ (k : Nat) (R : Option Nat) (l : List Sp), k ≤ s ∧ kv = .int .i64 (k : Int) ∧ Hid (Made w1 wx gs R l) ∧ Hid (Vis f N s k 0 l)) (fun kv _ => s - (intOf kv).toNat)
  case atStart => exact ⟨0, R, [], Nat.zero_le _, rfl, HM.out, Vis.start f N s⟩
  case round =>
    obtain ⟨k, R, l, hk, rfl, hM, hV⟩ := hrel
    replace HM : Aside0 (Made w1 wr gs R l) := Aside0.mk hM
    have HV : Aside0 (Vis f N s k 0 l) := Aside0.mk hV
    clear hM hV
    by_cases hlt : (k : Int) < (s : Int)
    · have HK := Aside0.mk hlt
      clear hk
      go_upto_block 2 with (fail)
      go_wp2_with fail
      clear hlt
      go_loopw [12] (fun iv wx => ∃ (i : Nat) (R : Option Nat) (l : List Sp), i % s = k ∧ i ≤ 200 ∧ iv = .int .i64 (i : Int) ∧ Hid (Made w1 wx gs R l) ∧ Hid (Vis f N s k i l)) (fun iv _ => 200 - (intOf iv).toNat)
      case atStart => exact ⟨k, R, l, Nat.mod_eq_of_lt (by have := HK.out; omega), by have := HK.out; have := HN.out; omega, rfl, HM.out, HV.out.enter⟩
      case round =>
        clear HM HV
        obtain ⟨i, R2, l2, hi, hi2, rfl, hM, hV⟩ := hrel
        have HM : Aside0 (Made w1 wr gs R2 l2) := Aside0.mk hM
        have HV : Aside0 (Vis f N s k i l2) := Aside0.mk hV
        have HI : Aside0 (i % s = k ∧ i ≤ 200) := Aside0.mk ⟨hi, hi2⟩
        clear hM hV hi
        by_cases hlt : (i : Int) < (N : Int)
        · have hf2 := HF.out
          have hn2 := HN.out
          have hwa : wrap64 (wrap64 f + (i : Int)) = f + (i : Int) := by unfold wrap64; omega
          have HWA := Aside0.mk hwa
          clear hwa
          have hwb : IntKind.i64.wrap ((i : Int) + (s : Int)) = (i : Int) + (s : Int) := by rw [IntKind.wrap_i64]; omega
          have hadd : (addS l2 (f + (i : Int))).2 = true := (add_spec HM.out.wf _).2.2.2 ⟨by unfold inRange; omega, HV.out.fresh HI.out.1⟩
          have HA := Aside0.mk hadd
          have HLT := Aside0.mk hlt
          clear hf2 hn2 hadd hi2
          go_wp2_with (go_at_call 12; rw [HWA.out]; refine (add_calls HM.out.set HM.out.below.size HM.out.wf _).mono ?_; rintro e wn ⟨rfl, hL⟩; rw [HA.out]; have HL := Aside0.mk hL; clear hL)
          obtain ⟨R3, hM3, _⟩ := Left.made HM.out HL.out (add_spec HM.out.wf _).1
          have hf2 := HF.out
          have hn2 := HN.out
          have hi3 := HI.out
          have hV3 : Vis f N s k (i + s) (addS l2 (f + (i : Int))).1 := HV.out.step hn2.2.2.1 hi3.1 (by omega) (fun x => ((add_spec HM.out.wf _).2.1 x).trans (or_congr Iff.rfl ⟨fun h => h.1, fun h => ⟨h, by unfold inRange; omega⟩⟩))
          go_roundw
          case rel => exact ⟨i + s, R3, _, by rw [Nat.add_mod_right]; exact hi3.1, by omega, by go_num, hM3, hV3⟩
          case measure => simp [intOf]; omega
        · have HLT := Aside0.mk hlt
          have hk2 := HK.out
          have hn2 := HN.out
          have hwk : IntKind.i64.wrap ((k : Int) + 1) = (k : Int) + 1 := by rw [IntKind.wrap_i64]; omega
          clear hn2 hk2 hi2
          go_wp2_with fail
          have hk2 := HK.out
          go_roundw
          case rel => exact ⟨k + 1, R2, l2, by omega, by go_num, HM.out, HV.out.leave (by have := HLT.out; omega)⟩
          case measure => simp [intOf]; omega
    · have hks : k = s := by omega
      subst hks
      have hf2 := HF.out
      have hn2 := HN.out
      have hl : l = [⟨f, f + (N : Int) - 1⟩] := HV.out.done HM.out.wf hn2.2.2.1 hn2.1 hf2.1 (by omega)
      subst hl
      have hsp : spansS [⟨f, f + (N : Int) - 1⟩] = [f, f + (N : Int) - 1] := rfl
      have hln : lenS [⟨f, f + (N : Int) - 1⟩] = (N : Int) := by show (f + (N : Int) - 1 - f + 1) + 0 = _; omega
      have hh1 : hasS [⟨f, f + (N : Int) - 1⟩] (f - 1) = false := (hasS_false HM.out.wf _).2 (fun h => by rcases (inS_cons ..).1 h with ⟨h1, _⟩ | h1; have h1' : f ≤ f - 1 := h1; omega; exact inS_nil _ h1)
      have hh2 : hasS [⟨f, f + (N : Int) - 1⟩] (f + (N : Int)) = false := (hasS_false HM.out.wf _).2 (fun h => by rcases (inS_cons ..).1 h with ⟨_, h1⟩ | h1; have h1' : f + (N : Int) ≤ f + (N : Int) - 1 := h1; omega; exact inS_nil _ h1)
      have HQ := Aside0.mk (And.intro hsp (And.intro hln (And.intro hh1 hh2)))
      clear hf2 hn2 hsp hln hh1 hh2 hk HV
      have HWA : Aside0 (wrap64 f = f) := Aside0.mk (by have := HF.out; unfold wrap64; omega)
      have HWB : Aside0 (wrap64 (wrap64 (wrap64 f + (N : Int)) - 1) = f + (N : Int) - 1) := Aside0.mk (by have := HF.out; have := HN.out; unfold wrap64; omega)
      have HWC : Aside0 (wrap64 (wrap64 f - 1) = f - 1) := Aside0.mk (by have := HF.out; unfold wrap64; omega)
      have HWD : Aside0 (wrap64 (wrap64 f + (N : Int)) = f + (N : Int)) := Aside0.mk (by have := HF.out; have := HN.out; unfold wrap64; omega)
      go_upto_region 15 with (fail)
      go_wp2_with (first | (go_at_call 14; refine (spans_calls HM.out.set HM.out.wf).mono ?_; rintro e wn ⟨A, c, rfl, hR, hk⟩; rw [HQ.out.1] at hR ⊢; have HR : Aside0 (RowI wn wr.heap.size (.slice A 2 c) [f, f + (N : Int) - 1]) := Aside0.mk hR; replace HM := Aside0.mk (HM.out.low hk); clear hR hk) | (go_at_call 13; rw [HWB.out, HWA.out]; with_reducible refine (ints_two HR.out).mono ?_; rintro e w5 ⟨rfl, hk⟩; replace HM := Aside0.mk (HM.out.low hk); clear hk) | (go_at_call 15; refine (len_calls HM.out.set HM.out.wf).mono ?_; rintro e w6 ⟨rfl, hk⟩; rw [HQ.out.2.1]; replace HM := Aside0.mk (HM.out.low hk); clear hk) | (go_at_call 16; rw [HWC.out]; refine (has_calls HM.out.set HM.out.wf _).mono ?_; rintro e w7 ⟨rfl, hk⟩; rw [HQ.out.2.2.1]; replace HM := Aside0.mk (HM.out.low hk); clear hk) | (go_at_call 16; rw [HWD.out]; refine (has_calls HM.out.set HM.out.wf _).mono ?_; rintro e w8 ⟨rfl, hk⟩; rw [HQ.out.2.2.2]; replace HM := Aside0.mk (HM.out.low hk); clear hk))
      go_ret
      exact ⟨rfl, below_step HB.out HM.out.below⟩
end Go.Proofs.Ytmcecmcnbhhniaa.G
