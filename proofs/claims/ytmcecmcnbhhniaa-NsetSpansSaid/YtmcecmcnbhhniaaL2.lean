/- The law NsetAdds of nset is true: its walk. No condition. -/
import Derived.Test.YtmcecmcnbhhniaaNh
import Derived.Test.YtmcecmcnbhhniaaL1
set_option linter.unusedVariables false
set_option linter.unusedSimpArgs false
namespace Go.Proofs.Ytmcecmcnbhhniaa.G
open Go.RowKit Go.Proofs.Ytmcecmcnbhhniaa.B Go.Proofs.YtmcecmcnbhhniaaW.PrintWords Go.Proofs.YtmcecmcnbhhniaaW.PrintLast Go.Proofs.YtmcecmcnbhhniaaW.PrintMore

theorem RowI.C {W : World} {b : Nat} {A : Option Addr} {n c : Nat} {l : List Int} (h : RowI W b (.slice A n c) l) : n = l.length ∧ l.length ≤ c ∧ Kd.C (Kd.int .i64) W A l.length l := by
  obtain ⟨A', c', he, h1, h2⟩ := h.form
  injection he with h3 h4 h5
  subst h3 h4 h5
  exact ⟨rfl, h1, h2⟩
theorem ints_rows {W : World} {b1 b2 : Nat} {A1 A2 : Option Addr} {c1 c2 : Nat} {l : List Int} (h1 : RowI W b1 (.slice A1 l.length c1) l) (h2 : RowI W b2 (.slice A2 l.length c2) l) (hl : l.length ≤ 4000000) :
    Calls Try.prog 13 #[.slice A1 l.length c1, .slice A2 l.length c2] W fun e w' => e = .returned (.bool true) ∧ Below W.heap.size W w' := ints_same hl h1.C.2.2 h1.C.2.1 h2.C.2.2 h2.C.2.1
theorem spans_len_le {l : List Sp} (h : WF l) : (spansS l).length ≤ 4000000 := by rw [spans_len]; have := len_le h; omega
theorem list_len_le {l : List Sp} (h : WF l) : (listS l).length ≤ 4000000 := by have := listS_len_le h; omega
/-- A call that turns a row of ints alone lets a set be. -/
theorem Made.row {w W W' : World} {gs : Nat} {R : Option Nat} {l : List Sp} {b : Nat} {v : Value} {r : List Int} (h : Made w W gs R l) (hr : RowI W b v r) (hk : Kp W W' (fun k => v.ownBlock = some k)) (hB : Below w.heap.size w W') : Made w W' gs R l :=
  ⟨h.set.keep hk (fun hh => by obtain ⟨c, hc, _⟩ := hr.typed gs hh; exact h.set.not3 gs c (.inl rfl) hc) (fun k hR hh => by obtain ⟨c, hc, _⟩ := hr.typed k hh; exact h.set.not3 k c (.inr hR) hc), h.wf, hB⟩
set_option maxRecDepth 100000 in
set_option maxHeartbeats 8000000 in
theorem NsetAdds_walk (xs : List Int) (A0 : Option Addr) (c0 : Nat) (n : Int) (w : World) (hC : Kd.C (Kd.int .i64) w A0 xs.length xs) (hn : xs.length ≤ c0) :
    Calls Try.prog 4 #[.slice A0 xs.length c0, .int .i64 n] w fun e w' => e = .returned (.bool true) ∧ Below w.heap.size w w' := by
  have HC0 := Aside0.mk (And.intro hC hn)
  clear hC hn
  go_enter Try.func4, Try.ntmps4
  go_upto_region 3 with (first | (go_at_call 10; with_reducible refine (shown_calls _).mono ?_; rintro e w1 ⟨rfl, hk⟩; have HB := Aside0.mk hk; clear hk) | (go_at_call 17; with_reducible refine (few_calls (Kd.C_below HC0.out.1 HB.out) HC0.out.2).mono ?_; rintro e w2 ⟨rfl, hC, hw2⟩; obtain rfl := hw2.symm; have HC := Aside0.mk hC; clear hC))
  have hle := few_len xs
  have hlc : (few xs).length ≤ c0 := by have := HC0.out.2; unfold few; rw [List.length_take]; omega
  clear HC0
  generalize few xs = ys at HC hle hlc ⊢
  have HY := Aside0.mk (And.intro hle hlc)
  clear hle hlc
  go_upto_block 0 with (go_at_call 11; with_reducible refine (new_empty _).mono ?_; rintro e w2 ⟨gs, rfl, R, hM⟩; have HM := Aside0.mk hM; clear hM)
  go_wp2_with fail
  go_loopw [8, 7] (fun iv rv wx => ∃ (j : Nat) (R : Option Nat) (A : Option Addr) (c : Nat), j ≤ ys.length ∧ iv = .int .i64 (j : Int) ∧ rv = .slice A (listS (newS (ys.take j))).length c ∧ Hid (Made w1 wx gs R (newS (ys.take j))) ∧ Hid (RowI wx w1.heap.size rv (listS (newS (ys.take j))))) (fun iv _ _ => ys.length - (intOf iv).toNat)
  case atStart => exact ⟨0, R, none, 0, Nat.zero_le _, rfl, rfl, HM.out, RowI.nil _ _⟩
  case round =>
    obtain ⟨j, R, A, c, hj, rfl, rfl, hM, hRo⟩ := hrel
    replace HM : Aside0 (Made w1 wr gs R (newS (ys.take j))) := Aside0.mk hM
    have HRo : Aside0 (RowI wr w1.heap.size (.slice A (listS (newS (ys.take j))).length c) (listS (newS (ys.take j)))) := Aside0.mk hRo
    clear hM hRo
    by_cases hlt : (j : Int) < (ys.length : Int)
    · obtain ⟨ad, rfl, hx⟩ := Kd.at_int (Kd.C_below HC.out HM.out.below) (j : Int) (Int.natCast_nonneg j) hlt
      rw [Int.toNat_natCast] at hx
      have hwj : IntKind.i64.wrap ((j : Int) + 1) = (j : Int) + 1 := by have := HY.out; rw [IntKind.wrap_i64]; omega
      have hj1 : j < ys.length := by omega
      have hrd : rd ys (j : Int) = ys[j] := rd_nat hj1
      have hsn := newS_snoc ys j hj1
      obtain ⟨y, hy⟩ : ∃ y, rd ys (j : Int) = y := ⟨_, rfl⟩
      rw [← hrd, hy] at hsn
      rw [hy] at hx
      have HJ := Aside0.mk (And.intro hj1 (And.intro hsn hy))
      clear hj hrd hsn hy hj1
      generalize hl : newS (ys.take j) = l at HM HRo HJ ⊢
      clear hl
      go_upto_region 12 with (go_at_call 18; with_reducible refine (r_add HM.out.below HRo.out HM.out.wf y).mono ?_; rintro e wn ⟨A2, c2, rfl, hR2, hB2, hk2⟩; replace HM := Aside0.mk (HM.out.row HRo.out hk2 hB2); have HR2 := Aside0.mk hR2; clear hR2 hB2 hk2)
      clear hx
      obtain ⟨ad', hA', hx⟩ := Kd.at_int (Kd.C_below HC.out HM.out.below) (j : Int) (Int.natCast_nonneg j) hlt
      injection hA' with hA'
      subst hA'
      rw [Int.toNat_natCast, HJ.out.2.2] at hx
      go_wp2_with (go_at_call 12; with_reducible refine (add_calls HM.out.set HM.out.below.size HM.out.wf y).mono ?_; rintro e wn2 ⟨rfl, hL⟩; have HL := Aside0.mk hL; clear hL)
      obtain ⟨R3, hM3, _⟩ := Left.made HM.out HL.out (add_spec HM.out.wf _).1
      have hR3 := HR2.out.left HM.out.set HL.out
      obtain ⟨hj1, hsn, _⟩ := HJ.out
      go_roundw
      case rel => exact ⟨j + 1, R3, A2, c2, by omega, by go_num, by rw [hsn], by rw [hsn]; exact hM3, by rw [hsn]; exact hR3⟩
      case measure => simp [intOf]; omega
    · have hje : j = ys.length := by omega
      subst hje
      rw [List.take_length] at HM HRo ⊢
      clear hj hlt
      generalize hl : newS ys = l at HM HRo ⊢
      have HE := Aside0.mk hl
      clear hl
      go_wp2_with (first | (go_at_call 19; with_reducible refine (list_calls HM.out.set HM.out.wf).mono ?_; rintro e wn ⟨Aq, cq, rfl, hR, hk⟩; (try replace HM := Aside0.mk (HM.out.low hk)); (try replace HM2 := Aside0.mk (HM2.out.low hk)); (try replace HRo := Aside0.mk (HRo.out.below hk)); (try replace HR3 := Aside0.mk (HR3.out.below hk)); (try replace HS1 := Aside0.mk (HS1.out.below hk)); (try replace HS2 := Aside0.mk (HS2.out.below hk)); (try replace HR4 := Aside0.mk (HR4.out.below hk)); have HR3 := Aside0.mk hR; clear hR; clear hk) | (go_at_call 13; with_reducible refine (ints_rows HR3.out HRo.out (list_len_le HM.out.wf)).mono ?_; rintro e wn ⟨rfl, hk⟩; (try replace HM := Aside0.mk (HM.out.low hk)); (try replace HM2 := Aside0.mk (HM2.out.low hk)); (try replace HRo := Aside0.mk (HRo.out.below hk)); (try replace HR3 := Aside0.mk (HR3.out.below hk)); (try replace HS1 := Aside0.mk (HS1.out.below hk)); (try replace HS2 := Aside0.mk (HS2.out.below hk)); (try replace HR4 := Aside0.mk (HR4.out.below hk)); clear hk) | (go_at_call 14; with_reducible refine (spans_calls HM.out.set HM.out.wf).mono ?_; rintro e wn ⟨Aq, cq, rfl, hR, hk⟩; (try replace HM := Aside0.mk (HM.out.low hk)); (try replace HM2 := Aside0.mk (HM2.out.low hk)); (try replace HRo := Aside0.mk (HRo.out.below hk)); (try replace HR3 := Aside0.mk (HR3.out.below hk)); (try replace HS1 := Aside0.mk (HS1.out.below hk)); (try replace HS2 := Aside0.mk (HS2.out.below hk)); (try replace HR4 := Aside0.mk (HR4.out.below hk)); have HS1 := Aside0.mk hR; clear hR; clear hk) | (go_at_call 20; with_reducible refine (r_spans HRo.out.C.2.2 HRo.out.C.2.1 HM.out.wf).mono ?_; rintro e wn ⟨Aq, cq, rfl, hR, hk⟩; (try replace HM := Aside0.mk (HM.out.low hk)); (try replace HM2 := Aside0.mk (HM2.out.low hk)); (try replace HRo := Aside0.mk (HRo.out.below hk)); (try replace HR3 := Aside0.mk (HR3.out.below hk)); (try replace HS1 := Aside0.mk (HS1.out.below hk)); (try replace HS2 := Aside0.mk (HS2.out.below hk)); (try replace HR4 := Aside0.mk (HR4.out.below hk)); have HS2 := Aside0.mk hR; clear hR; clear hk) | (go_at_call 13; with_reducible refine (ints_rows HS1.out HS2.out (spans_len_le HM.out.wf)).mono ?_; rintro e wn ⟨rfl, hk⟩; (try replace HM := Aside0.mk (HM.out.low hk)); (try replace HM2 := Aside0.mk (HM2.out.low hk)); (try replace HRo := Aside0.mk (HRo.out.below hk)); (try replace HR3 := Aside0.mk (HR3.out.below hk)); (try replace HS1 := Aside0.mk (HS1.out.below hk)); (try replace HS2 := Aside0.mk (HS2.out.below hk)); (try replace HR4 := Aside0.mk (HR4.out.below hk)); clear hk) | (go_at_call 15; with_reducible refine (len_calls HM.out.set HM.out.wf).mono ?_; rintro e wn ⟨rfl, hk⟩; (try replace HM := Aside0.mk (HM.out.low hk)); (try replace HM2 := Aside0.mk (HM2.out.low hk)); (try replace HRo := Aside0.mk (HRo.out.below hk)); (try replace HR3 := Aside0.mk (HR3.out.below hk)); (try replace HS1 := Aside0.mk (HS1.out.below hk)); (try replace HS2 := Aside0.mk (HS2.out.below hk)); (try replace HR4 := Aside0.mk (HR4.out.below hk)); rw [← listS_len HM.out.wf]; clear hk) | (go_at_call 16; with_reducible refine (has_calls HM.out.set HM.out.wf n).mono ?_; rintro e wn ⟨rfl, hk⟩; (try replace HM := Aside0.mk (HM.out.low hk)); (try replace HM2 := Aside0.mk (HM2.out.low hk)); (try replace HRo := Aside0.mk (HRo.out.below hk)); (try replace HR3 := Aside0.mk (HR3.out.below hk)); (try replace HS1 := Aside0.mk (HS1.out.below hk)); (try replace HS2 := Aside0.mk (HS2.out.below hk)); (try replace HR4 := Aside0.mk (HR4.out.below hk)); clear hk) | (go_at_call 21; with_reducible refine (r_has HRo.out.C.2.2 HRo.out.C.2.1 HM.out.wf n).mono ?_; rintro e wn ⟨rfl, hk⟩; (try replace HM := Aside0.mk (HM.out.low hk)); (try replace HM2 := Aside0.mk (HM2.out.low hk)); (try replace HRo := Aside0.mk (HRo.out.below hk)); (try replace HR3 := Aside0.mk (HR3.out.below hk)); (try replace HS1 := Aside0.mk (HS1.out.below hk)); (try replace HS2 := Aside0.mk (HS2.out.below hk)); (try replace HR4 := Aside0.mk (HR4.out.below hk)); clear hk) | (go_at_call 11; with_reducible refine (new_calls (Kd.C_below HC.out HM.out.below) (by have := HY.out; omega)).mono ?_; rintro e wn ⟨gs2, rfl, R2, hM2⟩; rw [HE.out] at hM2; have hk := hM2.below; have HM2 := Aside0.mk hM2; (try replace HM := Aside0.mk (HM.out.low hk)); (try replace HRo := Aside0.mk (HRo.out.below hk)); (try replace HR3 := Aside0.mk (HR3.out.below hk)); (try replace HS1 := Aside0.mk (HS1.out.below hk)); (try replace HS2 := Aside0.mk (HS2.out.below hk)); (try replace HR4 := Aside0.mk (HR4.out.below hk)); clear hk hM2) | (go_at_call 19; with_reducible refine (list_calls HM2.out.set HM2.out.wf).mono ?_; rintro e wn ⟨Aq, cq, rfl, hR, hk⟩; (try replace HM := Aside0.mk (HM.out.low hk)); (try replace HM2 := Aside0.mk (HM2.out.low hk)); (try replace HRo := Aside0.mk (HRo.out.below hk)); (try replace HR3 := Aside0.mk (HR3.out.below hk)); (try replace HS1 := Aside0.mk (HS1.out.below hk)); (try replace HS2 := Aside0.mk (HS2.out.below hk)); (try replace HR4 := Aside0.mk (HR4.out.below hk)); have HR4 := Aside0.mk hR; clear hR; clear hk) | (go_at_call 13; with_reducible refine (ints_rows HR4.out HRo.out (list_len_le HM.out.wf)).mono ?_; rintro e wn ⟨rfl, hk⟩; (try replace HM := Aside0.mk (HM.out.low hk)); (try replace HM2 := Aside0.mk (HM2.out.low hk)); (try replace HRo := Aside0.mk (HRo.out.below hk)); (try replace HR3 := Aside0.mk (HR3.out.below hk)); (try replace HS1 := Aside0.mk (HS1.out.below hk)); (try replace HS2 := Aside0.mk (HS2.out.below hk)); (try replace HR4 := Aside0.mk (HR4.out.below hk)); clear hk))
      go_ret
      exact ⟨rfl, below_step HB.out HM.out.below⟩
end Go.Proofs.Ytmcecmcnbhhniaa.G
