/- The law's shown returns true. No condition. -/
import Derived.Test.YtmmgdifjiapbmaaHf
set_option linter.unusedVariables false
set_option linter.unusedSimpArgs false
namespace Go.Proofs.Ytmmgdifjiapbmaa.G
open Go.RowKit Go.Proofs.Ytmmgdifjiapbmaa.B Go.Proofs.YtmmgdifjiapbmaaW.PrintWords Go.Proofs.YtmmgdifjiapbmaaW.PrintLast Go.Proofs.YtmmgdifjiapbmaaW.PrintMore



def iT (k : Int) : S24 := ⟨k, 0, ⟨#[]⟩, []⟩
theorem decay_shown : decayT ⟨6, 3, ⟨#[]⟩, [iT 3]⟩ = mkP (iT 3) := by simp [decayT, rd_T24, iT]
theorem fits_shown1 : fitsT (mkP (iT 2)) (mkP (iT 1)) false = true := by
  simp [fitsT, mkP, iT, isNum, voidT, rd_T24]
theorem fits_shown2 : fitsT (mkP (iT 2)) (mkP (iT 3)) false = false := by
  simp [fitsT, mkP, iT, isNum, voidT, rd_T24, sameT, sameL]
theorem shown_decay (w : World) : Calls Try.prog 19 #[.agg #[.int .i64 6, .int .i64 3, .string ⟨#[]⟩, .slice (some ⟨w.heap.size, 0, none⟩) 1 1]] (w.alloc (.cells #[.int .i64 3, .int .i64 0, .string ⟨#[]⟩, .slice none 0 0] 24)) fun e w' => ∃ A c, e = .returned (.agg #[.int .i64 5, .int .i64 0, .string ⟨#[]⟩, .slice A 1 c]) ∧ 1 ≤ c ∧ Kd.F k24 w' (fun k => w.heap.size ≤ k) A 1 [iT 3] ∧ Below w.heap.size w w' := by
  have hb := blk_new w (.cells #[.int .i64 3, .int .i64 0, .string ⟨#[]⟩, .slice none 0 0] 24)
  have h := decay_calls ⟨6, 3, ⟨#[]⟩, [iT 3]⟩ (some ⟨w.heap.size, 0, none⟩) 1 (fun k => w.heap.size ≤ k) _ (Kd.F_mono (F_one (x := iT 3) hb (Nat.le_refl _) (Kd.F_nil k24 _ (fun _ => False))) (fun k hk => by rcases hk with hk | hk; exact hk.elim; omega)) (Nat.le_refl _)
  rw [decay_shown] at h
  refine h.mono ?_
  rintro e w1 ⟨A, c, rfl, hc, hF, hB⟩
  refine ⟨A, c, rfl, hc, Kd.F_mono hF (fun k hk => by simp at hk; omega), ?_⟩
  exact ((Below.refl _ _).alloc (Nat.le_refl _) _).trans (hB.mono (by simp))
theorem shown_fits (a b : Int) (r : Bool) (hr : fitsT (mkP (iT a)) (mkP (iT b)) false = r) (A B : Option Addr) (c d : Nat) (w : World) (hA : Kd.C k24 w A 1 [iT a]) (hc : 1 ≤ c) (hB : Kd.C k24 w B 1 [iT b]) (hd : 1 ≤ d) :
    Calls Try.prog 13 #[.agg #[.int .i64 5, .int .i64 0, .string ⟨#[]⟩, .slice A 1 c], .agg #[.int .i64 5, .int .i64 0, .string ⟨#[]⟩, .slice B 1 d], .bool false] w fun e w' => e = .returned (.bool r) ∧ Below w.heap.size w w' := by
  have h := fits_calls (mkP (iT a)) (mkP (iT b)) false A c B d w hA hc hB hd
  rw [hr] at h
  exact h
theorem shown_calls (w : World) : Calls Try.prog 10 #[] w fun e w' => e = .returned (.bool true) ∧ Below w.heap.size w w' := by
  go_enter Try.func10, Try.ntmps10
  go_wp2_with fail
  refine (shown_decay w).mono ?_
  rintro e w1 ⟨A, c, rfl, hc, hF, hB⟩
  have HF := Aside0.mk hF
  have HB := Aside0.mk hB
  have HC := Aside0.mk hc
  clear hF hB hc
  have HBX := Aside0.mk (blk_new w1 (Obj.cells #[.int .i64 5, .int .i64 0, .string ⟨#[]⟩, .slice A 1 c] 24))
  have HBW := Aside0.mk (show Below w1.heap.size w1 (w1.alloc (Obj.cells #[.int .i64 5, .int .i64 0, .string ⟨#[]⟩, .slice A 1 c] 24)) from (Below.refl _ _).alloc (Nat.le_refl _) _)
  go_wp2_with fail
  generalize w1.alloc (Obj.cells #[.int .i64 5, .int .i64 0, .string ⟨#[]⟩, .slice A 1 c] 24) = v0 at HBX HBW ⊢
  refine (to_calls 2 v0).mono ?_
  rintro e v1 ⟨A1, c1, rfl, hc1, hF1, hB1⟩
  have HC1 := Aside0.mk hc1
  have HF1 := Aside0.mk hF1
  have HB1 := Aside0.mk hB1
  clear hc1 hF1 hB1
  go_wp2_with fail
  refine (to_calls 1 v1).mono ?_
  rintro e v2 ⟨A2, c2, rfl, hc2, hF2, hB2⟩
  have HC2 := Aside0.mk hc2
  have HF2 := Aside0.mk hF2
  have HB2 := Aside0.mk hB2
  clear hc2 hF2 hB2
  go_wp2_with fail
  refine (shown_fits 2 1 true fits_shown1 A1 A2 c1 c2 v2 (Kd.C_below (Kd.F_now HF1.out) HB2.out) HC1.out (Kd.F_now HF2.out) HC2.out).mono ?_
  rintro e v3 ⟨rfl, hB3⟩
  have HB3 := Aside0.mk hB3
  clear hB3
  go_wp2_with fail
  refine (to_calls 2 v3).mono ?_
  rintro e v4 ⟨A4, c4, rfl, hc4, hF4, hB4⟩
  have HC4 := Aside0.mk hc4
  have HF4 := Aside0.mk hF4
  have HB4 := Aside0.mk hB4
  clear hc4 hF4 hB4
  go_wp2_with fail
  refine (to_calls 3 v4).mono ?_
  rintro e v5 ⟨A5, c5, rfl, hc5, hF5, hB5⟩
  have HC5 := Aside0.mk hc5
  have HF5 := Aside0.mk hF5
  have HB5 := Aside0.mk hB5
  clear hc5 hF5 hB5
  go_wp2_with fail
  refine (shown_fits 2 3 false fits_shown2 A4 A5 c4 c5 v5 (Kd.C_below (Kd.F_now HF4.out) HB5.out) HC4.out (Kd.F_now HF5.out) HC5.out).mono ?_
  rintro e v6 ⟨rfl, hB6⟩
  have B6 := Aside0.mk (below_step (below_step (below_step (below_step (below_step (below_step HBW.out HB1.out) HB2.out) HB3.out) HB4.out) HB5.out) hB6)
  have HZ := Aside0.mk (blk_below (blk_below (blk_below (blk_below (blk_below (blk_below HBX.out HB1.out) HB2.out) HB3.out) HB4.out) HB5.out) hB6)
  clear hB6 HBX HBW HB1 HB2 HB3 HB4 HB5 HF1 HF2 HF4 HF5
  have hz := cell4 HZ.out
  obtain ⟨ad, A3, c3, e, hlt, hx0, hx1, hx2, hx3, hl3, hi⟩ := atF24 (Kd.F_below HF.out B6.out) 0 (by simp)
  cases e
  simp only [Nat.zero_mul, Addr.add_zero'] at hx0
  replace hx0 : v6.cell? ad = some (.int .i64 3) := hx0
  clear hx1 hx2 hx3 hl3 hi
  go_wp2_with fail
  go_ret
  exact ⟨rfl, below_step HB.out B6.out⟩
end Go.Proofs.Ytmmgdifjiapbmaa.G
