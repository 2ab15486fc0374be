/- The law LexNumbers of lex is true: its walk. No condition. -/
import Derived.Test.YtikfgdkplgfiiaaL3
import Derived.Test.YtikfgdkplgfiiaaPo
set_option linter.unusedVariables false
set_option linter.unusedSimpArgs false
namespace Go.Proofs.Ytikfgdkplgfiiaa.G
open Go.RowKit Go.Proofs.Ytikfgdkplgfiiaa.B Go.Proofs.YtikfgdkplgfiiaaW.PrintWords Go.Proofs.YtikfgdkplgfiiaaW.PrintLast Go.Proofs.YtikfgdkplgfiiaaW.PrintMore

def emptyV : Value → Nat
  | .string b => if b.size = 0 then 1 else 0
  | _ => 0
theorem emptyV_cons (c : UInt8) (b : ByteArray) : emptyV (.string ((⟨#[c]⟩ : ByteArray) ++ b)) = 0 := by
  unfold emptyV
  simp only []
  rw [if_neg]
  rw [ByteArray.size_append]
  show ¬ (1 + b.size = 0)
  omega
theorem enc16 : ∀ r : Fin 16, Utf8.encode (((⟨#[48, 49, 50, 51, 52, 53, 54, 55, 56, 57, 97, 98, 99, 100, 101, 102]⟩ : ByteArray)[r.val]'(r.isLt)).toNat : Int) = ⟨#[fig r.val]⟩ := by decide
theorem enc10 : ∀ r : Fin 10, Utf8.encode (((⟨#[48, 49, 50, 51, 52, 53, 54, 55, 56, 57]⟩ : ByteArray)[r.val]'(r.isLt)).toNat : Int) = ⟨#[fig r.val]⟩ := by decide
theorem tl_one (c : UInt8) (b : ByteArray) : ((⟨#[c]⟩ : ByteArray) ++ b).toList = c :: b.toList := by
  rw [tl_append, bytes_toList ⟨#[c]⟩]
  rfl
theorem dgS_len {b k : Nat} {s l : L8} (h : dgS b k s = l) : s.length ≤ l.length := by
  subst h
  unfold dgS
  split
  · exact Nat.le_refl _
  · rw [List.length_append]; omega
set_option maxRecDepth 100000 in
set_option maxHeartbeats 8000000 in
theorem LexNumbers_walk (n : Int) (w : World) (hn : -9223372036854775808 ≤ n ∧ n ≤ 9223372036854775807) (hg : Glob w) :
    Calls Try.prog 7 #[.int .i64 n] w fun e w' => e = .returned (.bool true) ∧ Below w.heap.size w w' := by
  have HG := Aside0.mk hg
  obtain ⟨_, hn2⟩ := hn
  clear hg
  go_enter Try.func7, Try.ntmps7
  go_upto_region 2 with (go_at_call 11; with_reducible refine (shown_calls _ HG.out).mono ?_; rintro e w1 ⟨rfl, hk⟩; have HB := Aside0.mk hk; clear hk)
  by_cases hneg : n < 0
  · go_wp2_with fail
    go_ret
    exact ⟨rfl, HB.out⟩
  · obtain ⟨N, hN⟩ : ∃ N : Nat, n = (N : Int) := ⟨n.toNat, by omega⟩
    subst hN
    have hN9 : N ≤ 9223372036854775807 := by omega
    have HN9 := Aside0.mk hN9
    have HLH := Aside0.mk (digs_len (b := 16) (by omega) 15 N (Nat.lt_of_le_of_lt hN9 (by decide)))
    have HLD := Aside0.mk (digs_len (b := 10) (by omega) 18 N (Nat.lt_of_le_of_lt hN9 (by decide)))
    clear hneg hn2 hN9
    have h0 : ¬ (N : Int) < 0 := by omega
    go_upto_block 0 with (fail)
    go_wp2_with fail
    go_loopw [4, 6] (fun hv kv wx => ∃ (k : Nat) (hx : ByteArray), k ≤ N ∧ kv = .int .i64 (k : Int) ∧ hv = .string hx ∧ Hid (dgS 16 k hx.toList = digs 16 N) ∧ wx = w1) (fun hv kv _ => (intOf kv).toNat + emptyV hv)
    case atStart => exact ⟨N, ⟨#[]⟩, Nat.le_refl _, rfl, rfl, by show dgS 16 N _ = _; rw [bytes_toList]; exact dgS_start 16 N, rfl⟩
    case round =>
      obtain ⟨k, hx, hk, rfl, rfl, hd, rfl⟩ := hrel
      have HD := Aside0.mk (show dgS 16 k hx.toList = digs 16 N from hd)
      have HXL : Aside0 (hx.size ≤ 16) := Aside0.mk (by rw [← tl_len]; exact Nat.le_trans (dgS_len HD.out) HLH.out)
      clear hd
      by_cases hgo : k ≠ 0 ∨ hx.toList = []
      · have hr : k % 16 < 16 := Nat.mod_lt _ (by omega)
        have hu : ∀ h : k % 16 < (⟨#[48, 49, 50, 51, 52, 53, 54, 55, 56, 57, 97, 98, 99, 100, 101, 102]⟩ : ByteArray).size, Utf8.encode (((⟨#[48, 49, 50, 51, 52, 53, 54, 55, 56, 57, 97, 98, 99, 100, 101, 102]⟩ : ByteArray)[k % 16]'h).toNat : Int) = ⟨#[fig (k % 16)]⟩ := fun _ => enc16 ⟨k % 16, hr⟩
        have hk9 : k ≤ 9223372036854775807 := Nat.le_trans hk HN9.out
        have hw : wrap64 ((k : Int) / 16) = ((k / 16 : Nat) : Int) := by rw [w64 (by omega) (by omega)]; omega
        have hq1 : (0 ≤ (k : Int) % 16) = True := eq_true (by omega)
        have hq2 : ((k : Int) % 16 < 16) = True := eq_true (by omega)
        have hlim : (9223372036854775807 < 1 + hx.size) = False := eq_false (by have := HXL.out; omega)
        have hs1 : (⟨#[fig (k % 16)]⟩ : ByteArray).size = 1 := rfl
        have HSTEP := Aside0.mk (dgS_step (b := 16) (by omega) hgo)
        by_cases hk0 : k = 0
        · subst hk0
          have hxe : hx.toList = [] := hgo.resolve_left (fun h => h rfl)
          have hxs : hx.size = 0 := by rw [← tl_len, hxe]; rfl
          have hxq : (hx.toList == []) = true := by rw [hxe]; rfl
          have hu0 : ∀ h : 0 < (⟨#[48, 49, 50, 51, 52, 53, 54, 55, 56, 57, 97, 98, 99, 100, 101, 102]⟩ : ByteArray).size, Utf8.encode (((⟨#[48, 49, 50, 51, 52, 53, 54, 55, 56, 57, 97, 98, 99, 100, 101, 102]⟩ : ByteArray)[0]'h).toNat : Int) = ⟨#[fig 0]⟩ := fun _ => enc16 ⟨0, by decide⟩
          have hs0 : (⟨#[fig 0]⟩ : ByteArray).size = 1 := rfl
          have HSTEP0 : Aside0 (dgS 16 0 (fig 0 :: hx.toList) = dgS 16 0 hx.toList) := Aside0.mk HSTEP.out
          have HXS := Aside0.mk hxs
          clear hgo hxs hu hw hq1 hq2 hr hs1 HSTEP hk9 hk
          go_wp2_with fail
          go_roundw
          case rel => exact ⟨0, _, Nat.zero_le _, rfl, rfl, by show dgS 16 _ _ = _; rw [tl_one, HSTEP0.out]; exact HD.out, by first | rfl | trivial⟩
          case measure =>
            rw [emptyV_cons]
            have : emptyV (.string hx) = 1 := if_pos HXS.out
            rw [this]
            show 0 + 0 < 0 + 1
            omega
        · have hkp : (0 : Int) < (k : Int) := by omega
          clear hgo
          go_wp2_with fail
          go_roundw
          case rel => exact ⟨k / 16, _, by omega, congrArg (Value.int .i64) (by omega), rfl, by show dgS 16 _ _ = _; rw [tl_one, HSTEP.out]; exact HD.out, by first | rfl | trivial⟩
          case measure =>
            rw [emptyV_cons]
            show ((k : Int) / 16).toNat + 0 < (k : Int).toNat + emptyV (.string hx)
            omega
      · have hk0 : k = 0 := Decidable.byContradiction (fun h => hgo (.inl h))
        have hxne : hx.toList ≠ [] := fun h => hgo (.inr h)
        have hkn : ¬ (0 : Int) < (k : Int) := by omega
        have hxq : (hx.toList == []) = false := by cases hxl : hx.toList with | nil => exact absurd hxl hxne | cons _ _ => rfl
        have HDD : Aside0 (hx.toList = digs 16 N) := Aside0.mk (by rw [← HD.out, hk0, dgS_end hxne])
        have HNE := Aside0.mk hxne
        subst hk0
        clear hgo HD hxne hk hkn
        rw [Int.natCast_zero]
        go_upto_block 2 with (fail)
        go_wp2_with fail
        go_loopw [5, 7] (fun hv kv wx => ∃ (k : Nat) (dx : ByteArray), k ≤ N ∧ kv = .int .i64 (k : Int) ∧ hv = .string dx ∧ Hid (dgS 10 k dx.toList = digs 10 N) ∧ wx = wr) (fun hv kv _ => (intOf kv).toNat + emptyV hv)
        case atStart => exact ⟨N, ⟨#[]⟩, Nat.le_refl _, rfl, rfl, by show dgS 10 N _ = _; rw [bytes_toList]; exact dgS_start 10 N, rfl⟩
        case round =>
          obtain ⟨k, dx, hk, rfl, rfl, hd, rfl⟩ := hrel
          have HD := Aside0.mk (show dgS 10 k dx.toList = digs 10 N from hd)
          have HXL2 : Aside0 (dx.size ≤ 19) := Aside0.mk (by rw [← tl_len]; exact Nat.le_trans (dgS_len HD.out) HLD.out)
          clear hd
          by_cases hgo : k ≠ 0 ∨ dx.toList = []
          · have hr : k % 10 < 10 := Nat.mod_lt _ (by omega)
            have hu : ∀ h : k % 10 < (⟨#[48, 49, 50, 51, 52, 53, 54, 55, 56, 57]⟩ : ByteArray).size, Utf8.encode (((⟨#[48, 49, 50, 51, 52, 53, 54, 55, 56, 57]⟩ : ByteArray)[k % 10]'h).toNat : Int) = ⟨#[fig (k % 10)]⟩ := fun _ => enc10 ⟨k % 10, hr⟩
            have hk9 : k ≤ 9223372036854775807 := Nat.le_trans hk HN9.out
            have hw : wrap64 ((k : Int) / 10) = ((k / 10 : Nat) : Int) := by rw [w64 (by omega) (by omega)]; omega
            have hq1 : (0 ≤ (k : Int) % 10) = True := eq_true (by omega)
            have hq2 : ((k : Int) % 10 < 10) = True := eq_true (by omega)
            have hlim : (9223372036854775807 < 1 + dx.size) = False := eq_false (by have := HXL2.out; omega)
            have hs1 : (⟨#[fig (k % 10)]⟩ : ByteArray).size = 1 := rfl
            have HSTEP := Aside0.mk (dgS_step (b := 10) (by omega) hgo)
            by_cases hk0 : k = 0
            · subst hk0
              have hxe : dx.toList = [] := hgo.resolve_left (fun h => h rfl)
              have hxs : dx.size = 0 := by rw [← tl_len, hxe]; rfl
              have hxq : (dx.toList == []) = true := by rw [hxe]; rfl
              have hu0 : ∀ h : 0 < (⟨#[48, 49, 50, 51, 52, 53, 54, 55, 56, 57]⟩ : ByteArray).size, Utf8.encode (((⟨#[48, 49, 50, 51, 52, 53, 54, 55, 56, 57]⟩ : ByteArray)[0]'h).toNat : Int) = ⟨#[fig 0]⟩ := fun _ => enc10 ⟨0, by decide⟩
              have hs0 : (⟨#[fig 0]⟩ : ByteArray).size = 1 := rfl
              have HSTEP0 : Aside0 (dgS 10 0 (fig 0 :: dx.toList) = dgS 10 0 dx.toList) := Aside0.mk HSTEP.out
              have HXS := Aside0.mk hxs
              clear hgo hxs hu hw hq1 hq2 hr hs1 HSTEP hk9 hk
              go_wp2_with fail
              go_roundw
              case rel => exact ⟨0, _, Nat.zero_le _, rfl, rfl, by show dgS 10 _ _ = _; rw [tl_one, HSTEP0.out]; exact HD.out, by first | rfl | trivial⟩
              case measure =>
                rw [emptyV_cons]
                have : emptyV (.string dx) = 1 := if_pos HXS.out
                rw [this]
                show 0 + 0 < 0 + 1
                omega
            · have hkp : (0 : Int) < (k : Int) := by omega
              clear hgo
              go_wp2_with fail
              go_roundw
              case rel => exact ⟨k / 10, _, by omega, congrArg (Value.int .i64) (by omega), rfl, by show dgS 10 _ _ = _; rw [tl_one, HSTEP.out]; exact HD.out, by first | rfl | trivial⟩
              case measure =>
                rw [emptyV_cons]
                show ((k : Int) / 10).toNat + 0 < (k : Int).toNat + emptyV (.string dx)
                omega
          · have hk0 : k = 0 := Decidable.byContradiction (fun h => hgo (.inl h))
            have hdne : dx.toList ≠ [] := fun h => hgo (.inr h)
            have hdq : (dx.toList == []) = false := by cases hxl : dx.toList with | nil => exact absurd hxl hdne | cons _ _ => rfl
            have HDX : Aside0 (dx.toList = digs 10 N) := Aside0.mk (by rw [← HD.out, hk0, dgS_end hdne])
            subst hk0
            clear hgo HD hdne hk
            obtain ⟨pa, pb, hpl⟩ := numbers_plain N HN9.out
            have HST : Aside0 (((dx ++ (⟨#[32, 48, 120]⟩ : ByteArray)) ++ hx).toList = digs 10 N ++ [32, 48, 120] ++ digs 16 N) := Aside0.mk (by
              rw [tl_append, tl_append, HDX.out, HDD.out, bytes_toList ⟨#[32, 48, 120]⟩])
            have HDB : toB (digs 10 N) = dx := by rw [← HDX.out]; exact list_toB dx
            rw [HDB] at hpl
            have HPL := Aside0.mk hpl
            have hl1 := HXL2.out
            have hxl : hx.size ≤ 16 := HXL.out
            clear hpl HDB
            go_upto_region 15 with (go_at_call 12; with_reducible refine (toks_const _ (HG.out.below HB.out) HST.out).mono ?_; rintro e w3 ⟨A1, c1, rfl, hR, hk⟩; rw [HPL.out] at hR ⊢; have HR := Aside0.mk hR; replace HB := Aside0.mk (below_step HB.out hk); clear hR hk)
            obtain ⟨g1, c1', hf1⟩ := HR.out.form (by simp)
            injection hf1 with hA1 hn1 hc1
            subst hA1 hc1
            obtain ⟨y0, _, y2, y3⟩ := HR.out.cells 0 _ rfl
            obtain ⟨z0, _, _, z3⟩ := HR.out.cells 1 _ rfl
            have k0 : w3.cell? ⟨g1, 0, none⟩ = some (.int .i64 3) := y0
            have k2 : w3.cell? ⟨g1, 2, none⟩ = some (.string dx) := y2
            have k3 : w3.cell? ⟨g1, 3, none⟩ = some (.int .i64 (N : Int)) := y3
            have k4 : w3.cell? ⟨g1, 4, none⟩ = some (.int .i64 3) := z0
            have k7 : w3.cell? ⟨g1, 7, none⟩ = some (.int .i64 (N : Int)) := z3
            have hNN : ((N : Int) == (N : Int)) = true := beq_self_eq_true _
            have hDD : (dx.toList == dx.toList) = true := beq_self_eq_true _
            clear y0 y2 y3 z0 z3 hn1 HR
            go_wp2_with fail
            go_ret
            exact ⟨rfl, HB.out⟩
end Go.Proofs.Ytikfgdkplgfiiaa.G
