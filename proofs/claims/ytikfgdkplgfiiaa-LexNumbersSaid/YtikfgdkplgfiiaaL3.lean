/- The law LexBlanks of lex is true: its walk. No condition. -/
import Derived.Test.YtikfgdkplgfiiaaL2
set_option linter.unusedVariables false
set_option linter.unusedSimpArgs false
namespace Go.Proofs.Ytikfgdkplgfiiaa.G
open Go.RowKit Go.Proofs.Ytikfgdkplgfiiaa.B Go.Proofs.YtikfgdkplgfiiaaW.PrintWords Go.Proofs.YtikfgdkplgfiiaaW.PrintLast Go.Proofs.YtikfgdkplgfiiaaW.PrintMore

theorem RowT.rdn {W : World} {b n c : Nat} {A : Option Addr} {l : List S32} (h : RowT W b (.slice A n c) l) (_hn : l.length = n) : RdT W (.slice A n c) l := h.rd
theorem RowT.low {W : World} {b b2 : Nat} {v : Value} {l : List S32} (h : RowT W b v l) (hb : b2 ≤ b) : RowT W b2 v l := Kd.R_lower h hb
set_option maxRecDepth 100000 in
set_option maxHeartbeats 8000000 in
theorem LexBlanks_walk (s : ByteArray) (n : Int) (w : World) (hs : s.size ≤ 140737488351232) (hn : 0 ≤ n ∧ n ≤ 255) (hg : Glob w) :
    Calls Try.prog 6 #[.string s, .int .u8 n] w fun e w' => e = .returned (.bool true) ∧ Below w.heap.size w w' := by
  have HG := Aside0.mk hg
  obtain ⟨N, hN⟩ : ∃ N : Nat, n = (N : Int) := ⟨n.toNat, by omega⟩
  subst hN
  obtain ⟨_, hn2⟩ := hn
  have hn9 : N ≤ 255 := by omega
  clear hg
  go_enter Try.func6, Try.ntmps6
  go_upto_region 2 with (go_at_call 11; with_reducible refine (shown_calls _ HG.out).mono ?_; rintro e w1 ⟨rfl, hk⟩; have HB := Aside0.mk hk; clear hk)
  by_cases hbig : (10000 : Int) < (s.size : Int)
  · go_wp2_with fail
    go_ret
    exact ⟨rfl, HB.out⟩
  · have hle : s.size ≤ 10000 := by omega
    have hlei : (s.size : Int) ≤ 10000 := by omega
    obtain ⟨p1, p2, p3, p4⟩ := blanks_plain N s.toList hn9 (by rw [tl_len]; exact hle)
    obtain ⟨E, hE⟩ : ∃ E, (lexS s.toList).2.2 = E := ⟨_, rfl⟩
    obtain ⟨P, hP⟩ : ∃ P, (lexS s.toList).2.1 = P := ⟨_, rfl⟩
    rw [hE] at p1 p2
    rw [hP] at p2
    have HP := Aside0.mk (And.intro p1 (And.intro p2 (And.intro p3 p4)))
    have HE := Aside0.mk hE
    have HPP := Aside0.mk hP
    have HP0 : Aside0 (0 ≤ P ∧ P ≤ 10000) := Aside0.mk (by have h9 := lexS_at s.toList; rw [hP, tl_len] at h9; omega)
    clear hbig hs p1 p2 p3 p4 hE hP hle
    go_upto_block 0 with (fail)
    go_wp2_with fail
    go_loopw [7, 6] (fun iv hv wx => ∃ (j : Nat) (hd : ByteArray), j ≤ N ∧ iv = .int .i64 (j : Int) ∧ hv = .string hd ∧ hd.size = j ∧ Hid (hd.toList = List.replicate j 32) ∧ wx = w1) (fun iv _ _ => N - (intOf iv).toNat)
    case atStart => exact ⟨0, ⟨#[]⟩, Nat.zero_le _, rfl, rfl, rfl, bytes_toList _, rfl⟩
    case round =>
      obtain ⟨j, hd, hj, rfl, rfl, hsz, hl, rfl⟩ := hrel
      have HL := Aside0.mk (show hd.toList = List.replicate j 32 from hl)
      clear hl
      by_cases hlt : (j : Int) < (N : Int)
      · go_wp2_with fail
        go_roundw
        case rel =>
          refine ⟨j + 1, hd ++ ⟨#[32]⟩, by omega, by go_num, rfl, ?_, ?_, (by first | rfl | trivial)⟩
          · rw [ByteArray.size_append, hsz]; rfl
          · show (hd ++ ⟨#[32]⟩).toList = _
            rw [tl_append, HL.out, bytes_toList ⟨#[32]⟩, List.replicate_succ']
        case measure => simp [intOf]; omega
      · have hje : j = N := by omega
        subst hje
        have HHS := Aside0.mk hsz
        have HST : Aside0 ((hd ++ (⟨#[47, 42, 32, 42, 32, 47, 32, 42, 42, 32, 42, 47, 9]⟩ : ByteArray) ++ s ++ (⟨#[10, 32, 47, 47, 32, 120]⟩ : ByteArray)).toList = blanksT j s.toList) := Aside0.mk (by
          rw [tl_append, tl_append, tl_append, HL.out, bytes_toList ⟨#[47, 42, 32, 42, 32, 47, 32, 42, 42, 32, 42, 47, 9]⟩, bytes_toList ⟨#[10, 32, 47, 47, 32, 120]⟩]
          rfl)
        have hhs : (hd ++ (⟨#[47, 42, 32, 42, 32, 47, 32, 42, 42, 32, 42, 47, 9]⟩ : ByteArray)).size = j + 13 := by rw [ByteArray.size_append, hsz]; rfl
        have hsi : hd.size ≤ 255 := by omega
        have HN9 := Aside0.mk (lexS_len s.toList)
        clear hj hlt
        go_upto_region 12 with (first | (go_at_call 12; with_reducible refine (toks_const (b := s) _ (HG.out.below HB.out) rfl).mono ?_; rintro e w2 ⟨A1, c1, rfl, hR, hk⟩; rw [HE.out, HPP.out]; have HR := Aside0.mk hR; replace HB := Aside0.mk (below_step HB.out hk); clear hR hk) | (go_at_call 12; with_reducible refine (toks_const _ (HG.out.below HB.out) HST.out).mono ?_; rintro e w3 ⟨A2, c2, rfl, hR, hk⟩; rw [HP.out.1]; replace HR := Aside0.mk (HR.out.below hk); have HR2 := Aside0.mk hR; replace HB := Aside0.mk (below_step HB.out hk); clear hR hk))
        rw [HP.out.2.2.1] at HR2
        rw [HP.out.2.2.1]
        obtain ⟨L, hL⟩ : ∃ L, (lexS s.toList).1 = L := ⟨_, rfl⟩
        have HLL := Aside0.mk hL
        obtain ⟨M, hM⟩ : ∃ M, (lexS (blanksT j s.toList)).1 = M := ⟨_, rfl⟩
        obtain ⟨Q, hQ⟩ : ∃ Q, (lexS (blanksT j s.toList)).2.1 = Q := ⟨_, rfl⟩
        have HPL := Aside0.mk HP.out.2.1
        rw [hQ] at HPL
        have HPM : Aside0 (M.length = L.length ∧ ∀ (i : Nat) x y, L[i]? = some x → M[i]? = some y → Alike false x y ∧ y.f1 = x.f1 + ((j + 13 : Nat) : Int)) := Aside0.mk (by rw [← hL, ← hM]; exact HP.out.2.2)
        rw [hL] at HR HR2 HN9 ⊢
        rw [hM] at HR2
        rw [hQ]
        clear hL hM hQ
        have hq : ((L.length : Int) == (L.length : Int)) = true := beq_self_eq_true _
        have HF1 : Aside0 (∀ x ∈ L, 0 ≤ x.f1 ∧ x.f1 ≤ 10000) := Aside0.mk (fun x hx => by
          have h9 := lexS_f1 s.toList x (by rw [HLL.out]; exact hx)
          rw [tl_len] at h9
          omega)
        have hL9 : L.length ≤ 20000 := HN9.out
        have hP0 := HP0.out
        obtain ⟨wa, hwa⟩ : ∃ wa, wr = wa := ⟨_, rfl⟩
        subst hwa
        by_cases hE0 : E = 0
        · subst hE0
          clear hq
          go_upto_block 2 with (fail)
          go_wp2_with fail
          go_loopw [14] (fun iv wx => ∃ (i : Nat), i ≤ L.length ∧ iv = .int .i64 (i : Int) ∧ Hid (RowT wx w2.heap.size (.slice A2 L.length c2) M) ∧ Hid (RowT wx wr.heap.size (.slice A1 L.length c1) L) ∧ Hid (Below w.heap.size w wx)) (fun iv _ => L.length - (intOf iv).toNat)
          case atStart => exact ⟨0, Nat.zero_le _, rfl, HR2.out, HR.out, HB.out⟩
          case round =>
            clear HR HR2 HB
            obtain ⟨i, hi, rfl, hR2, hR, hB⟩ := hrel
            have HR2 := Aside0.mk (show RowT wr w2.heap.size (.slice A2 L.length c2) M from hR2)
            have HR := Aside0.mk (show RowT wr _ (.slice A1 L.length c1) L from hR)
            have HB : Aside0 (Below w.heap.size w wr) := Aside0.mk hB
            clear hR2 hR hB
            by_cases hlt : (i : Int) < (L.length : Int)
            · have hi1 : i < L.length := by omega
              obtain ⟨g1, c1', hf1⟩ := HR.out.form (by omega)
              injection hf1 with hA1 hn1 hc1
              subst hA1 hc1
              have hML := HPM.out.1
              obtain ⟨g2, c2', hf2⟩ := HR2.out.form (by omega)
              injection hf2 with hA2 hn2 hc2
              subst hA2 hc2
              obtain ⟨x, hx⟩ : ∃ x, L[i]? = some x := ⟨_, List.getElem?_eq_getElem hi1⟩
              obtain ⟨y, hy⟩ : ∃ y, M[i]? = some y := ⟨_, List.getElem?_eq_getElem (by omega)⟩
              obtain ⟨_, x1, _, _⟩ := HR.out.cells i x hx
              obtain ⟨_, y1, _, _⟩ := HR2.out.cells i y hy
              have hyx := (HPM.out.2 i x y hx hy).2
              have hxr := HF1.out x (List.mem_of_getElem? hx)
              rw [hyx, show x.f1 + ((j + 13 : Nat) : Int) = x.f1 + ((j : Int) + 13) by omega] at y1
              have hwx : IntKind.i64.wrap (x.f1 + ((j : Int) + 13)) = x.f1 + ((j : Int) + 13) := by rw [IntKind.wrap_i64]; omega
              have hwi : IntKind.i64.wrap ((i : Int) + 1) = (i : Int) + 1 := by rw [IntKind.wrap_i64]; omega
              clear hx hy hyx hML hn1 hn2
              go_upto_region 17 with (fail)
              go_still (by kernel_rfl)
              change Exit.then _ _ _ _ wr.drew
              replace HR := Aside0.mk (HR.out.below (below_drew (Below.refl wr.heap.size wr)))
              replace HR2 := Aside0.mk (HR2.out.below (below_drew (Below.refl wr.heap.size wr)))
              replace HB := Aside0.mk (below_drew HB.out)
              generalize wr.drew = wd at HR HR2 HB ⊢
              clear x1 y1
              go_wp2_with fail
              go_roundw
              case rel => exact ⟨i + 1, by omega, by go_num, HR2.out, HR.out, HB.out⟩
              case measure => simp [intOf]; omega
            · have hie : (i : Int) = (L.length : Int) := by omega
              clear hi
              go_wp2_with (go_at_call 14; with_reducible refine (same_rd HR.out.rd (RowT.rdn HR2.out HPM.out.1) HPM.out.1.symm (Nat.le_trans HN9.out (by decide)) (fun i x y hx hy => (HPM.out.2 i x y hx hy).1)).mono ?_; rintro e w5 ⟨rfl, hk⟩; replace HB := Aside0.mk (below_step HB.out hk); clear hk)
              go_ret
              exact ⟨rfl, HB.out⟩
        · have hE1 : (E == 0) = false := beq_eq_false_iff_ne.mpr hE0
          have hE2 : (E != 0) = true := by rw [bne, hE1]; rfl
          have hE3 : (E == E) = true := beq_self_eq_true _
          have hQP : Q = P + ((j : Int) + 13) := by have := HPL.out hE0; rw [this]; omega
          subst hQP
          have hwp : IntKind.i64.wrap (P + ((j : Int) + 13)) = P + ((j : Int) + 13) := by rw [IntKind.wrap_i64]; omega
          clear hE0
          go_upto_block 2 with (fail)
          go_wp2_with fail
          go_loopw [14] (fun iv wx => ∃ (i : Nat), i ≤ L.length ∧ iv = .int .i64 (i : Int) ∧ Hid (RowT wx w2.heap.size (.slice A2 L.length c2) M) ∧ Hid (RowT wx wr.heap.size (.slice A1 L.length c1) L) ∧ Hid (Below w.heap.size w wx)) (fun iv _ => L.length - (intOf iv).toNat)
          case atStart => exact ⟨0, Nat.zero_le _, rfl, HR2.out, HR.out, HB.out⟩
          case round =>
            clear HR HR2 HB
            obtain ⟨i, hi, rfl, hR2, hR, hB⟩ := hrel
            have HR2 := Aside0.mk (show RowT wr w2.heap.size (.slice A2 L.length c2) M from hR2)
            have HR := Aside0.mk (show RowT wr _ (.slice A1 L.length c1) L from hR)
            have HB : Aside0 (Below w.heap.size w wr) := Aside0.mk hB
            clear hR2 hR hB
            by_cases hlt : (i : Int) < (L.length : Int)
            · have hi1 : i < L.length := by omega
              obtain ⟨g1, c1', hf1⟩ := HR.out.form (by omega)
              injection hf1 with hA1 hn1 hc1
              subst hA1 hc1
              have hML := HPM.out.1
              obtain ⟨g2, c2', hf2⟩ := HR2.out.form (by omega)
              injection hf2 with hA2 hn2 hc2
              subst hA2 hc2
              obtain ⟨x, hx⟩ : ∃ x, L[i]? = some x := ⟨_, List.getElem?_eq_getElem hi1⟩
              obtain ⟨y, hy⟩ : ∃ y, M[i]? = some y := ⟨_, List.getElem?_eq_getElem (by omega)⟩
              obtain ⟨_, x1, _, _⟩ := HR.out.cells i x hx
              obtain ⟨_, y1, _, _⟩ := HR2.out.cells i y hy
              have hyx := (HPM.out.2 i x y hx hy).2
              have hxr := HF1.out x (List.mem_of_getElem? hx)
              rw [hyx, show x.f1 + ((j + 13 : Nat) : Int) = x.f1 + ((j : Int) + 13) by omega] at y1
              have hwx : IntKind.i64.wrap (x.f1 + ((j : Int) + 13)) = x.f1 + ((j : Int) + 13) := by rw [IntKind.wrap_i64]; omega
              have hwi : IntKind.i64.wrap ((i : Int) + 1) = (i : Int) + 1 := by rw [IntKind.wrap_i64]; omega
              clear hx hy hyx hML hn1 hn2
              go_upto_region 17 with (fail)
              go_still (by kernel_rfl)
              change Exit.then _ _ _ _ wr.drew
              replace HR := Aside0.mk (HR.out.below (below_drew (Below.refl wr.heap.size wr)))
              replace HR2 := Aside0.mk (HR2.out.below (below_drew (Below.refl wr.heap.size wr)))
              replace HB := Aside0.mk (below_drew HB.out)
              generalize wr.drew = wd at HR HR2 HB ⊢
              clear x1 y1
              go_wp2_with fail
              go_roundw
              case rel => exact ⟨i + 1, by omega, by go_num, HR2.out, HR.out, HB.out⟩
              case measure => simp [intOf]; omega
            · have hie : (i : Int) = (L.length : Int) := by omega
              clear hi
              go_wp2_with (go_at_call 14; with_reducible refine (same_rd HR.out.rd (RowT.rdn HR2.out HPM.out.1) HPM.out.1.symm (Nat.le_trans HN9.out (by decide)) (fun i x y hx hy => (HPM.out.2 i x y hx hy).1)).mono ?_; rintro e w5 ⟨rfl, hk⟩; replace HB := Aside0.mk (below_step HB.out hk); clear hk)
              go_ret
              exact ⟨rfl, HB.out⟩
end Go.Proofs.Ytikfgdkplgfiiaa.G
