/- Minus. Each contract names its state. -/
import Derived.Test.YtmcecmcnbhhniaaNi
import Derived.Deep.RegionLaw
set_option linter.unusedVariables false
set_option linter.unusedSimpArgs false
namespace Go.Proofs.Ytmcecmcnbhhniaa.G
open Go.RowKit Go.Proofs.Ytmcecmcnbhhniaa.B Go.Proofs.YtmcecmcnbhhniaaW.PrintWords Go.Proofs.YtmcecmcnbhhniaaW.PrintLast Go.Proofs.YtmcecmcnbhhniaaW.PrintMore

/-- A set that may be nil. -/
structure May (W : World) (p : Value) (t : List Sp) : Prop where
  wf : WF t
  of : (p = .pointer none ∧ t = []) ∨ ∃ b gt R, p = .pointer (some ⟨gt, 0, none⟩) ∧ SetAt b W gt R t
theorem May.below {W W' : World} {p : Value} {t : List Sp} (h : May W p t) (hb : Below W.heap.size W W') : May W' p t := by
  refine ⟨h.wf, ?_⟩
  rcases h.of with h1 | ⟨b, gt, R, h1, h2⟩
  · exact .inl h1
  · exact .inr ⟨b, gt, R, h1, h2.below hb⟩
theorem may_all {W : World} {p : Value} {t : List Sp} (h : May W p t) : ∃ A c, Reads W A t ∧ (∀ (i : Nat) (y : Sp), t[i]? = some y → ∃ gt, p = .pointer (some ⟨gt, 0, none⟩) ∧ W.heap[gt]? = some (.cells #[.slice A t.length c] 43 (0, 0))) ∧
    ∀ W', Below W.heap.size W W' → Calls Try.prog 28 #[p] W' fun e w' => e = .returned (.slice A t.length c) ∧ w' = W' := by
  rcases h.of with ⟨rfl, rfl⟩ | ⟨b, gt, R, rfl, hs⟩
  · exact ⟨none, 0, fun i x hx => by simp at hx, fun i y hy => by simp at hy, fun W' _ => all_nil W'⟩
  · obtain ⟨A, c, hbox, _, _, hr⟩ := hs.form
    exact ⟨A, c, hr, fun i y _ => ⟨gt, rfl, hbox⟩, fun W' hb => all_calls (blk_below hbox hb)⟩
theorem may_at {W : World} {p : Value} {t : List Sp} (h : May W p t) (n : Int) :
    Calls Try.prog 29 #[p, .int .i64 n] W fun e w' => e = .returned (.int .i64 (atS t n : Int)) ∧ Below W.heap.size W w' := by
  rcases h.of with ⟨rfl, rfl⟩ | ⟨b, gt, R, rfl, hs⟩
  · exact at_nil n W
  · exact at_calls hs h.wf n
theorem own_form {W : World} {base n : Nat} {e : TypeId} {size : Nat} {v : Value} {xs : List Value} (h : W.ownsRow base e size v n xs) : ∃ A c, v = .slice A n c := by
  rcases h.2 with ⟨rfl, h2⟩ | ⟨g, cap, cur, rfl, _⟩
  · exact ⟨none, 0, by rw [h2]⟩
  · exact ⟨_, _, rfl⟩
/-- One span more at a set's end. -/
theorem Made.push {W0 wd w1 : World} {go : Nat} {R : Option Nat} {q : List Sp} {y : Sp} {v v1 : Value} (h : Made W0 wd go R q) (hbox : wd.heap[go]? = some (.cells #[v] 43 (0, 0))) (hrow : RowS wd W0.heap.size v q) (hR : v.ownBlock = R) (hw : WF (q ++ [y]))
    (h1 : w1.ownsRow W0.heap.size 47 2 v1 (q.length + 1) (encP q ++ [.int .i64 y.lo, .int .i64 y.hi])) (hB : Below W0.heap.size W0 w1) (hg : wd.grownBy w1 v.ownBlock) (hat : v1.ownBlock = v.ownBlock ∨ ∃ b, v1.ownBlock = some b ∧ wd.heap.size ≤ b) :
    w1.heap[go]? = some (.cells #[v] 43 (0, 0)) ∧ Made W0 (w1.setCell ⟨go, 0, none⟩ v1) go v1.ownBlock (q ++ [y]) ∧
      ∀ gb o, go ≠ gb → R ≠ some gb → wd.heap[gb]? = some o → (w1.setCell ⟨go, 0, none⟩ v1).heap[gb]? = some o ∧ v1.ownBlock ≠ some gb := by
  have hg1 : w1.heap[go]? = some (.cells #[v] 43 (0, 0)) := blk_grown hbox hg (fun he => SetAt.apart hbox hrow he.symm)
  have hr1 : RowS w1 W0.heap.size v1 (q ++ [y]) := by
    unfold RowS
    rw [List.length_append, encP_append]
    exact h1
  have hfar := SetAt.apart hg1 hr1
  refine ⟨hg1, ⟨⟨⟨v1, blk_put hg1 0 _ rfl, own_move hr1 (fun k hk => Below.heap_setCell w1 ⟨go, 0, none⟩ _ k (fun he => hfar (by rw [hk, he]))), rfl⟩, h.set.base⟩, hw, ?_⟩, fun gb o hne hRn hgb => ⟨?_, ?_⟩⟩
  · exact Kp.below_of hB (Kp.setCell (Kp.refl w1 (fun k => k = go)) (p := ⟨go, 0, none⟩) (.inl rfl) v1) (fun k hk => by rw [hk]; exact h.set.base)
  · exact (Below.heap_setCell w1 ⟨go, 0, none⟩ _ gb (fun he => hne he.symm)).trans (blk_grown hgb hg (fun he => hRn (by rw [← hR]; exact he.symm)))
  · rcases hat with hat | ⟨b, hb, hle⟩
    · rw [hat, hR]; exact hRn
    · rw [hb]
      intro he
      injection he with he
      have := blk_lt hgb
      omega
theorem minusS_take {l t : List Sp} {j : Nat} {x : Sp} (h : l[j]? = some x) : minusS (l.take (j + 1)) t = minusS (l.take j) t ++ minus1 x.lo x.hi (t.drop (atS t x.lo)) := by
  rw [List.take_add_one, h]
  simp [minusS]
theorem minus1_in {lo hi : Int} {y : Sp} {t : List Sp} (h1 : y.lo ≤ hi) (h2 : lo ≤ hi) : minus1 lo hi (y :: t) = (if lo < y.lo then [⟨lo, y.lo - 1⟩] else []) ++ minus1 (y.hi + 1) hi t := by
  rw [minus1, if_pos ⟨h1, h2⟩]
theorem minus1_out {lo hi : Int} {y : Sp} {t : List Sp} (h : ¬ (y.lo ≤ hi ∧ lo ≤ hi)) : minus1 lo hi (y :: t) = if lo ≤ hi then [⟨lo, hi⟩] else [] := by
  rw [minus1, if_neg h]
theorem drop_at {t : List Sp} {i : Nat} {y : Sp} (h : t[i]? = some y) : t.drop i = y :: t.drop (i + 1) := by
  obtain ⟨h1, h2⟩ := List.getElem?_eq_some_iff.1 h
  rw [List.drop_eq_getElem_cons h1, h2]
theorem minus_nobody (p : Value) (W : World) : Calls Try.prog 23 #[.pointer none, p] W fun e w' => ∃ go, e = .returned (.pointer (some ⟨go, 0, none⟩)) ∧ ∃ R, Made W w' go R [] := by
  have HM : Aside0 (Made W (W.alloc (.cells #[.slice none 0 0] 43)) W.heap.size none []) := Aside0.mk
    ⟨⟨⟨_, blk_new W _, ⟨rfl, .inl ⟨rfl, rfl⟩⟩, rfl⟩, Nat.le_refl _⟩, WF.nil, below_alloc (Below.refl _ _) _⟩
  go_enter Try.func23, Try.ntmps23
  go_upto_region 2 with (fail)
  generalize (W.alloc (.cells #[.slice none 0 0] 43)) = w1 at HM ⊢
  generalize W.heap.size = gs at HM ⊢
  go_upto_block 0 with (go_at_call 28; with_reducible refine (all_nil w1).mono ?_; rintro e wm ⟨rfl, hwm⟩; obtain rfl := hwm.symm)
  go_wp2_with fail
  go_loopw [15] (fun i wx => i = .int .i64 0 ∧ wx = w1) (fun _ _ => 0)
  case atStart => exact ⟨rfl, rfl⟩
  case round =>
    obtain ⟨rfl, rfl⟩ := hrel
    go_wp2_with fail
    go_ret
    exact ⟨gs, rfl, none, HM.out⟩
set_option maxRecDepth 100000 in
set_option maxHeartbeats 16000000 in
theorem minus_calls {b : Nat} {W : World} {gs : Nat} {R : Option Nat} {l t : List Sp} {p : Value} (h : SetAt b W gs R l) (hw : WF l) (ht : May W p t) :
    Calls Try.prog 23 #[.pointer (some ⟨gs, 0, none⟩), p] W fun e w' => ∃ go, e = .returned (.pointer (some ⟨go, 0, none⟩)) ∧ ∃ R, Made W w' go R (minusS l t) := by
  have HW := Aside0.mk hw
  have HT := Aside0.mk ht
  obtain ⟨A, c, hbox, _, _, hr⟩ := h.form
  have HX := Aside0.mk (And.intro hbox hr)
  obtain ⟨At, ct, hrt, hpt, hat⟩ := may_all ht
  have HTA := Aside0.mk (And.intro hrt (And.intro hpt hat))
  have HTL := Aside0.mk (len_le ht.wf)
  have HLL := Aside0.mk (len_le hw)
  have HM : Aside0 (Made W (W.alloc (.cells #[.slice none 0 0] 43)) W.heap.size none []) := Aside0.mk
    ⟨⟨⟨_, blk_new W _, ⟨rfl, .inl ⟨rfl, rfl⟩⟩, rfl⟩, Nat.le_refl _⟩, WF.nil, below_alloc (Below.refl _ _) _⟩
  clear h hw ht hbox hr hrt hpt hat
  go_enter Try.func23, Try.ntmps23
  go_upto_region 2 with (fail)
  generalize (W.alloc (.cells #[.slice none 0 0] 43)) = w1 at HM ⊢
  generalize W.heap.size = go at HM ⊢
  go_upto_block 0 with (go_at_call 28; with_reducible refine (all_calls (blk_below HX.out.1 HM.out.below)).mono ?_; rintro e wm ⟨rfl, hwm⟩; obtain rfl := hwm.symm)
  go_wp2_with fail
  go_loopw [15] (fun iv wx => ∃ (j : Nat) (R2 : Option Nat), j ≤ l.length ∧ iv = .int .i64 (j : Int) ∧ Hid (Made W wx go R2 (minusS (l.take j) t))) (fun iv _ => l.length - (intOf iv).toNat)
  case atStart => exact ⟨0, none, Nat.zero_le _, rfl, HM.out⟩
  case round =>
    clear HM
    obtain ⟨j, R2, hj, rfl, hM⟩ := hrel
    have HM : Aside0 (Made W wr go R2 (minusS (l.take j) t)) := Aside0.mk hM
    clear hM
    by_cases hlt : (j : Int) < (l.length : Int)
    · have hj1 : j < l.length := by omega
      obtain ⟨x, hx⟩ : ∃ x, l[j]? = some x := ⟨_, List.getElem?_eq_getElem hj1⟩
      obtain ⟨g, rfl, d1, d2⟩ := (HX.out.2.mono HM.out.below) j x hx
      have hwj : IntKind.i64.wrap ((j : Int) + 1) = (j : Int) + 1 := by have := HLL.out; rw [IntKind.wrap_i64]; omega
      have HWJ := Aside0.mk hwj
      have HJ := Aside0.mk (And.intro hj1 (And.intro (minusS_take (t := t) hx) (minus_spec (HW.out.take (j + 1)) HT.out.wf).1))
      have HXO := Aside0.mk (HW.out.ok x (List.mem_of_getElem? hx))
      have HBx := Aside0.mk (blk_new wr (.cells #[.int .i64 x.lo, .int .i64 x.hi] 47))
      have HM2 := Aside0.mk (HM.out.low (below_alloc (Below.refl wr.heap.size wr) (.cells #[.int .i64 x.lo, .int .i64 x.hi] 47)))
      have HNE : Aside0 (go ≠ wr.heap.size ∧ R2 ≠ some wr.heap.size) := Aside0.mk (by
        refine ⟨?_, fun he => ?_⟩
        · have := HM.out.set.lt
          omega
        · obtain ⟨cc, h1, _⟩ := HM.out.set.own _ he
          have := blk_lt h1
          omega)
      generalize minusS (l.take j) t = acc at HM HM2 HJ ⊢
      obtain ⟨e1, e2⟩ := cell2 HBx.out
      clear hj hj1 hx HM hwj
      go_upto_region 5 with (fail)
      clear d1 d2
      generalize wr.heap.size = gb at HBx HNE e1 e2 ⊢
      generalize (wr.alloc (.cells #[.int .i64 x.lo, .int .i64 x.hi] 47)) = w2 at HBx HM2 e1 e2 ⊢
      go_upto_block 2 with (go_at_call 29; with_reducible refine (may_at (HT.out.below HM2.out.below) x.lo).mono ?_; rintro e wn ⟨rfl, hk⟩; replace HM2 := Aside0.mk (HM2.out.low hk); replace HBx := Aside0.mk (blk_below HBx.out hk); clear hk)
      clear e1 e2
      obtain ⟨M, hMM⟩ : ∃ M, minusS (l.take (j + 1)) t = M := ⟨_, rfl⟩
      rw [hMM] at HJ
      have HMM := Aside0.mk HJ.out.2.1.symm
      have HF0 := Aside0.mk hMM
      have hki := atS_le t x.lo
      have HKI := Aside0.mk hki
      clear hMM hki
      go_wp2_with fail
      go_loopw [9, 8] (fun iv lov wx => ∃ (i : Nat) (lo : Int) (q : List Sp) (R3 : Option Nat), i ≤ t.length ∧ iv = .int .i64 (i : Int) ∧ lov = .int .i64 lo ∧ 0 ≤ lo ∧ lo ≤ 1000001 ∧ Hid (q ++ minus1 lo x.hi (t.drop i) = M) ∧ Hid (Made W wx go R3 q) ∧ Hid (wx.heap[gb]? = some (.cells #[.int .i64 x.lo, .int .i64 x.hi] 47 (0, 0))) ∧ Hid (R3 ≠ some gb)) (fun iv _ _ => t.length - (intOf iv).toNat)
      case atStart => exact ⟨atS t x.lo, x.lo, acc, R2, HKI.out, rfl, rfl, HXO.out.1, by have := HXO.out; omega, HMM.out, HM2.out, HBx.out, HNE.out.2⟩
      case round =>
        clear HM2 HBx HMM HKI
        obtain ⟨i, lo, q, R3, hi, rfl, rfl, hlo0, hlo9, hmm, hM3, hbx, hne⟩ := hrel
        have HM : Aside0 (Made W wr go R3 q) := Aside0.mk hM3
        have HBX : Aside0 (wr.heap[gb]? = some (.cells #[.int .i64 x.lo, .int .i64 x.hi] 47 (0, 0))) := Aside0.mk hbx
        have HMM : Aside0 (q ++ minus1 lo x.hi (t.drop i) = M) := Aside0.mk hmm
        have HNR : Aside0 (R3 ≠ some gb) := Aside0.mk hne
        have HLO := Aside0.mk (And.intro hi (And.intro hlo0 hlo9))
        clear hi hlo0 hlo9 hmm hM3 hbx hne
        obtain ⟨e1, e2⟩ := cell2 HBX.out
        by_cases hit : i < t.length
        · obtain ⟨y, hy⟩ : ∃ y, t[i]? = some y := ⟨_, List.getElem?_eq_getElem hit⟩
          have HY := Aside0.mk (And.intro hy (drop_at hy))
          have HYO := Aside0.mk (HT.out.wf.ok y (List.mem_of_getElem? hy))
          obtain ⟨gt, rfl, hpb⟩ := HTA.out.2.1 i y hy
          obtain ⟨gy, rfl, f1, f2⟩ := (HTA.out.1.mono HM.out.below) i y hy
          have HPB := Aside0.mk hpb
          have c0 := cell1 (blk_below hpb HM.out.below)
          have hki : (i : Int) < (t.length : Int) := by omega
          clear hy hpb
          by_cases h1 : y.lo ≤ x.hi
          · by_cases h2 : lo ≤ x.hi
            · skip
              go_upto_region 7 with (fail)
              refine wp_region_still_lit rfl (by kernel_rfl) ?_
              iterate 2 (refine wpStill_on (by rfl) (fun K hK => ?_); go_simp; refine hK _ ?_; clear hK K)
              (refine wpStill_on (by rfl) (fun K hK => ?_); go_simp; refine ⟨_, HTA.out.2.2 _ (below_drew HM.out.below), hK _ ?_⟩; clear hK K)
              iterate 21 (refine wpStill_on (by rfl) (fun K hK => ?_); go_simp; refine hK _ ?_; clear hK K)
              refine wpStill_nil ?_
              change Exit.then _ _ _ _ wr.drew
              have HMd := Aside0.mk (HM.out.low (below_drew (Below.refl wr.heap.size wr)))
              have HBd : Aside0 (wr.drew.heap[gb]? = some (.cells #[.int .i64 x.lo, .int .i64 x.hi] 47 (0, 0))) := Aside0.mk HBX.out
              have HMN : Aside0 (minus1 lo x.hi (t.drop i) = (if lo < y.lo then [⟨lo, y.lo - 1⟩] else []) ++ minus1 (y.hi + 1) x.hi (t.drop (i + 1))) := Aside0.mk (by rw [HY.out.2]; exact minus1_in h1 h2)
              clear HM HBX e1 e2 f1 f2 c0
              generalize wr.drew = wd at HMd HBd ⊢
              obtain ⟨e1, e2⟩ := cell2 HBd.out
              obtain ⟨gy', hgy, f1, f2⟩ := (HTA.out.1.mono HMd.out.below) i y HY.out.1
              injection hgy with hgy
              injection hgy with hgy _ _
              subst hgy
              have c0 := cell1 (blk_below HPB.out HMd.out.below)
              have hwl : IntKind.i64.wrap (y.lo - 1) = y.lo - 1 := by have := HYO.out; rw [IntKind.wrap_i64]; omega
              have hwh : IntKind.i64.wrap (y.hi + 1) = y.hi + 1 := by have := HYO.out; rw [IntKind.wrap_i64]; omega
              have hwi : IntKind.i64.wrap ((i : Int) + 1) = (i : Int) + 1 := by have := HTL.out; rw [IntKind.wrap_i64]; omega
              by_cases h3 : lo < y.lo
              · rw [if_pos h3] at HMN
                have HE : Aside0 (q ++ [⟨lo, y.lo - 1⟩] ++ minus1 (y.hi + 1) x.hi (t.drop (i + 1)) = M) := Aside0.mk (by rw [List.append_assoc, ← HMN.out, HMM.out])
                have HWE : Aside0 (WF (q ++ [⟨lo, y.lo - 1⟩])) := Aside0.mk (by have := HJ.out.2.2; rw [← HE.out] at this; exact this.left)
                have HLE := Aside0.mk (len_le HWE.out.left)
                go_upto_region 10 with (fail)
                obtain ⟨v, hvb, hvr, hvR⟩ := HMd.out.set.box
                obtain ⟨Av, cv, rfl, _, _, _⟩ := hvr.form
                have HV := Aside0.mk (And.intro hvb (And.intro hvr hvR))
                have cg0 := cell1 hvb
                have cg1 := cell1 (blk_alloc hvb (.cells #[.int .i64 lo, .int .i64 (y.lo - 1)] 47))
                obtain ⟨e3, e4⟩ := cell2 (blk_alloc HBd.out (.cells #[.int .i64 lo, .int .i64 (y.lo - 1)] 47))
                obtain ⟨gy', hgy, f3, f4⟩ := (HTA.out.1.mono (below_alloc HMd.out.below (.cells #[.int .i64 lo, .int .i64 (y.lo - 1)] 47))) i y HY.out.1
                injection hgy with hgy
                injection hgy with hgy _ _
                subst hgy
                have c1 := cell1 (blk_alloc (blk_below HPB.out HMd.out.below) (.cells #[.int .i64 lo, .int .i64 (y.lo - 1)] 47))
                clear hvb hvr hvR
                go_region_law (refine step_append_cells (w0 := W) W.heap.size rfl _ _ 41 47 (.agg #[.int .i64 0, .int .i64 0]) 2 16 rfl Try.underlying41 (by kernel_rfl) (by decide) (by decide) (by decide) (.slice Av q.length cv) q.length (encP q) [.int .i64 lo, .int .i64 (y.lo - 1)] rfl rfl rfl ?aO (own_move HV.out.2.1 ?aM) (below_drew HMd.out.below) ?aB ?aL ?_; (case aM => (intro k hk; rfl)); (case aO => (intro u hu; simp only [List.mem_cons, List.not_mem_nil, or_false] at hu; rcases hu with rfl | rfl <;> rfl)); (case aB => exact HMd.out.below.size); (case aL => (have := HLE.out; omega)); intro v1 w3 hR1 hB1 hg1 hat1; obtain ⟨A9, c9, rfl⟩ := own_form hR1; have HP := Aside0.mk (Made.push (y := ⟨lo, (y.lo - 1)⟩) (HMd.out.low (below_drew (Below.refl wd.heap.size wd))) HV.out.1 HV.out.2.1 HV.out.2.2 HWE.out hR1 hB1 hg1 hat1); have hcz := cell1 HP.out.1; have hfz := blk_frozen HP.out.1 0; clear hR1 hB1 hg1 hat1)
                all_goals (
                  have HF := Aside0.mk HP.out.2.1
                  have HG := Aside0.mk (HP.out.2.2 gb _ HNE.out.1 HNR.out HBd.out)
                  clear HP
                  generalize (World.setCell _ _ _) = w5 at HF HG ⊢
                  clear e1 e2 e3 e4 cg0 cg1 f1 f2 f3 f4 c0 c1 hcz hfz
                  obtain ⟨gy', hgy, f1, f2⟩ := (HTA.out.1.mono HF.out.below) i y HY.out.1
                  injection hgy with hgy
                  injection hgy with hgy _ _
                  subst hgy
                  have c0 := cell1 (blk_below HPB.out HF.out.below)
                  go_wp2_with fail
                  have hyo := HYO.out
                  go_roundw
                  case rel => exact ⟨i + 1, y.hi + 1, q ++ [(⟨lo, y.lo - 1⟩ : Sp)], (Value.slice A9 (q.length + 1) c9).ownBlock, by omega, by go_num, rfl, by omega, by omega, HE.out, HF.out, HG.out.1, HG.out.2⟩
                  case measure => simp [intOf]; omega)
              · rw [if_neg h3, List.nil_append] at HMN
                go_wp2_with fail
                have hyo := HYO.out
                go_roundw
                case rel => exact ⟨i + 1, y.hi + 1, q, R3, by omega, by go_num, rfl, by omega, by omega, by rw [← HMN.out]; exact HMM.out, HMd.out, HBd.out, HNR.out⟩
                case measure => simp [intOf]; omega
            · skip
              go_upto_region 7 with (fail)
              refine wp_region_still_lit rfl (by kernel_rfl) ?_
              iterate 2 (refine wpStill_on (by rfl) (fun K hK => ?_); go_simp; refine hK _ ?_; clear hK K)
              (refine wpStill_on (by rfl) (fun K hK => ?_); go_simp; refine ⟨_, HTA.out.2.2 _ (below_drew HM.out.below), hK _ ?_⟩; clear hK K)
              iterate 21 (refine wpStill_on (by rfl) (fun K hK => ?_); go_simp; refine hK _ ?_; clear hK K)
              refine wpStill_nil ?_
              change Exit.then _ _ _ _ wr.drew
              have HMd := Aside0.mk (HM.out.low (below_drew (Below.refl wr.heap.size wr)))
              have HBd : Aside0 (wr.drew.heap[gb]? = some (.cells #[.int .i64 x.lo, .int .i64 x.hi] 47 (0, 0))) := Aside0.mk HBX.out
              have hex : minus1 lo x.hi (t.drop i) = if lo ≤ x.hi then [⟨lo, x.hi⟩] else [] := by rw [HY.out.2]; exact minus1_out (fun hh => h2 hh.2)
              have hll := h2
              clear HM HBX e1 e2 f1 f2 c0
              generalize wr.drew = wd at HMd HBd ⊢
              obtain ⟨e1, e2⟩ := cell2 HBd.out
              rw [if_neg hll] at hex
              have HE : Aside0 (q = M) := Aside0.mk (by rw [← HMM.out, hex, List.append_nil])
              clear hex
              have hwj := HWJ.out
              go_wp2_with fail
              have hj1 := HJ.out.1
              go_roundw
              case rel => exact ⟨j + 1, _, by omega, by go_num, by rw [HF0.out, ← HE.out]; exact HMd.out⟩
              case measure => simp [intOf]; omega
          · have HLD : Aside0 (decide (y.lo ≤ x.hi) = false) := Aside0.mk (decide_eq_false h1)
            have hex : minus1 lo x.hi (t.drop i) = if lo ≤ x.hi then [⟨lo, x.hi⟩] else [] := by rw [HY.out.2]; exact minus1_out (fun hh => h1 hh.1)
            have HEX := Aside0.mk hex
            clear h1 hex
            go_upto_region 7 with (fail)
            refine wp_region_still_lit rfl (by kernel_rfl) ?_
            iterate 2 (refine wpStill_on (by rfl) (fun K hK => ?_); go_simp; refine hK _ ?_; clear hK K)
            (refine wpStill_on (by rfl) (fun K hK => ?_); go_simp; refine ⟨_, HTA.out.2.2 _ (below_drew HM.out.below), hK _ ?_⟩; clear hK K)
            iterate 16 (refine wpStill_on (by rfl) (fun K hK => ?_); go_simp; refine hK _ ?_; clear hK K)
            iterate 4 (refine wpStill_off (by simp [Region.wanted, yielded, HLD.out]) ?_; simp only [Act.put, List.setIfInBounds_toArray, List.set_cons_zero, List.set_cons_succ])
            (refine wpStill_on (by rfl) (fun K hK => ?_); go_simp; (try rw [if_neg (of_decide_eq_false HLD.out)]); (try go_simp); refine hK _ ?_; clear hK K)
            refine wpStill_nil ?_
            change Exit.then _ _ _ _ wr.drew
            have HMd := Aside0.mk (HM.out.low (below_drew (Below.refl wr.heap.size wr)))
            have HBd : Aside0 (wr.drew.heap[gb]? = some (.cells #[.int .i64 x.lo, .int .i64 x.hi] 47 (0, 0))) := Aside0.mk HBX.out
            have hex := HEX.out
            clear HM HBX e1 e2 f1 f2 c0
            generalize wr.drew = wd at HMd HBd ⊢
            obtain ⟨e1, e2⟩ := cell2 HBd.out
            by_cases hll : lo ≤ x.hi
            · skip
              rw [if_pos hll] at hex
              have HE : Aside0 (q ++ [⟨lo, x.hi⟩] = M) := Aside0.mk (by rw [← hex, HMM.out])
              have HWE : Aside0 (WF (q ++ [⟨lo, x.hi⟩])) := Aside0.mk (by rw [HE.out]; exact HJ.out.2.2)
              have HLE := Aside0.mk (len_le HWE.out.left)
              clear hex
              go_upto_region 13 with (fail)
              obtain ⟨v, hvb, hvr, hvR⟩ := HMd.out.set.box
              obtain ⟨Av, cv, rfl, _, _, _⟩ := hvr.form
              have HV := Aside0.mk (And.intro hvb (And.intro hvr hvR))
              have cg0 := cell1 hvb
              have cg1 := cell1 (blk_alloc hvb (.cells #[.int .i64 lo, .int .i64 x.hi] 47))
              obtain ⟨e3, e4⟩ := cell2 (blk_alloc HBd.out (.cells #[.int .i64 lo, .int .i64 x.hi] 47))
              clear hvb hvr hvR
              go_region_law (refine step_append_cells (w0 := W) W.heap.size rfl _ _ 41 47 (.agg #[.int .i64 0, .int .i64 0]) 2 16 rfl Try.underlying41 (by kernel_rfl) (by decide) (by decide) (by decide) (.slice Av q.length cv) q.length (encP q) [.int .i64 lo, .int .i64 x.hi] rfl rfl rfl ?aO (own_move HV.out.2.1 ?aM) (below_drew HMd.out.below) ?aB ?aL ?_; (case aM => (intro k hk; rfl)); (case aO => (intro u hu; simp only [List.mem_cons, List.not_mem_nil, or_false] at hu; rcases hu with rfl | rfl <;> rfl)); (case aB => exact HMd.out.below.size); (case aL => (have := HLE.out; omega)); intro v1 w3 hR1 hB1 hg1 hat1; obtain ⟨A9, c9, rfl⟩ := own_form hR1; have HP := Aside0.mk (Made.push (y := ⟨lo, x.hi⟩) (HMd.out.low (below_drew (Below.refl wd.heap.size wd))) HV.out.1 HV.out.2.1 HV.out.2.2 HWE.out hR1 hB1 hg1 hat1); have hcz := cell1 HP.out.1; have hfz := blk_frozen HP.out.1 0; clear hR1 hB1 hg1 hat1)
              all_goals (
                have HF := Aside0.mk HP.out.2.1
                clear HP
                generalize (World.setCell _ _ _) = w5 at HF ⊢
                have hwj := HWJ.out
                go_wp2_with fail
                have hj1 := HJ.out.1
                go_roundw
                case rel => exact ⟨j + 1, _, by omega, by go_num, by rw [HF0.out, ← HE.out]; exact HF.out⟩
                case measure => simp [intOf]; omega)
            · skip
              rw [if_neg hll] at hex
              have HE : Aside0 (q = M) := Aside0.mk (by rw [← HMM.out, hex, List.append_nil])
              clear hex
              have hwj := HWJ.out
              go_wp2_with fail
              have hj1 := HJ.out.1
              go_roundw
              case rel => exact ⟨j + 1, _, by omega, by go_num, by rw [HF0.out, ← HE.out]; exact HMd.out⟩
              case measure => simp [intOf]; omega
        · have HK3 : Aside0 (decide (i < t.length) = false) := Aside0.mk (decide_eq_false hit)
          have hex : minus1 lo x.hi (t.drop i) = if lo ≤ x.hi then [⟨lo, x.hi⟩] else [] := by rw [List.drop_eq_nil_of_le (by omega)]; rfl
          have HEX := Aside0.mk hex
          clear hit hex
          go_upto_region 7 with (fail)
          refine wp_region_still_lit rfl (by kernel_rfl) ?_
          iterate 2 (refine wpStill_on (by rfl) (fun K hK => ?_); go_simp; refine hK _ ?_; clear hK K)
          (refine wpStill_on (by rfl) (fun K hK => ?_); go_simp; refine ⟨_, HTA.out.2.2 _ (below_drew HM.out.below), hK _ ?_⟩; clear hK K)
          iterate 3 (refine wpStill_on (by rfl) (fun K hK => ?_); go_simp; refine hK _ ?_; clear hK K)
          iterate 11 (refine wpStill_off (by simp [Region.wanted, yielded, HK3.out]) ?_; simp only [Act.put, List.setIfInBounds_toArray, List.set_cons_zero, List.set_cons_succ])
          (refine wpStill_on (by rfl) (fun K hK => ?_); go_simp; refine hK _ ?_; clear hK K)
          (refine wpStill_on (by rfl) (fun K hK => ?_); go_simp; refine hK _ ?_; clear hK K)
          iterate 4 (refine wpStill_off (by simp [Region.wanted, yielded, if_neg (of_decide_eq_false HK3.out)]) ?_; simp only [Act.put, List.setIfInBounds_toArray, List.set_cons_zero, List.set_cons_succ])
          (refine wpStill_on (by rfl) (fun K hK => ?_); go_simp; (try rw [if_neg (of_decide_eq_false HK3.out)]); (try go_simp); refine hK _ ?_; clear hK K)
          refine wpStill_nil ?_
          change Exit.then _ _ _ _ wr.drew
          have HMd := Aside0.mk (HM.out.low (below_drew (Below.refl wr.heap.size wr)))
          have HBd : Aside0 (wr.drew.heap[gb]? = some (.cells #[.int .i64 x.lo, .int .i64 x.hi] 47 (0, 0))) := Aside0.mk HBX.out
          have hex := HEX.out
          clear HM HBX e1 e2
          generalize wr.drew = wd at HMd HBd ⊢
          obtain ⟨e1, e2⟩ := cell2 HBd.out
          by_cases hll : lo ≤ x.hi
          · skip
            rw [if_pos hll] at hex
            have HE : Aside0 (q ++ [⟨lo, x.hi⟩] = M) := Aside0.mk (by rw [← hex, HMM.out])
            have HWE : Aside0 (WF (q ++ [⟨lo, x.hi⟩])) := Aside0.mk (by rw [HE.out]; exact HJ.out.2.2)
            have HLE := Aside0.mk (len_le HWE.out.left)
            clear hex
            go_upto_region 13 with (fail)
            obtain ⟨v, hvb, hvr, hvR⟩ := HMd.out.set.box
            obtain ⟨Av, cv, rfl, _, _, _⟩ := hvr.form
            have HV := Aside0.mk (And.intro hvb (And.intro hvr hvR))
            have cg0 := cell1 hvb
            have cg1 := cell1 (blk_alloc hvb (.cells #[.int .i64 lo, .int .i64 x.hi] 47))
            obtain ⟨e3, e4⟩ := cell2 (blk_alloc HBd.out (.cells #[.int .i64 lo, .int .i64 x.hi] 47))
            clear hvb hvr hvR
            go_region_law (refine step_append_cells (w0 := W) W.heap.size rfl _ _ 41 47 (.agg #[.int .i64 0, .int .i64 0]) 2 16 rfl Try.underlying41 (by kernel_rfl) (by decide) (by decide) (by decide) (.slice Av q.length cv) q.length (encP q) [.int .i64 lo, .int .i64 x.hi] rfl rfl rfl ?aO (own_move HV.out.2.1 ?aM) (below_drew HMd.out.below) ?aB ?aL ?_; (case aM => (intro k hk; rfl)); (case aO => (intro u hu; simp only [List.mem_cons, List.not_mem_nil, or_false] at hu; rcases hu with rfl | rfl <;> rfl)); (case aB => exact HMd.out.below.size); (case aL => (have := HLE.out; omega)); intro v1 w3 hR1 hB1 hg1 hat1; obtain ⟨A9, c9, rfl⟩ := own_form hR1; have HP := Aside0.mk (Made.push (y := ⟨lo, x.hi⟩) (HMd.out.low (below_drew (Below.refl wd.heap.size wd))) HV.out.1 HV.out.2.1 HV.out.2.2 HWE.out hR1 hB1 hg1 hat1); have hcz := cell1 HP.out.1; have hfz := blk_frozen HP.out.1 0; clear hR1 hB1 hg1 hat1)
            all_goals (
              have HF := Aside0.mk HP.out.2.1
              clear HP
              generalize (World.setCell _ _ _) = w5 at HF ⊢
              have hwj := HWJ.out
              go_wp2_with fail
              have hj1 := HJ.out.1
              go_roundw
              case rel => exact ⟨j + 1, _, by omega, by go_num, by rw [HF0.out, ← HE.out]; exact HF.out⟩
              case measure => simp [intOf]; omega)
          · skip
            rw [if_neg hll] at hex
            have HE : Aside0 (q = M) := Aside0.mk (by rw [← HMM.out, hex, List.append_nil])
            clear hex
            have hwj := HWJ.out
            go_wp2_with fail
            have hj1 := HJ.out.1
            go_roundw
            case rel => exact ⟨j + 1, _, by omega, by go_num, by rw [HF0.out, ← HE.out]; exact HMd.out⟩
            case measure => simp [intOf]; omega
    · have hje : j = l.length := by omega
      subst hje
      rw [List.take_length] at HM
      clear hj
      go_wp2_with fail
      go_ret
      exact ⟨go, rfl, R2, HM.out⟩
end Go.Proofs.Ytmcecmcnbhhniaa.G
