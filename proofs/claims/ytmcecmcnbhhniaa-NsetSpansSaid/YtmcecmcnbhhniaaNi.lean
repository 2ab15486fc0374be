/- slices.Clone of spans, Union. Each contract names its state. -/
import Derived.Test.YtmcecmcnbhhniaaNe
set_option linter.unusedVariables false
set_option linter.unusedSimpArgs false
namespace Go.Proofs.Ytmcecmcnbhhniaa.G
open Go.RowKit Go.Proofs.Ytmcecmcnbhhniaa.B Go.Proofs.YtmcecmcnbhhniaaW.PrintWords Go.Proofs.YtmcecmcnbhhniaaW.PrintLast Go.Proofs.YtmcecmcnbhhniaaW.PrintMore

theorem append_sp2 {ops : Array Oper} {rest : List Oper} {o : Oper} {a : Act} {Q : Exit → Act → World → Prop} {w : World} (base : Nat) (hgd : o.guard = none) (s x : Operand)
    (ho : o.op = .call { callee := .builtin .append, args := #[s, x], argTypes := #[41, 41] })
    (v : Value) (l m : List Sp) (hs : a.eval s = v) (HO : RowS w base v l) (gb n : Nat) (hn : n = m.length) (c : Nat) (hx : a.eval x = .slice (some ⟨gb, 0, none⟩) n c)
    (hb : Reads w (some ⟨gb, 0, none⟩) m) (hbase : base ≤ w.heap.size) (hl : l.length + m.length ≤ 4000000)
    (h : ∀ v1 w1, RowS w1 base v1 (l ++ m) → w.grownBy w1 v.ownBlock → (v1.ownBlock = v.ownBlock ∨ v1.ownBlock = some w.heap.size) → wpList Try.prog ops Q rest (a.put o.dst v1) w1) :
    wpList Try.prog ops Q (o :: rest) a w := by
  subst hn
  have hinfo : (Try.prog.info? 47).map (fun i => (i.zero, i.size, i.bytes)) = some (some (.agg #[.int .i64 0, .int .i64 0]), 2, 16) := by kernel_rfl
  obtain ⟨i0, hi, hzz⟩ := Option.map_eq_some_iff.1 hinfo
  simp only [Prod.mk.injEq] at hzz
  obtain ⟨hz0, hz1, hz2⟩ := hzz
  refine wpList_append_own_at w hgd s x 41 ho base 47 i0 (.agg #[.int .i64 0, .int .i64 0]) 2 16 Try.underlying41 hi hz0 hz1 hz2 (by kernel_rfl) (by decide) v l.length (encP l) hs HO ⟨gb, 0, none⟩ m.length c (encP m) hx (encP_length m)
    (fun j u hj => ?_) (encP_one m) (by simp only [maxLen]; omega) (by omega) hbase ?_
  · have hjl := (List.getElem?_eq_some_iff.1 hj).1
    rw [encP_length] at hjl
    have hx : m[j / 2]? = some m[j / 2] := List.getElem?_eq_getElem (by omega)
    obtain ⟨e1, e2⟩ := encP_get hx
    obtain ⟨g', hg', h1, h2⟩ := hb _ _ hx
    injection hg' with hg'
    injection hg' with hg'
    subst hg'
    rw [show (⟨gb, 0, none⟩ : Addr).add j = ⟨gb, j, none⟩ by unfold Addr.add; split <;> simp_all]
    rcases Nat.mod_two_eq_zero_or_one j with hm | hm
    · rw [show j / 2 * 2 = j by omega] at e1 h1
      rw [e1] at hj
      injection hj with hj
      rw [h1, hj]
    · rw [show j / 2 * 2 + 1 = j by omega] at e2 h2
      rw [e2] at hj
      injection hj with hj
      rw [h2, hj]
  · intro v1 w1 h1 hg _ hown
    refine h v1 w1 ?_ hg hown
    unfold RowS
    rw [List.length_append, encP_append]
    exact h1
theorem clone_calls {W : World} {b : Nat} {v : Value} {l : List Sp} (hr : RowS W b v l) (hl : l.length ≤ 2000000) :
    Calls Try.prog 31 #[v] W fun e w' => ∃ A c, e = .returned (.slice A l.length c) ∧ RowS w' W.heap.size (.slice A l.length c) l ∧ Below W.heap.size W w' := by
  by_cases h0 : v = .slice none 0 0
  · subst h0
    obtain rfl : l = [] := by
      rcases hr.2 with ⟨_, h1⟩ | ⟨g, cap, cur, h1, _⟩
      · exact List.eq_nil_of_length_eq_zero h1
      · injection h1 with h1; cases h1
    have he : ∀ w : World, (binOp .eql 41 (.slice none 0 0) (.slice none 0 0)).run Try.prog w = .ok (.bool true) w := fun w => Go.run_eql_slice_nil w 41 47 _ _ _ Try.underlying41
    clear hr hl
    go_enter Try.func31, Try.ntmps31
    go_wp2
    go_ret
    exact ⟨none, 0, rfl, ⟨rfl, .inl ⟨rfl, rfl⟩⟩, Below.refl _ _⟩
  · obtain ⟨g, cap, L, rfl, _, _, _, _, _, _⟩ := hr.cells h0
    obtain ⟨A', c', he, _, _, hrd⟩ := hr.form
    injection he with he1 he2 he3
    subst he1 he3
    have HR := Aside0.mk (And.intro hrd hl)
    have he : ∀ w : World, (binOp .eql 41 (.slice (some ⟨g, 0, none⟩) l.length cap) (.slice none 0 0)).run Try.prog w = .ok (.bool false) w := fun w => Go.run_eql_slice_nil w 41 47 _ _ _ Try.underlying41
    clear hr hl h0 hrd
    go_enter Try.func31, Try.ntmps31
    go_upto_region 99 with (at_builtin; refine append_sp2 W.heap.size rfl _ _ rfl _ [] l rfl (World.ownsRow_lit W #[] 0 (Nat.le_refl _) (by decide) rfl) g l.length rfl cap rfl (HR.out.1.mono (below_alloc (Below.refl _ _) _)) ?x1 ?x2 ?x3)
    case x2 =>
      have := HR.out.2
      omega
    intro v1 w1 h1 g1 _
    have H1 : Aside0 (RowS w1 W.heap.size v1 l) := Aside0.mk h1
    have HB1 := Aside0.mk ((below_alloc (Below.refl W.heap.size W) (.cells #[] 47)).grown g1 (by simp) (fun k hk => by simp [Value.ownBlock] at hk; omega))
    clear h1 g1
    go_wp2_with fail
    go_ret
    obtain ⟨A, c, rfl, _, _, _⟩ := H1.out.form
    exact ⟨A, c, rfl, H1.out, HB1.out⟩
theorem RowS.keep {W W' : World} {b : Nat} {v : Value} {l : List Sp} {S : Nat → Prop} (h : RowS W b v l) (hk : Kp W W' S) (hs : ∀ k, b ≤ k → ¬ S k) : RowS W' b v l :=
  own_move h (fun k hk' => by obtain ⟨c, hc⟩ := own_typed h k hk'; exact hk.block k (blk_lt hc) (hs k (own_base h k hk')))
/-- An operation of a drawn region whose guard is off. -/
theorem wpStill_off {P : Program} {ops : Array Oper} {w : World} {Q : Act → Prop} {a : Act} {o : Oper} {rest : List Oper} (h : Region.wanted o (yielded ops a.tmps) = false) (hK : wpStill P ops w Q rest (a.put o.dst undef)) : wpStill P ops w Q (o :: rest) a := by
  unfold wpStill
  rw [if_neg (by rw [h]; simp)]
  exact hK
theorem wpStill_on {P : Program} {ops : Array Oper} {w : World} {Q : Act → Prop} {a : Act} {o : Oper} {rest : List Oper} (hw : Region.wanted o (yielded ops a.tmps) = true) (h : ∀ K : Act → Prop, (∀ a, wpStill P ops w Q rest a → K a) → o.still P a w K) : wpStill P ops w Q (o :: rest) a := by
  unfold wpStill
  rw [if_pos hw]
  exact h _ (fun _ h => h)
/-- One call behind the other on a set. -/
theorem Left.trans {b : Nat} {W W2 W3 : World} {gs : Nat} {R R2 : Option Nat} {m : List Sp} (hk : Kp W W2 (fun k => k = gs ∨ R = some k)) (h2 : R2 = R ∨ ∀ k, R2 = some k → W.heap.size ≤ k) (h : Left b W2 gs R2 W3 m) : Left b W gs R W3 m := by
  obtain ⟨R3, s3, f3⟩ := h.set
  refine ⟨⟨R3, s3, ?_⟩, hk.then_ h.kp (fun k hk' => ?_)⟩
  · rcases f3 with rfl | f3
    · exact h2
    · exact .inr (fun k hk' => Nat.le_trans hk.size (f3 k hk'))
  · rcases hk' with rfl | hk'
    · exact .inl (.inl rfl)
    · rcases h2 with rfl | h2
      · exact .inl (.inr hk')
      · exact .inr (h2 k hk')
theorem Left.low {b : Nat} {W W2 W3 : World} {gs : Nat} {R : Option Nat} {m : List Sp} (h : Left b W gs R W2 m) (hb : Below W2.heap.size W2 W3) : Left b W gs R W3 m := by
  obtain ⟨R2, s2, f2⟩ := h.set
  exact ⟨⟨R2, s2.below hb, f2⟩, h.kp.below hb⟩
theorem foldl_snoc {l : List Sp} {t : List Sp} {j : Nat} {x : Sp} (h : t[j]? = some x) : (t.take (j + 1)).foldl uniStep (l, false) = uniStep ((t.take j).foldl uniStep (l, false)) x := by
  rw [List.take_add_one, h]
  simp [List.foldl_append]
set_option maxRecDepth 100000 in
set_option maxHeartbeats 8000000 in
theorem union_calls {b bt : Nat} {W : World} {gs gt : Nat} {R Rt : Option Nat} {l t : List Sp} (h : SetAt b W gs R l) (hb : b ≤ W.heap.size) (hw : WF l) (ht : SetAt bt W gt Rt t) (hwt : WF t) :
    Calls Try.prog 22 #[.pointer (some ⟨gs, 0, none⟩), .pointer (some ⟨gt, 0, none⟩)] W fun e w' => e = .returned (.bool (unionS l t).2) ∧ Left b W gs R w' (unionS l t).1 := by
  have HS := Aside0.mk h
  have HW := Aside0.mk (And.intro hw (And.intro hwt hb))
  obtain ⟨v, hbox, hrow, _⟩ := ht.box
  obtain ⟨A0, c0, rfl, _, _, _⟩ := hrow.form
  have HT := Aside0.mk (And.intro hbox hrow)
  have hlt := len_le hwt
  clear h hb hw ht hwt hbox hrow
  go_enter Try.func22, Try.ntmps22
  go_upto_block 0 with (first | (go_at_call 28; with_reducible refine (all_calls HT.out.1).mono ?_; rintro e wm ⟨rfl, hwm⟩; obtain rfl := hwm.symm) | (go_at_call 31; with_reducible refine (clone_calls HT.out.2 (by omega)).mono ?_; rintro e w1 ⟨A, c, rfl, hR, hk⟩; have HC := Aside0.mk (And.intro hR hk); clear hR hk))
  have HL : Aside0 (Left b w1 gs R w1 l) := Aside0.mk (Left.same (HS.out.below HC.out.2) (Below.refl _ _))
  have HG : Aside0 (∀ k, W.heap.size ≤ k → ¬ (k = gs ∨ R = some k)) := Aside0.mk (fun k hk hh => by
    rcases hh with rfl | hh
    · have := HS.out.lt
      omega
    · obtain ⟨cc, h1, _⟩ := HS.out.own k hh
      have := blk_lt h1
      omega)
  obtain ⟨A', c', he, hlc, hcm, hrd⟩ := HC.out.1.form
  injection he with he1 he2 he3
  subst he1 he3
  have HRd := Aside0.mk hrd
  clear he2 hrd hlc hcm
  have HKr := Aside0.mk hlt
  clear hlt HS HT
  go_wp2_with fail
  go_loopw [15, 5] (fun iv mv wx => ∃ (j : Nat), j ≤ t.length ∧ iv = .int .i64 (j : Int) ∧ mv = .bool ((t.take j).foldl uniStep (l, false)).2 ∧ Hid (Left b w1 gs R wx ((t.take j).foldl uniStep (l, false)).1)) (fun iv _ _ => t.length - (intOf iv).toNat)
  case atStart => exact ⟨0, Nat.zero_le _, rfl, rfl, HL.out⟩
  case round =>
    clear HL HRd
    obtain ⟨j, hj, rfl, rfl, hL⟩ := hrel
    have HL : Aside0 (Left b w1 gs R wr ((t.take j).foldl uniStep (l, false)).1) := Aside0.mk hL
    clear hL
    by_cases hlt : (j : Int) < (t.length : Int)
    · have hj1 : j < t.length := by omega
      obtain ⟨x, hx⟩ : ∃ x, t[j]? = some x := ⟨_, List.getElem?_eq_getElem hj1⟩
      obtain ⟨Aq, cq, he, _, _, hrr⟩ := (HC.out.1.keep HL.out.kp HG.out).form
      injection he with he1 he2 he3
      subst he1 he3
      clear he2
      obtain ⟨g, hA, d1, d2⟩ := hrr j x hx
      subst hA
      have hwj : IntKind.i64.wrap ((j : Int) + 1) = (j : Int) + 1 := by have := HKr.out; rw [IntKind.wrap_i64]; omega
      have HJ := Aside0.mk (And.intro hj1 (foldl_snoc (l := l) hx))
      have HXO := Aside0.mk (HW.out.2.1.ok x (List.mem_of_getElem? hx))
      have HWx := Aside0.mk (uni_spec (t.take j) (more := false) HW.out.1 (HW.out.2.1.take j)).1
      generalize (t.take j).foldl uniStep (l, false) = p at HL HJ HWx ⊢
      obtain ⟨R2, hs2, hr2⟩ := HL.out.set
      have HSx := Aside0.mk hs2
      have HR2 := Aside0.mk hr2
      have HKx := Aside0.mk HL.out.kp
      have hb2 := below_alloc (Below.refl wr.heap.size wr) (.cells #[.int .i64 x.lo, .int .i64 x.hi] 47)
      have HBx := Aside0.mk (blk_new wr (.cells #[.int .i64 x.lo, .int .i64 x.hi] 47))
      obtain ⟨e1, e2⟩ := cell2 HBx.out
      clear hj hj1 hx hrr hs2 hr2 HL
      go_upto_region 7 with (fail)
      replace HSx := Aside0.mk (HSx.out.below hb2)
      replace HKx := Aside0.mk (HKx.out.below hb2)
      clear d1 d2 hb2
      generalize wr.heap.size = gb at HBx e1 e2 ⊢
      generalize (wr.alloc (.cells #[.int .i64 x.lo, .int .i64 x.hi] 47)) = w2 at HBx HSx HKx e1 e2 ⊢
      go_upto_region 8 with (go_at_call 29; with_reducible refine (at_calls HSx.out HWx.out x.lo).mono ?_; rintro e wn ⟨rfl, hk⟩; replace HSx := Aside0.mk (HSx.out.below hk); replace HKx := Aside0.mk (HKx.out.below hk); replace HBx := Aside0.mk (blk_below HBx.out hk); have hgrow := hk.size; have HGR := Aside0.mk hgrow; clear hgrow hk)
      clear e1 e2 HGR
      obtain ⟨e1, e2⟩ := cell2 HBx.out
      obtain ⟨Ap, cp, hbx, _, _, hrp⟩ := HSx.out.form
      have c0x := cell1 hbx
      clear hbx
      have hcv : covS p.1 x = match p.1[atS p.1 x.lo]? with | some y => decide (y.lo ≤ x.lo) && decide (x.hi ≤ y.hi) | none => false := rfl
      generalize atS p.1 x.lo = k0 at hcv ⊢
      cases hy : p.1[k0]? with
      | none =>
        rw [hy] at hcv
        have hk1 : (p.1.length : Int) ≤ (k0 : Int) := by have := List.getElem?_eq_none_iff.1 hy; omega
        have HK3 : Aside0 (decide (k0 < p.1.length) = false) := Aside0.mk (decide_eq_false (by omega))
        clear hk1
        have HCV : Aside0 (covS p.1 x = false) := Aside0.mk hcv
        clear hcv hrp hy
        go_upto_region 8 with (fail)
        refine wp_region_still_lit rfl (by kernel_rfl) ?_
        iterate 8 (refine wpStill_on (by rfl) (fun K hK => ?_); go_simp; refine hK _ ?_; clear hK K)
        iterate 11 (refine wpStill_off (by simp [Region.wanted, yielded, HK3.out]) ?_; simp only [Act.put, List.setIfInBounds_toArray, List.set_cons_zero, List.set_cons_succ])
        (refine wpStill_on (by rfl) (fun K hK => ?_); go_simp; refine hK _ ?_; clear hK K)
        (refine wpStill_on (by rfl) (fun K hK => ?_); go_simp; refine hK _ ?_; clear hK K)
        iterate 11 (refine wpStill_off (by simp [Region.wanted, yielded, if_neg (of_decide_eq_false HK3.out)]) ?_; simp only [Act.put, List.setIfInBounds_toArray, List.set_cons_zero, List.set_cons_succ])
        (refine wpStill_on (by rfl) (fun K hK => ?_); go_simp; (try rw [if_neg (of_decide_eq_false HK3.out)]); (try go_simp); refine hK _ ?_; clear hK K)
        refine wpStill_nil ?_
        change Exit.then _ _ _ _ wn.drew
        have hdd := below_drew (Below.refl wn.heap.size wn)
        have HSd := Aside0.mk (HSx.out.below hdd)
        have HBd : Aside0 (wn.drew.heap[gb]? = some (.cells #[.int .i64 x.lo, .int .i64 x.hi] 47 (0, 0))) := Aside0.mk HBx.out
        have HKd : Aside0 (Kp w1 wn.drew (fun k => k = gs ∨ R = some k)) := Aside0.mk (HKx.out.below hdd)
        clear HBx HKx HSx hdd c0x e1 e2 
        generalize wn.drew = wd at HSd HBd HKd ⊢
        obtain ⟨e1, e2⟩ := cell2 HBd.out
        have HWd : Aside0 (b ≤ wd.heap.size) := Aside0.mk (Nat.le_trans HW.out.2.2 (Nat.le_trans HC.out.2.size HKd.out.size))
        go_wp2_with (go_at_call 27; with_reducible refine (put_calls HSd.out HWd.out HWx.out x.lo x.hi HXO.out.1 HXO.out.2.1 HXO.out.2.2).mono ?_; rintro e w3 ⟨rfl, hL⟩; have HP := Aside0.mk hL; clear hL)
        obtain ⟨hj1, hfs⟩ := HJ.out
        have hun : uniStep p x = (putS p.1 x.lo x.hi, true) := by unfold uniStep; rw [if_neg (by rw [HCV.out]; simp)]
        rw [hun] at hfs
        go_roundw
        case rel => exact ⟨j + 1, by omega, by go_num, by rw [hfs], by rw [hfs]; exact Left.trans HKd.out HR2.out HP.out⟩
        case measure => simp [intOf]; omega
      | some y =>
        rw [hy] at hcv
        have hk1 : (k0 : Int) < (p.1.length : Int) := by have := (List.getElem?_eq_some_iff.1 hy).1; omega
        obtain ⟨gp, hAp, e3, e4⟩ := hrp k0 y hy
        subst hAp
        clear hy hrp
        by_cases hlo : y.lo ≤ x.lo
        · by_cases hhi : x.hi ≤ y.hi
          · have HCV : Aside0 (covS p.1 x = true) := Aside0.mk (by rw [hcv]; simp [hlo, hhi])
            clear hcv
            go_upto_region 8 with (fail)
            go_still (by kernel_rfl)
            change Exit.then _ _ _ _ wn.drew
            have hdd := below_drew (Below.refl wn.heap.size wn)
            have HSd := Aside0.mk (HSx.out.below hdd)
            have HBd : Aside0 (wn.drew.heap[gb]? = some (.cells #[.int .i64 x.lo, .int .i64 x.hi] 47 (0, 0))) := Aside0.mk HBx.out
            have HKd : Aside0 (Kp w1 wn.drew (fun k => k = gs ∨ R = some k)) := Aside0.mk (HKx.out.below hdd)
            clear HBx HKx HSx hdd c0x e1 e2 e3 e4
            generalize wn.drew = wd at HSd HBd HKd ⊢
            obtain ⟨e1, e2⟩ := cell2 HBd.out
            go_wp2_with fail
            obtain ⟨hj1, hfs⟩ := HJ.out
            have hun : uniStep p x = p := by unfold uniStep; rw [if_pos HCV.out]
            rw [hun] at hfs
            go_roundw
            case rel => exact ⟨j + 1, by omega, by go_num, by rw [hfs], by rw [hfs]; exact ⟨⟨R2, HSd.out, HR2.out⟩, HKd.out⟩⟩
            case measure => simp [intOf]; omega
          · have HCV : Aside0 (covS p.1 x = false) := Aside0.mk (by rw [hcv]; simp [hhi])
            clear hcv
            go_upto_region 8 with (fail)
            go_still (by kernel_rfl)
            change Exit.then _ _ _ _ wn.drew
            have hdd := below_drew (Below.refl wn.heap.size wn)
            have HSd := Aside0.mk (HSx.out.below hdd)
            have HBd : Aside0 (wn.drew.heap[gb]? = some (.cells #[.int .i64 x.lo, .int .i64 x.hi] 47 (0, 0))) := Aside0.mk HBx.out
            have HKd : Aside0 (Kp w1 wn.drew (fun k => k = gs ∨ R = some k)) := Aside0.mk (HKx.out.below hdd)
            clear HBx HKx HSx hdd c0x e1 e2 e3 e4
            generalize wn.drew = wd at HSd HBd HKd ⊢
            obtain ⟨e1, e2⟩ := cell2 HBd.out
            have HWd : Aside0 (b ≤ wd.heap.size) := Aside0.mk (Nat.le_trans HW.out.2.2 (Nat.le_trans HC.out.2.size HKd.out.size))
            go_wp2_with (go_at_call 27; with_reducible refine (put_calls HSd.out HWd.out HWx.out x.lo x.hi HXO.out.1 HXO.out.2.1 HXO.out.2.2).mono ?_; rintro e w3 ⟨rfl, hL⟩; have HP := Aside0.mk hL; clear hL)
            obtain ⟨hj1, hfs⟩ := HJ.out
            have hun : uniStep p x = (putS p.1 x.lo x.hi, true) := by unfold uniStep; rw [if_neg (by rw [HCV.out]; simp)]
            rw [hun] at hfs
            go_roundw
            case rel => exact ⟨j + 1, by omega, by go_num, by rw [hfs], by rw [hfs]; exact Left.trans HKd.out HR2.out HP.out⟩
            case measure => simp [intOf]; omega
        · have HCV : Aside0 (covS p.1 x = false) := Aside0.mk (by rw [hcv]; simp [hlo])
          have HLO : Aside0 (decide (y.lo ≤ x.lo) = false) := Aside0.mk (decide_eq_false hlo)
          clear hcv hlo
          go_upto_region 8 with (fail)
          refine wp_region_still_lit rfl (by kernel_rfl) ?_
          iterate 21 (refine wpStill_on (by rfl) (fun K hK => ?_); go_simp; refine hK _ ?_; clear hK K)
          iterate 11 (refine wpStill_off (by simp [Region.wanted, yielded, HLO.out]) ?_; simp only [Act.put, List.setIfInBounds_toArray, List.set_cons_zero, List.set_cons_succ])
          (refine wpStill_on (by rfl) (fun K hK => ?_); go_simp; rw [if_neg (of_decide_eq_false HLO.out)]; refine hK _ ?_; clear hK K)
          refine wpStill_nil ?_
          change Exit.then _ _ _ _ wn.drew
          have hdd := below_drew (Below.refl wn.heap.size wn)
          have HSd := Aside0.mk (HSx.out.below hdd)
          have HBd : Aside0 (wn.drew.heap[gb]? = some (.cells #[.int .i64 x.lo, .int .i64 x.hi] 47 (0, 0))) := Aside0.mk HBx.out
          have HKd : Aside0 (Kp w1 wn.drew (fun k => k = gs ∨ R = some k)) := Aside0.mk (HKx.out.below hdd)
          clear HBx HKx HSx hdd c0x e1 e2 e3 e4
          generalize wn.drew = wd at HSd HBd HKd ⊢
          obtain ⟨e1, e2⟩ := cell2 HBd.out
          have HWd : Aside0 (b ≤ wd.heap.size) := Aside0.mk (Nat.le_trans HW.out.2.2 (Nat.le_trans HC.out.2.size HKd.out.size))
          go_wp2_with (go_at_call 27; with_reducible refine (put_calls HSd.out HWd.out HWx.out x.lo x.hi HXO.out.1 HXO.out.2.1 HXO.out.2.2).mono ?_; rintro e w3 ⟨rfl, hL⟩; have HP := Aside0.mk hL; clear hL)
          obtain ⟨hj1, hfs⟩ := HJ.out
          have hun : uniStep p x = (putS p.1 x.lo x.hi, true) := by unfold uniStep; rw [if_neg (by rw [HCV.out]; simp)]
          rw [hun] at hfs
          go_roundw
          case rel => exact ⟨j + 1, by omega, by go_num, by rw [hfs], by rw [hfs]; exact Left.trans HKd.out HR2.out HP.out⟩
          case measure => simp [intOf]; omega
    · have hje : j = t.length := by omega
      subst hje
      rw [List.take_length] at HL ⊢
      clear hj
      go_wp2_with fail
      go_ret
      exact ⟨rfl, HL.out.of_below HC.out.2⟩
end Go.Proofs.Ytmcecmcnbhhniaa.G
