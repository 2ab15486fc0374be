/- put, Add, New. Each contract names its state. -/
import Derived.Test.YtmcecmcnbhhniaaNc
set_option linter.unusedVariables false
set_option linter.unusedSimpArgs false
namespace Go.Proofs.Ytmcecmcnbhhniaa.G
open Go.RowKit Go.Proofs.Ytmcecmcnbhhniaa.B Go.Proofs.YtmcecmcnbhhniaaW.PrintWords Go.Proofs.YtmcecmcnbhhniaaW.PrintLast Go.Proofs.YtmcecmcnbhhniaaW.PrintMore
attribute [local go_sem] max2_int min2_int max_two min_two

/-- What a call on a set leaves: this list; nothing but the set and its row is turned. -/
structure Left (b : Nat) (W : World) (gs : Nat) (R : Option Nat) (w' : World) (m : List Sp) : Prop where
  set : ∃ R', SetAt b w' gs R' m ∧ (R' = R ∨ ∀ k, R' = some k → W.heap.size ≤ k)
  kp : Kp W w' (fun k => k = gs ∨ R = some k)
theorem SetAt.apart {b : Nat} {W : World} {gs : Nat} {u v : Value} {l : List Sp} (h1 : W.heap[gs]? = some (.cells #[u] 43 (0, 0))) (h2 : RowS W b v l) : v.ownBlock ≠ some gs := fun he => by
  obtain ⟨c, hc⟩ := own_typed h2 gs he
  rw [h1] at hc
  injection hc with hc
  injection hc with _ hc
  exact absurd hc (by decide)
theorem Left.of_below {b : Nat} {W W1 w' : World} {gs : Nat} {R : Option Nat} {m : List Sp} (h : Left b W1 gs R w' m) (hb : Below W.heap.size W W1) : Left b W gs R w' m := by
  obtain ⟨R', h1, h2⟩ := h.set
  refine ⟨⟨R', h1, ?_⟩, (Kp.of_below hb _).then_ h.kp (fun k hk => .inl hk)⟩
  rcases h2 with h2 | h2
  · exact .inl h2
  · exact .inr (fun k hk => Nat.le_trans hb.size (h2 k hk))
/-- Replace, and its result laid into the set. -/
theorem replace_step {W : World} {b gs i j : Nat} {R : Option Nat} {l : List Sp} (x : Sp) (h : SetAt b W gs R l) (hb : b ≤ W.heap.size) (hn : l.length ≤ 2000000) (hij : i ≤ j) (hj : j ≤ l.length) :
    ∃ A c, W.heap[gs]? = some (.cells #[.slice A l.length c] 43 (0, 0)) ∧ Calls Try.prog 32 #[.slice A l.length c, .int .i64 i, .int .i64 j, .slice (some ⟨W.heap.size, 0, none⟩) 1 1] (W.alloc (.cells #[.int .i64 x.lo, .int .i64 x.hi] 47)) fun e w' => ∃ A2 n2 c2 v0, e = .returned (.slice A2 n2 c2) ∧ w'.heap[gs]? = some (.cells #[v0] 43 (0, 0)) ∧
      Left b W gs R (w'.setCell ⟨gs, 0, none⟩ (.slice A2 n2 c2)) (l.take i ++ x :: l.drop j) := by
  obtain ⟨v, h1, h2, h3⟩ := h.box
  obtain ⟨A, c, rfl, hc, hm, hr⟩ := h2.form
  refine ⟨A, c, h1, ?_⟩
  have hne := SetAt.apart h1 h2
  have hb1 := below_alloc (Below.refl W.heap.size W) (.cells #[.int .i64 x.lo, .int .i64 x.hi] 47)
  have h2' : RowS (W.alloc (.cells #[.int .i64 x.lo, .int .i64 x.hi] 47)) b (.slice A l.length c) l := own_move h2 (fun k hk => by
    obtain ⟨c', hc'⟩ := own_typed h2 k hk
    exact hb1.block k (blk_lt hc'))
  refine (replace_calls x h2' (Nat.le_trans hb hb1.size) hn hij hj (blk_new W _) (fun k hk => ?_)).mono ?_
  · obtain ⟨c', hc'⟩ := own_typed h2 k hk
    have := blk_lt hc'
    omega
  · rintro e w' ⟨v', rfl, hM⟩
    have hg : w'.heap[gs]? = some (.cells #[.slice A l.length c] 43 (0, 0)) := blk_kp (blk_below h1 hb1) hM.kp hne
    have hMr := hM.row
    obtain ⟨A2, c2, rfl, _, _, _⟩ := hMr.form
    refine ⟨A2, _, c2, _, rfl, hg, ?_, ?_⟩
    · have hfar := SetAt.apart hg hM.row
      refine ⟨_, ⟨⟨_, blk_put hg 0 _ rfl, own_move hM.row (fun k hk => ?_), rfl⟩, h.base⟩, ?_⟩
      · exact Below.heap_setCell w' ⟨gs, 0, none⟩ _ k (fun he => hfar (by rw [hk, he]))
      · rcases hM.own with hM | hM
        · exact .inl (hM.trans h3)
        · exact .inr (fun k hk => by have := hM k hk; have := hb1.size; omega)
    · refine (((Kp.of_below hb1 (fun k => k = gs ∨ R = some k)).then_ hM.kp (fun k hk => .inl (.inr (by rw [← h3]; exact hk)))).setCell (.inl (.inl rfl)) _)
set_option maxRecDepth 100000 in
set_option maxHeartbeats 8000000 in
theorem put_calls {b : Nat} {W : World} {gs : Nat} {R : Option Nat} {l : List Sp} (h : SetAt b W gs R l) (hb : b ≤ W.heap.size) (hw : WF l) (lo hi : Int) (h0 : 0 ≤ lo) (hlh : lo ≤ hi) (h9 : hi ≤ 1000000) :
    Calls Try.prog 27 #[.pointer (some ⟨gs, 0, none⟩), .int .i64 lo, .int .i64 hi] W fun e w' => e = .returned (.tuple #[]) ∧ Left b W gs R w' (putS l lo hi) := by
  have HS := Aside0.mk h
  have HW := Aside0.mk hw
  have HB : Aside0 (Below W.heap.size W W) := Aside0.mk (Below.refl _ _)
  have HH := Aside0.mk (And.intro h0 (And.intro hlh (And.intro h9 hb)))
  have HR := Aside0.mk h
  have hw1 : IntKind.i64.wrap (lo - 1) = lo - 1 := by rw [IntKind.wrap_i64]; omega
  have hw2 : IntKind.i64.wrap (hi + 1) = hi + 1 := by rw [IntKind.wrap_i64]; omega
  have hlen := len_le hw
  clear h hw h0 hlh h9 hb
  go_enter Try.func27, Try.ntmps27
  go_upto_region 1 with (first | (go_at_call 29; with_reducible refine (at_calls HS.out HW.out _).mono ?_; rintro e wn ⟨rfl, hk⟩; replace HS := Aside0.mk (HS.out.below hk); replace HB := Aside0.mk (below_step HB.out hk); clear hk))
  obtain ⟨A, c, hbox, hlc, hc9, hr⟩ := HS.out.form
  have HX := Aside0.mk (And.intro hbox hr)
  have c0 := cell1 hbox
  clear hbox hlc hc9 hr hw1
  have hu : upS l hi = match l[atS l (hi + 1)]? with | some x => if x.lo ≤ hi + 1 then atS l (hi + 1) + 1 else atS l (hi + 1) | none => atS l (hi + 1) := rfl
  generalize hk : atS l (hi + 1) = k0 at hu ⊢
  generalize hie : atS l (lo - 1) = i at ⊢
  clear hk
  cases hx : l[k0]? with
  | none =>
    have hup : upS l hi = k0 := by rw [hu, hx]
    have hk1 : (l.length : Int) ≤ (k0 : Int) := by have := List.getElem?_eq_none_iff.1 hx; omega
    clear hu hx
    have HU := Aside0.mk hup
    have hij : i ≤ k0 ∧ k0 ≤ l.length := by rw [← hup, ← hie]; exact ⟨atS_le_upS HW.out HH.out.2.1, upS_le l hi⟩
    have HIJ := Aside0.mk hij
    have HIE := Aside0.mk hie
    by_cases hlt : i < k0
    · obtain ⟨m, rfl⟩ : ∃ m, k0 = m + 1 := ⟨k0 - 1, by omega⟩
      have hll : m < l.length ∧ i < l.length := by omega
      obtain ⟨p, hp⟩ : ∃ p, l[i]? = some p := ⟨_, List.getElem?_eq_getElem hll.2⟩
      obtain ⟨q, hq⟩ : ∃ q, l[m]? = some q := ⟨_, List.getElem?_eq_getElem hll.1⟩
      have hnew : newSp l lo hi i (m + 1) = ⟨if p.lo < lo then p.lo else lo, if hi < q.hi then q.hi else hi⟩ := by unfold newSp; rw [if_pos hlt, Nat.add_sub_cancel, hp, hq]; simp only [Option.getD_some]; congr 1 <;> simp only [Int.min_def, Int.max_def] <;> split <;> split <;> omega
      obtain ⟨g1, hA1, c1, c2⟩ := HX.out.2 _ p hp
      obtain ⟨g2, hA2, c3, c4⟩ := HX.out.2 _ q hq
      rw [hA2] at hA1
      injection hA1 with hA1
      injection hA1 with hA1 _ _
      subst hA1
      subst hA2
      have HNW := Aside0.mk hnew
      have hi1 : (i : Int) < (l.length : Int) := by omega
      have hi2 : (m : Int) < (l.length : Int) := by omega
      have hi3 : (i : Int) < (m : Int) + 1 := by omega
      have hwm : IntKind.i64.wrap (m : Int) = (m : Int) := by rw [IntKind.wrap_i64]; omega
      have hm0 : (0 : Int) ≤ (m : Int) := by omega
      have hm1 : IntKind.i64.wrap ((m : Int) + 1) = (m : Int) + 1 := by rw [IntKind.wrap_i64]; omega
      clear hup hie hij hp hq hnew hll
      go_upto_region 4 with (fail)
      go_still (by kernel_rfl)
      change Exit.then _ _ _ _ wn.drew
      have HBd := Aside0.mk (below_drew HB.out)
      have HSd := Aside0.mk (HS.out.below (below_drew (Below.refl wn.heap.size wn)))
      have HXd := Aside0.mk (show wn.drew.heap[gs]? = some (.cells #[.slice (some ⟨g2, 0, none⟩) l.length c] 43 (0, 0)) from HX.out.1)
      clear c1 c2 c3 c4 c0 HX HS HB
      have c0 := cell1 HXd.out
      generalize wn.drew = wd at HBd HSd HXd c0 ⊢
      generalize (if p.lo < lo then p.lo else lo) = lo2 at HNW ⊢
      generalize (if hi < q.hi then q.hi else hi) = hi2 at HNW ⊢
      obtain ⟨A', c', hb', hC⟩ := replace_step ⟨lo2, hi2⟩ HSd.out (Nat.le_trans HH.out.2.2.2 HBd.out.size) (show l.length ≤ 2000000 by omega) (i := i) (j := m + 1) HIJ.out.1 HIJ.out.2
      obtain ⟨rfl, rfl⟩ : A' = some ⟨g2, 0, none⟩ ∧ c' = c := by
        have h2 := HXd.out
        rw [hb'] at h2
        injection h2 with h2
        injection h2 with h2 _ _
        injection h2 with h2
        injection h2 with h2 _
        injection h2 with h2 _ h3
        exact ⟨h2, h3⟩
      have HC := Aside0.mk hC
      clear hb' hC
      go_wp2_with (go_at_call 32; refine HC.out.mono ?_; rintro e w' ⟨A2, n2, c2, v0, rfl, hg, hL⟩; have cg := cell1 hg; have fg := blk_frozen hg 0; have HLt := Aside0.mk hL; clear hL)
      go_end0
      refine ⟨rfl, ?_⟩
      unfold putS
      rw [HIE.out, HU.out, HNW.out]
      exact HLt.out.of_below HBd.out
    · have hnew : newSp l lo hi i (k0) = ⟨lo, hi⟩ := by unfold newSp; rw [if_neg hlt]
      have HNW := Aside0.mk hnew
      have hi3 : ¬ ((i : Int) < ((k0 : Int))) := by omega
      clear hup hie hij hnew
      go_upto_region 5 with (fail)
      obtain ⟨A', c', hb', hC⟩ := replace_step ⟨lo, hi⟩ HS.out (Nat.le_trans HH.out.2.2.2 HB.out.size) (show l.length ≤ 2000000 by omega) (i := i) (j := k0) HIJ.out.1 HIJ.out.2
      obtain ⟨rfl, rfl⟩ : A' = A ∧ c' = c := by
        have h2 := HX.out.1
        rw [hb'] at h2
        injection h2 with h2
        injection h2 with h2 _ _
        injection h2 with h2
        injection h2 with h2 _
        injection h2 with h2 _ h3
        exact ⟨h2, h3⟩
      have HC := Aside0.mk hC
      clear hb' hC
      go_wp2_with (go_at_call 32; refine HC.out.mono ?_; rintro e w' ⟨A2, n2, c2, v0, rfl, hg, hL⟩; have cg := cell1 hg; have fg := blk_frozen hg 0; have HLt := Aside0.mk hL; clear hL)
      go_end0
      refine ⟨rfl, ?_⟩
      unfold putS
      rw [HIE.out, HU.out, HNW.out]
      exact HLt.out.of_below HB.out
  | some x =>
    have hk1 : (k0 : Int) < (l.length : Int) := by have := (List.getElem?_eq_some_iff.1 hx).1; omega
    obtain ⟨g, hA, d1, d2⟩ := HX.out.2 _ x hx
    have HXX := Aside0.mk hx
    subst hA
    by_cases hle : x.lo ≤ hi + 1
    · have hup : upS l hi = k0 + 1 := by rw [hu, hx]; exact if_pos hle
      clear hu hx
      go_upto_region 3 with (fail)
      clear d1 d2
      have HU := Aside0.mk hup
      have hij : i ≤ k0 + 1 ∧ k0 + 1 ≤ l.length := by rw [← hup, ← hie]; exact ⟨atS_le_upS HW.out HH.out.2.1, upS_le l hi⟩
      have HIJ := Aside0.mk hij
      have HIE := Aside0.mk hie
      by_cases hlt : i < k0 + 1
      · skip
        have hll : k0 < l.length ∧ i < l.length := by omega
        obtain ⟨p, hp⟩ : ∃ p, l[i]? = some p := ⟨_, List.getElem?_eq_getElem hll.2⟩
        obtain ⟨q, hq⟩ : ∃ q, l[k0]? = some q := ⟨_, List.getElem?_eq_getElem hll.1⟩
        have hnew : newSp l lo hi i (k0 + 1) = ⟨if p.lo < lo then p.lo else lo, if hi < q.hi then q.hi else hi⟩ := by unfold newSp; rw [if_pos hlt, Nat.add_sub_cancel, hp, hq]; simp only [Option.getD_some]; congr 1 <;> simp only [Int.min_def, Int.max_def] <;> split <;> split <;> omega
        obtain ⟨g1, hA1, c1, c2⟩ := HX.out.2 _ p hp
        obtain ⟨g2, hA2, c3, c4⟩ := HX.out.2 _ q hq
        injection hA1 with hA1
        injection hA1 with hA1 _ _
        subst hA1
        injection hA2 with hA2
        injection hA2 with hA2 _ _
        subst hA2
        have HNW := Aside0.mk hnew
        have hi1 : (i : Int) < (l.length : Int) := by omega
        have hi2 : (k0 : Int) < (l.length : Int) := by omega
        have hi3 : (i : Int) < (k0 : Int) + 1 := by omega
        have hwm : IntKind.i64.wrap (k0 : Int) = (k0 : Int) := by rw [IntKind.wrap_i64]; omega
        have hm0 : (0 : Int) ≤ (k0 : Int) := by omega
        have hm1 : IntKind.i64.wrap ((k0 : Int) + 1) = (k0 : Int) + 1 := by rw [IntKind.wrap_i64]; omega
        clear hup hie hij hp hq hnew hll
        go_upto_region 4 with (fail)
        go_still (by kernel_rfl)
        change Exit.then _ _ _ _ wn.drew
        have HBd := Aside0.mk (below_drew HB.out)
        have HSd := Aside0.mk (HS.out.below (below_drew (Below.refl wn.heap.size wn)))
        have HXd := Aside0.mk (show wn.drew.heap[gs]? = some (.cells #[.slice (some ⟨g, 0, none⟩) l.length c] 43 (0, 0)) from HX.out.1)
        clear c1 c2 c3 c4 c0 HX HS HB
        have c0 := cell1 HXd.out
        generalize wn.drew = wd at HBd HSd HXd c0 ⊢
        generalize (if p.lo < lo then p.lo else lo) = lo2 at HNW ⊢
        generalize (if hi < q.hi then q.hi else hi) = hi2 at HNW ⊢
        obtain ⟨A', c', hb', hC⟩ := replace_step ⟨lo2, hi2⟩ HSd.out (Nat.le_trans HH.out.2.2.2 HBd.out.size) (show l.length ≤ 2000000 by omega) (i := i) (j := k0 + 1) HIJ.out.1 HIJ.out.2
        obtain ⟨rfl, rfl⟩ : A' = some ⟨g, 0, none⟩ ∧ c' = c := by
          have h2 := HXd.out
          rw [hb'] at h2
          injection h2 with h2
          injection h2 with h2 _ _
          injection h2 with h2
          injection h2 with h2 _
          injection h2 with h2 _ h3
          exact ⟨h2, h3⟩
        have HC := Aside0.mk hC
        clear hb' hC
        go_wp2_with (go_at_call 32; refine HC.out.mono ?_; rintro e w' ⟨A2, n2, c2, v0, rfl, hg, hL⟩; have cg := cell1 hg; have fg := blk_frozen hg 0; have HLt := Aside0.mk hL; clear hL)
        go_end0
        refine ⟨rfl, ?_⟩
        unfold putS
        rw [HIE.out, HU.out, HNW.out]
        exact HLt.out.of_below HBd.out
      · have hnew : newSp l lo hi i (k0 + 1) = ⟨lo, hi⟩ := by unfold newSp; rw [if_neg hlt]
        have HNW := Aside0.mk hnew
        have hi3 : ¬ ((i : Int) < ((k0 : Int) + 1)) := by omega
        clear hup hie hij hnew
        go_upto_region 5 with (fail)
        obtain ⟨A', c', hb', hC⟩ := replace_step ⟨lo, hi⟩ HS.out (Nat.le_trans HH.out.2.2.2 HB.out.size) (show l.length ≤ 2000000 by omega) (i := i) (j := k0 + 1) HIJ.out.1 HIJ.out.2
        obtain ⟨rfl, rfl⟩ : A' = some ⟨g, 0, none⟩ ∧ c' = c := by
          have h2 := HX.out.1
          rw [hb'] at h2
          injection h2 with h2
          injection h2 with h2 _ _
          injection h2 with h2
          injection h2 with h2 _
          injection h2 with h2 _ h3
          exact ⟨h2, h3⟩
        have HC := Aside0.mk hC
        clear hb' hC
        go_wp2_with (go_at_call 32; refine HC.out.mono ?_; rintro e w' ⟨A2, n2, c2, v0, rfl, hg, hL⟩; have cg := cell1 hg; have fg := blk_frozen hg 0; have HLt := Aside0.mk hL; clear hL)
        go_end0
        refine ⟨rfl, ?_⟩
        unfold putS
        rw [HIE.out, HU.out, HNW.out]
        exact HLt.out.of_below HB.out
    · have hup : upS l hi = k0 := by rw [hu, hx]; exact if_neg hle
      clear hu hx
      go_upto_region 3 with (fail)
      clear d1 d2
      have HU := Aside0.mk hup
      have hij : i ≤ k0 ∧ k0 ≤ l.length := by rw [← hup, ← hie]; exact ⟨atS_le_upS HW.out HH.out.2.1, upS_le l hi⟩
      have HIJ := Aside0.mk hij
      have HIE := Aside0.mk hie
      by_cases hlt : i < k0
      · obtain ⟨m, rfl⟩ : ∃ m, k0 = m + 1 := ⟨k0 - 1, by omega⟩
        have hll : m < l.length ∧ i < l.length := by omega
        obtain ⟨p, hp⟩ : ∃ p, l[i]? = some p := ⟨_, List.getElem?_eq_getElem hll.2⟩
        obtain ⟨q, hq⟩ : ∃ q, l[m]? = some q := ⟨_, List.getElem?_eq_getElem hll.1⟩
        have hnew : newSp l lo hi i (m + 1) = ⟨if p.lo < lo then p.lo else lo, if hi < q.hi then q.hi else hi⟩ := by unfold newSp; rw [if_pos hlt, Nat.add_sub_cancel, hp, hq]; simp only [Option.getD_some]; congr 1 <;> simp only [Int.min_def, Int.max_def] <;> split <;> split <;> omega
        obtain ⟨g1, hA1, c1, c2⟩ := HX.out.2 _ p hp
        obtain ⟨g2, hA2, c3, c4⟩ := HX.out.2 _ q hq
        injection hA1 with hA1
        injection hA1 with hA1 _ _
        subst hA1
        injection hA2 with hA2
        injection hA2 with hA2 _ _
        subst hA2
        have HNW := Aside0.mk hnew
        have hi1 : (i : Int) < (l.length : Int) := by omega
        have hi2 : (m : Int) < (l.length : Int) := by omega
        have hi3 : (i : Int) < (m : Int) + 1 := by omega
        have hwm : IntKind.i64.wrap (m : Int) = (m : Int) := by rw [IntKind.wrap_i64]; omega
        have hm0 : (0 : Int) ≤ (m : Int) := by omega
        have hm1 : IntKind.i64.wrap ((m : Int) + 1) = (m : Int) + 1 := by rw [IntKind.wrap_i64]; omega
        clear hup hie hij hp hq hnew hll
        go_upto_region 4 with (fail)
        go_still (by kernel_rfl)
        change Exit.then _ _ _ _ wn.drew
        have HBd := Aside0.mk (below_drew HB.out)
        have HSd := Aside0.mk (HS.out.below (below_drew (Below.refl wn.heap.size wn)))
        have HXd := Aside0.mk (show wn.drew.heap[gs]? = some (.cells #[.slice (some ⟨g, 0, none⟩) l.length c] 43 (0, 0)) from HX.out.1)
        clear c1 c2 c3 c4 c0 HX HS HB
        have c0 := cell1 HXd.out
        generalize wn.drew = wd at HBd HSd HXd c0 ⊢
        generalize (if p.lo < lo then p.lo else lo) = lo2 at HNW ⊢
        generalize (if hi < q.hi then q.hi else hi) = hi2 at HNW ⊢
        obtain ⟨A', c', hb', hC⟩ := replace_step ⟨lo2, hi2⟩ HSd.out (Nat.le_trans HH.out.2.2.2 HBd.out.size) (show l.length ≤ 2000000 by omega) (i := i) (j := m + 1) HIJ.out.1 HIJ.out.2
        obtain ⟨rfl, rfl⟩ : A' = some ⟨g, 0, none⟩ ∧ c' = c := by
          have h2 := HXd.out
          rw [hb'] at h2
          injection h2 with h2
          injection h2 with h2 _ _
          injection h2 with h2
          injection h2 with h2 _
          injection h2 with h2 _ h3
          exact ⟨h2, h3⟩
        have HC := Aside0.mk hC
        clear hb' hC
        go_wp2_with (go_at_call 32; refine HC.out.mono ?_; rintro e w' ⟨A2, n2, c2, v0, rfl, hg, hL⟩; have cg := cell1 hg; have fg := blk_frozen hg 0; have HLt := Aside0.mk hL; clear hL)
        go_end0
        refine ⟨rfl, ?_⟩
        unfold putS
        rw [HIE.out, HU.out, HNW.out]
        exact HLt.out.of_below HBd.out
      · have hnew : newSp l lo hi i (k0) = ⟨lo, hi⟩ := by unfold newSp; rw [if_neg hlt]
        have HNW := Aside0.mk hnew
        have hi3 : ¬ ((i : Int) < ((k0 : Int))) := by omega
        clear hup hie hij hnew
        go_upto_region 5 with (fail)
        obtain ⟨A', c', hb', hC⟩ := replace_step ⟨lo, hi⟩ HS.out (Nat.le_trans HH.out.2.2.2 HB.out.size) (show l.length ≤ 2000000 by omega) (i := i) (j := k0) HIJ.out.1 HIJ.out.2
        obtain ⟨rfl, rfl⟩ : A' = some ⟨g, 0, none⟩ ∧ c' = c := by
          have h2 := HX.out.1
          rw [hb'] at h2
          injection h2 with h2
          injection h2 with h2 _ _
          injection h2 with h2
          injection h2 with h2 _
          injection h2 with h2 _ h3
          exact ⟨h2, h3⟩
        have HC := Aside0.mk hC
        clear hb' hC
        go_wp2_with (go_at_call 32; refine HC.out.mono ?_; rintro e w' ⟨A2, n2, c2, v0, rfl, hg, hL⟩; have cg := cell1 hg; have fg := blk_frozen hg 0; have HLt := Aside0.mk hL; clear hL)
        go_end0
        refine ⟨rfl, ?_⟩
        unfold putS
        rw [HIE.out, HU.out, HNW.out]
        exact HLt.out.of_below HB.out
end Go.Proofs.Ytmcecmcnbhhniaa.G
