/- slices.Replace of spans by one; slices.Clone. Each contract names its state. -/
import Derived.Test.YtmcecmcnbhhniaaNb
set_option linter.unusedVariables false
set_option linter.unusedSimpArgs false
namespace Go.Proofs.Ytmcecmcnbhhniaa.G
open Go.RowKit Go.Proofs.Ytmcecmcnbhhniaa.B Go.Proofs.YtmcecmcnbhhniaaW.PrintWords Go.Proofs.YtmcecmcnbhhniaaW.PrintLast Go.Proofs.YtmcecmcnbhhniaaW.PrintMore

theorem append_room_step {ops : Array Oper} {rest : List Oper} {o : Oper} {a : Act} {Q : Exit → Act → World → Prop} {w : World} (base : Nat) (hgd : o.guard = none) (s x : Operand)
    (ho : o.op = .call { callee := .builtin .append, args := #[s, x], argTypes := #[41, 41] })
    (g n k cap : Nat) (l m : List Sp) (hn : l.length = n) (hk : n + m.length = k) (hs : a.eval s = .slice (some ⟨g, 0, none⟩) n cap) (HO : RowS w base (.slice (some ⟨g, 0, none⟩) n cap) l) (gb : Nat) (fr : Nat × Nat) (c : Nat) (hx : a.eval x = .slice (some ⟨gb, 0, none⟩) m.length c)
    (hb : w.heap[gb]? = some (.cells (encP m).toArray 47 fr)) (hroom : k ≤ cap)
    (h : ∀ w1, RowS w1 base (.slice (some ⟨g, 0, none⟩) k cap) (l ++ m) → w.grownBy w1 (some g) → wpList Try.prog ops Q rest (a.put o.dst (.slice (some ⟨g, 0, none⟩) k cap)) w1) :
    wpList Try.prog ops Q (o :: rest) a w := by
  subst hk
  subst hn
  have hinfo : (Try.prog.info? 47).map (·.size) = some 2 := by kernel_rfl
  obtain ⟨i0, hi, hz1⟩ := Option.map_eq_some_iff.1 hinfo
  obtain ⟨w', hrun, h1, h2⟩ := run_append_fits (P := Try.prog) (w := w) base 41 o.type 47 i0 2 Try.underlying41 hi hz1 g l.length cap (encP l) HO ⟨gb, 0, none⟩ m.length c (encP m) (encP_length m)
    (by simpa using World.news_of_block (cs := (encP m).toArray) (t := 47) (fr := fr) hb) (encP_one m) hroom
  refine wpList_plain hgd fun K hK => ?_
  unfold Oper.wp execOp
  simp only [ho, resolve, invoke, builtin, Sem.run_bind, Sem.run_pure, Result.andThen_ok, List.map_toArray, List.map_cons, List.map_nil, hs, hx, hrun]
  refine hK _ _ (h w' ?_ h2)
  unfold RowS
  rw [List.length_append, encP_append]
  exact h1
/-- The first spans of a row are a row. -/
theorem RowS.take {W : World} {b g n cap : Nat} {l : List Sp} (h : RowS W b (.slice (some ⟨g, 0, none⟩) n cap) l) (i : Nat) (hi : i ≤ l.length) : RowS W b (.slice (some ⟨g, 0, none⟩) i cap) (l.take i) := by
  obtain ⟨g', cap', L, he, hg, hb, hc, hm, hL, ht⟩ := h.cells (by simp)
  injection he with he1 he2 he3
  injection he1 with he1
  injection he1 with he1 _ _
  subst he1 he3
  have hlen : (l.take i).length = i := by rw [List.length_take]; omega
  have := rowOf (l := l.take i) hg hb (by omega) hm hL (by rw [hlen, ← encP_take, ← ht, List.take_take, Nat.min_eq_left (by omega)])
  rwa [hlen] at this
/-- What Replace leaves in place. -/
theorem over_cells {L : List Value} {l : List Sp} {x : Sp} {i j n cap : Nat} (hL : L.length = cap * 2) (ht : L.take (n * 2) = encP l) (hn : l.length = n) (hij : i < j) (hj : j ≤ n) (hc : n ≤ cap) :
    ((wr L (i * 2) (spc x)).drop (j * 2)).take ((n - j) * 2) = encP (l.drop j) ∧
    (wr (wr L (i * 2) (spc x)) ((i + 1) * 2) (((wr L (i * 2) (spc x)).drop (j * 2)).take ((n - j) * 2))).take ((i + 1 + (n - j)) * 2) = encP (l.take i ++ x :: l.drop j) := by
  have ht2 : L.take (i * 2) = encP (l.take i) := by rw [← encP_take, ← ht, List.take_take, Nat.min_eq_left (by omega)]
  have hs2 : (spc x).length = 2 := rfl
  have hel2 : (encP (l.take i)).length = i * 2 := by rw [encP_length, List.length_take, hn, Nat.min_eq_left (by omega)]
  have hel : (encP (l.drop j)).length = (n - j) * 2 := by rw [encP_length, List.length_drop, hn]
  have hw : wr L (i * 2) (spc x) = encP (l.take i) ++ spc x ++ L.drop ((i + 1) * 2) := by unfold wr; rw [ht2, hs2, show i * 2 + 2 = (i + 1) * 2 by omega]
  have hpl : (encP (l.take i) ++ spc x).length = (i + 1) * 2 := by simp only [List.length_append, hel2, hs2]; omega
  have hd : (wr L (i * 2) (spc x)).drop (j * 2) = L.drop (j * 2) := by
    rw [hw, show j * 2 = (encP (l.take i) ++ spc x).length + (j * 2 - (i + 1) * 2) by rw [hpl]; omega, List.drop_length_add_append, List.drop_drop]
    congr 1
    rw [hpl]
  have hd2 : ((wr L (i * 2) (spc x)).drop (j * 2)).take ((n - j) * 2) = encP (l.drop j) := by
    rw [hd, ← encP_drop, ← ht, List.drop_take, show n * 2 - j * 2 = (n - j) * 2 by omega]
  refine ⟨hd2, ?_⟩
  rw [hd2, hw]
  generalize L.drop ((i + 1) * 2) = D
  unfold wr
  have h1 : (encP (l.take i) ++ spc x ++ D).take ((i + 1) * 2) = encP (l.take i) ++ spc x := List.take_left' hpl
  rw [h1, encP_append, encP_cons, ← List.append_assoc (encP (l.take i)), List.take_left']
  rw [List.length_append, hpl, hel]
  omega
set_option maxRecDepth 100000 in
set_option maxHeartbeats 8000000 in
theorem replace_end {W : World} {b g gv n cap i : Nat} {l : List Sp} (x : Sp) (hr : RowS W b (.slice (some ⟨g, 0, none⟩) n cap) l) (hn : l.length = n) (hi : i < n) (hbig : n ≤ 2000000)
    (hv : W.heap[gv]? = some (.cells #[.int .i64 x.lo, .int .i64 x.hi] 47 (0, 0))) :
    Calls Try.prog 32 #[.slice (some ⟨g, 0, none⟩) n cap, .int .i64 i, .int .i64 n, .slice (some ⟨gv, 0, none⟩) 1 1] W fun e w' => ∃ v', e = .returned v' ∧ Moved W b (.slice (some ⟨g, 0, none⟩) n cap) w' v' (l.take i ++ [x]) := by
  obtain ⟨g', cap', L, he, hg, hb, hc, hm, hL, ht⟩ := hr.cells (by simp)
  injection he with he1 he2 he3
  injection he1 with he1
  injection he1 with he1 _ _
  subst he1 he3
  rw [hn] at hc
  have HV : Aside0 (W.heap[gv]? = some (.cells (encP [x]).toArray 47 (0, 0))) := Aside0.mk hv
  have HT := Aside0.mk (hr.take i (by omega))
  have hlt : (l.take i).length = i := by rw [List.length_take]; omega
  have HN := Aside0.mk (And.intro hlt hm)
  have hne : ((i : Int) == (n : Int)) = false := by rw [beq_eq_false_iff_ne]; omega
  have hcm : cap ≤ 9223372036854775807 := by unfold maxLen at hm; exact hm
  have hi1 : (i : Int) ≤ (n : Int) := by omega
  have hi2 : i ≤ cap := by omega
  clear hr hg hb hL ht hv hm hn he2 hlt
  go_enter Try.func32, Try.ntmps32
  go_upto_region 6 with (at_builtin; refine append_room_step b rfl _ _ rfl g i (i + 1) cap (l.take i) [x] HN.out.1 rfl rfl HT.out gv (0, 0) 1 rfl HV.out (by omega) ?_; intro w1 h1 h2; have H1 := Aside0.mk (And.intro h1 h2); clear h1 h2)
  have hl1 : (l.take i ++ [x]).length = i + 1 := by rw [List.length_append, HN.out.1]; rfl
  have HX := Aside0.mk hl1
  by_cases hlt : (i : Int) + 1 < (n : Int)
  · have hb5 : ¬ (cap = i + 1) := by omega
    have hb6 : i + 1 ≤ n := by omega
    obtain ⟨g', cap', L1, he, hg1, hb, hc1, hm, hL, ht⟩ := H1.out.1.cells (by simp)
    injection he with he1 he2 he3
    injection he1 with he1
    injection he1 with he1 _ _
    subst he1 he3
    have HG := Aside0.mk (And.intro hg1 (And.intro hb (And.intro hm (And.intro hL ht))))
    clear hg1 hb hc1 hm hL ht he2 hl1
    go_wp2_with (refine clear_step rfl _ 41 47 (.agg #[.int .i64 0, .int .i64 0]) rfl Try.underlying41 (by kernel_rfl) (by kernel_rfl) (by intro v hv; simp [Value.cells] at hv; rcases hv with rfl | rfl <;> rfl) _ _ _ g (i + 1) L1 rfl (fun _ => rfl) HG.out.1 (by have := HG.out.2.2.2.1; omega) ?_; intro w2 L2 c1 c2 c3 c4; have HC := Aside0.mk (And.intro c1 (And.intro c2 (And.intro c3 c4))); clear c1 c2 c3 c4)
    go_ret
    obtain ⟨c1, c2, c3, c4⟩ := HC.out
    obtain ⟨d1, d2, d3, d4, d5⟩ := HG.out
    have hk1 := Kp.of_grown H1.out.2
    refine ⟨_, rfl, ?_, (hk1.then_ c4 (fun k hk => .inl (by rw [hk]))).mono (fun k hk => hk), .inl rfl⟩
    have := rowOf (b := b) (l := l.take i ++ [x]) c1 d2 (by rw [HX.out]; omega) d3 (by rw [c2, d4]) (by rw [HX.out, c3, ← HX.out]; exact d5)
    rwa [HX.out] at this
  · clear hl1
    go_wp2_with fail
    go_ret
    refine ⟨_, rfl, H1.out.1, Kp.of_grown H1.out.2, .inl rfl⟩
set_option maxRecDepth 100000 in
set_option maxHeartbeats 8000000 in
theorem replace_mid {W : World} {b g gv n cap i j : Nat} {l : List Sp} (x : Sp) (hr : RowS W b (.slice (some ⟨g, 0, none⟩) n cap) l) (hn : l.length = n) (hij : i < j) (hj : j < n) (hbig : n ≤ 2000000)
    (hv : W.heap[gv]? = some (.cells #[.int .i64 x.lo, .int .i64 x.hi] 47 (0, 0))) (hnv : gv ≠ g) :
    Calls Try.prog 32 #[.slice (some ⟨g, 0, none⟩) n cap, .int .i64 i, .int .i64 j, .slice (some ⟨gv, 0, none⟩) 1 1] W fun e w' => ∃ v', e = .returned v' ∧ Moved W b (.slice (some ⟨g, 0, none⟩) n cap) w' v' (l.take i ++ x :: l.drop j) := by
  obtain ⟨g', cap', L, he, hg, hb, hc, hm, hL, ht⟩ := hr.cells (by simp)
  injection he with he1 he2 he3
  injection he1 with he1
  injection he1 with he1 _ _
  subst he1 he3
  rw [hn] at hc ht
  have HV := Aside0.mk (And.intro hv hnv)
  have HG := Aside0.mk (And.intro hg (And.intro hb (And.intro hm (And.intro hL (And.intro ht hn)))))
  have hne : ((i : Int) == (j : Int)) = false := by rw [beq_eq_false_iff_ne]; omega
  have hne2 : ((j : Int) == (n : Int)) = false := by rw [beq_eq_false_iff_ne]; omega
  have hcm : cap ≤ 9223372036854775807 := by unfold maxLen at hm; exact hm
  have hi1 : (i : Int) ≤ (j : Int) := by omega
  have hi2 : i ≤ cap := by omega
  have hi3 : i ≤ j := by omega
  have hi4 : j ≤ cap := by omega
  have hi5 : j ≤ n := by omega
  have hb1 : ¬ (cap = i) := by omega
  have hb2 : ¬ (cap = j) := by omega
  have hb3 : ¬ (cap = i + 1) := by omega
  have ht1 : IntKind.i64.wrap ((i : Int) + 1) = (i : Int) + 1 := by rw [IntKind.wrap_i64]; omega
  have htn : ((i : Int) + 1).toNat = i + 1 := by omega
  obtain ⟨tot, htot⟩ : ∃ tot, tot = i + 1 + (n - j) := ⟨_, rfl⟩
  have ht2 : IntKind.i64.wrap ((i : Int) + 1 + ((n - j : Nat) : Int)) = (tot : Int) := by rw [IntKind.wrap_i64]; omega
  have hc1 : (tot : Int) ≤ (cap : Int) := by omega
  have hc2 : tot ≤ cap := by omega
  have hc3 : tot ≤ n := by omega
  have hc4 : (i : Int) + 1 ≤ (j : Int) := by omega
  have hc5 : (i : Int) ≤ (tot : Int) := by omega
  have hc6 : (i : Int) + 1 ≤ (tot : Int) := by omega
  have hc7 : i ≤ tot := by omega
  have hc8 : i + 1 ≤ tot := by omega
  have hc9 : (0 : Int) ≤ (i : Int) + 1 := by omega
  have HT := Aside0.mk htot
  clear hr hg hb hL ht hv hm hn hnv he2 htot
  go_enter Try.func32, Try.ntmps32
  go_upto_region 9 with (fail)
  go_still (by kernel_rfl)
  change Exit.then _ _ _ _ W.drew
  have HGd : Aside0 (W.drew.heap[g]? = some (.cells L.toArray 47 (0, 0))) := Aside0.mk HG.out.1
  have HVd : Aside0 (W.drew.heap[gv]? = some (.cells [.int .i64 x.lo, .int .i64 x.hi].toArray 47 (0, 0))) := Aside0.mk HV.out.1
  have HKd : Aside0 (Kp W W.drew (· = g)) := Aside0.mk ((Kp.refl W _).drew)
  generalize W.drew = wd at HGd HVd HKd ⊢
  go_upto_region 18 with (refine copy_step rfl _ _ 41 47 rfl Try.underlying41 (by kernel_rfl) _ _ 1 _ _ _ _ g i gv 0 L [.int .i64 x.lo, .int .i64 x.hi] rfl rfl (by simp only [Nat.min_def]; split <;> omega) (fun _ => rfl) (fun _ => rfl) HGd.out HVd.out (by have := HG.out.2.2.2.1; omega) (by simp) (by intro v hv; simp at hv; rcases hv with rfl | rfl <;> rfl) ?_; intro w2 hw2 hk2; have HW2 := Aside0.mk (And.intro hw2 hk2); clear hw2 hk2)
  go_still_tail 9, (by kernel_rfl)
  obtain ⟨hw2, hk2⟩ := HW2.out
  obtain ⟨_, hb, hm, hL, ht, hn⟩ := HG.out
  have hto := HT.out
  have hl2 : (wr L (i * 2) (([.int .i64 x.lo, .int .i64 x.hi].drop (0 * 2)).take (1 * 2))).length = L.length := wr_length (by simp; omega)
  obtain ⟨e1, e2⟩ := over_cells (x := x) hL ht hn (show i < j by omega) hi5 (show n ≤ cap by omega)
  have hone : ∀ v ∈ ((wr L (i * 2) (([.int .i64 x.lo, .int .i64 x.hi].drop (0 * 2)).take (1 * 2))).drop (j * 2)).take ((n - j) * 2), v.oneCell' = true := by
    intro v hv
    change v ∈ ((wr L (i * 2) (spc x)).drop (j * 2)).take ((n - j) * 2) at hv
    rw [e1] at hv
    exact encP_one _ v hv
  refine copy_step rfl _ _ 41 47 rfl Try.underlying41 (by kernel_rfl) _ _ (n - j) _ _ _ _ g (i + 1) g j _ _ rfl rfl (by simp only [Nat.min_def]; split <;> omega) (fun _ => rfl) (fun _ => rfl) hw2 hw2 (by rw [hl2]; omega) (by rw [hl2]; omega) hone ?_
  intro w3 hw3 hk3
  have hk4 : Kp w2 w3 (· = g) := ⟨hk3.os, hk3.tape, hk3.output, hk3.size, hk3.block⟩
  have hk5 : Kp W w3 (· = g) := (HKd.out.then_ hk2 (fun k hk => .inl hk)).then_ hk4 (fun k hk => .inl hk)
  change w3.heap[g]? = some (.cells (wr (wr L (i * 2) (spc x)) ((i + 1) * 2) (((wr L (i * 2) (spc x)).drop (j * 2)).take ((n - j) * 2))).toArray 47 (0, 0)) at hw3
  have hl3 : (wr (wr L (i * 2) (spc x)) ((i + 1) * 2) (((wr L (i * 2) (spc x)).drop (j * 2)).take ((n - j) * 2))).length = L.length := by
    refine (wr_length ?_).trans hl2
    rw [e1, encP_length, List.length_drop, hn]
    refine Nat.le_trans ?_ (Nat.le_of_eq hl2.symm)
    omega
  rw [← hto] at e2
  generalize wr (wr L (i * 2) (spc x)) ((i + 1) * 2) (((wr L (i * 2) (spc x)).drop (j * 2)).take ((n - j) * 2)) = L3 at hw3 hl3 e2
  have hlen : (l.take i ++ x :: l.drop j).length = tot := by simp only [List.length_append, List.length_take, List.length_cons, List.length_drop, hn]; omega
  have HF := Aside0.mk (And.intro hw3 (And.intro hk5 (And.intro (hl3.trans hL) (And.intro e2 (And.intro hlen (And.intro hb hm))))))
  clear hw2 hk2 hb hm hL ht hn hto hl2 e1 e2 hone hw3 hk3 hk4 hk5 hl3 hlen HW2 HGd HVd HKd HG HV
  have hnt : (tot : Int) ≤ (n : Int) := by omega
  go_wp2_with (refine clear_step rfl _ 41 47 (.agg #[.int .i64 0, .int .i64 0]) rfl Try.underlying41 (by kernel_rfl) (by kernel_rfl) (by intro v hv; simp [Value.cells] at hv; rcases hv with rfl | rfl <;> rfl) _ _ _ g tot L3 rfl (fun h => by first | rfl | (rw [if_neg (by omega)]) | (simp only [ite_eq_right_iff]; omega)) HF.out.1 (by have := HF.out.2.2.1; omega) ?_; intro w4 L4 c1 c2 c3 c4; have HC := Aside0.mk (And.intro c1 (And.intro c2 (And.intro c3 c4))); clear c1 c2 c3 c4)
  all_goals
    go_ret
    obtain ⟨c1, c2, c3, c4⟩ := HC.out
    obtain ⟨f1, f2, f3, f4, f5, f6, f7⟩ := HF.out
    refine ⟨_, rfl, ?_, (f2.then_ c4 (fun k hk => .inl hk)).mono (fun k hk => by rw [hk]; rfl), .inl rfl⟩
    have := rowOf (b := b) (l := l.take i ++ x :: l.drop j) c1 f6 (by rw [f5]; omega) f7 (by rw [c2, f3]) (by rw [f5, c3]; exact f4)
    rw [f5] at this
    first | exact this | (rw [h] at this; exact this)
set_option maxRecDepth 100000 in
set_option maxHeartbeats 8000000 in
/-- Replace of some spans by one. -/
theorem replace_calls {W : World} {b gv i j : Nat} {v : Value} {l : List Sp} (x : Sp) (hr : RowS W b v l) (hb : b ≤ W.heap.size) (hn : l.length ≤ 2000000) (hij : i ≤ j) (hj : j ≤ l.length)
    (hv : W.heap[gv]? = some (.cells #[.int .i64 x.lo, .int .i64 x.hi] 47 (0, 0))) (hne : ∀ k, v.ownBlock = some k → gv ≠ k) :
    Calls Try.prog 32 #[v, .int .i64 i, .int .i64 j, .slice (some ⟨gv, 0, none⟩) 1 1] W fun e w' => ∃ v', e = .returned v' ∧ Moved W b v w' v' (l.take i ++ x :: l.drop j) := by
  rcases Nat.lt_or_eq_of_le hij with hlt | rfl
  · have h0 : v ≠ .slice none 0 0 := by
      rintro rfl
      rcases hr.2 with ⟨_, h1⟩ | ⟨g, cap, cur, h1, _⟩
      · omega
      · injection h1 with h1; cases h1
    obtain ⟨g, cap, L, rfl, hg, hbg, hc, hm, hL, ht⟩ := hr.cells h0
    rcases Nat.lt_or_eq_of_le hj with hj | rfl
    · exact replace_mid x hr rfl hlt hj hn hv (hne g rfl)
    · rw [List.drop_length]
      exact replace_end x hr rfl hlt hn hv
  · have HI := Aside0.mk (insert_calls x hr hb hn hj hv hne)
    rcases hr.form with ⟨A, c, rfl, hc, hcm, _⟩
    have hi1 : i ≤ c := by omega
    clear hr hb hn hv hne
    go_enter Try.func32, Try.ntmps32
    go_wp2_with (go_at_call 35; refine HI.out.mono ?_; rintro e w' ⟨v', rfl, hM⟩; have HM := Aside0.mk hM; clear hM)
    all_goals
      go_ret
      first | exact ⟨v', rfl, HM.out⟩ | (have hM := HM.out; rw [h] at hM; exact ⟨v', rfl, hM⟩)
end Go.Proofs.Ytmcecmcnbhhniaa.G
