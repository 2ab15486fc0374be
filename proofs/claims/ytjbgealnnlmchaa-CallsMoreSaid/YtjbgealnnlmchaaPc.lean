/- The walk in depth tells the groups: a step, a round's end, the whole. Plain Lean. -/
import Derived.Test.YtjbgealnnlmchaaPb
set_option linter.unusedVariables false
namespace Go.Proofs.Ytjbgealnnlmchaa.G

theorem lowTo_N (v x : Nat) (s : TS) (y : Nat) : (lowTo v x s).N y = s.N y := rfl
theorem lowTo_L {n : Nat} {v x : Nat} {s : TS} (h : Wf n s) (hv : v < n) (y : Nat) : (lowTo v x s).L y = if v = y then min (s.L v) x else s.L y := getD_set _ _ _ _ _ (by rw [h.low]; exact hv)
theorem Inv.lowTo {E : Nat → Nat → Prop} {n : Nat} {s : TS} {gray : List Nat} (h : Inv E n s gray) (v x : Nat) : Inv E n (lowTo v x s) gray :=
  ⟨h.wf.lowTo, h.cnt, h.le, h.inj, h.stk, h.opn, h.seen, h.gr, h.blk, h.dn, h.ord, h.up, h.outs⟩
section
variable {E : Nat → Nat → Prop} {n : Nat} {s s' s0 : TS} {gray : List Nat} {v : Nat} {p : Nat → Prop}
theorem LI.mem (h : LI E n s0 s v gray p) : v ∈ s.stack := by
  obtain ⟨t, ht, _⟩ := h.stk
  rw [ht]
  exact List.mem_append_right _ List.mem_cons_self
/-- What stands on the stack ahead of v is older, behind v younger. -/
theorem LI.ages (h : LI E n s0 s v gray p) : ∃ t, s.stack = s0.stack ++ v :: t ∧ (∀ x ∈ t, s0.N x = 0) ∧ (∀ x ∈ s0.stack, s.N x < s.N v) ∧ (∀ x ∈ t, s.N v < s.N x) := by
  obtain ⟨t, ht, h0⟩ := h.stk
  have hp := h.inv.stk
  rw [ht, List.pairwise_append, List.pairwise_cons] at hp
  exact ⟨t, ht, h0, fun x hx => hp.2.2 x hx v List.mem_cons_self, fun x hx => hp.2.1.1 x hx⟩
theorem LI.visit (h0 : Inv E n s0 gray) (hv0 : s0.N v = 0) (h : LI E n s0 s v gray p) {w : Nat} (he : E v w) (hw : s.N w = 0) {s1 : TS} (h1 : Inv E n s1 (gray ++ [v])) (k : Post E s s1 w) :
    LI E n s0 (lowTo v (s1.L w) s1) v gray (fun u => p u ∨ u = w) := by
  have hvn : v < n := N_lt h.inv.wf (by rw [h.nv]; omega)
  have hsv : s.N v ≠ 0 := by rw [h.nv]; omega
  have h1v := k.keep v hsv
  have hLv : (lowTo v (s1.L w) s1).L v = min (s.L v) (s1.L w) := by rw [lowTo_L h1.wf hvn, if_pos rfl, h1v.2]
  obtain ⟨t, ht, ht0, hold, hyoung⟩ := h.ages
  have hkeep0 : ∀ x, s0.N x ≠ 0 → s1.N x = s0.N x := fun x hx => by
    have e := (h.keep x hx).1
    rw [(k.keep x (by rw [e]; exact hx)).1, e]
  have hlow := h.low
  refine ⟨h1.lowTo _ _, fun x hx => ?_, ?_, fun x hx hx' => ?_, ?_, ?_, ?_, ?_, ?_, ?_⟩
  · have e := h.keep x hx
    have e1 := k.keep x (by rw [e.1]; exact hx)
    have hxv : ¬ v = x := fun hh => hx (hh ▸ hv0)
    rw [lowTo_L h1.wf hvn, if_neg hxv]
    exact ⟨e1.1.trans e.1, e1.2.trans e.2⟩
  · show s1.N v = _
    rw [h1v.1, h.nv]
  · have hx1 : s1.N x ≠ 0 := hx'
    show s0.last < s1.N x
    by_cases hs : s.N x = 0
    · have := k.new x hs hx1
      have := h.last
      omega
    · rw [(k.keep x hs).1]
      exact h.new x hx hs
  · have := k.last
    have := h.last
    show s0.last < s1.last
    omega
  · obtain ⟨t', ht', ht0'⟩ := k.stk
    refine ⟨t ++ t', ?_, fun x hx => ?_⟩
    · show s1.stack = _
      rw [ht', ht, List.append_assoc]
      rfl
    · rcases List.mem_append.1 hx with hx | hx
      · exact ht0 x hx
      · by_cases hz : s0.N x = 0
        · exact hz
        · exact absurd (ht0' x hx) (by rw [(h.keep x hz).1]; exact hz)
  · show (lowTo v (s1.L w) s1).L v ≤ s1.N v
    rw [hLv, h1v.1]
    omega
  · show _ ∨ (lowTo v (s1.L w) s1).L v = s1.N v
    rw [hLv, h1v.1]
    by_cases hle : s.L v ≤ s1.L w
    · rw [Nat.min_eq_left hle]
      exact h.lowz
    · rw [Nat.min_eq_right (by omega)]
      left
      rcases k.lowz with ⟨z, hz, hzn, hr⟩ | hz
      · rw [ht] at hz
        rcases List.mem_append.1 hz with hz | hz
        · refine ⟨z, hz, ?_, Rch.head he hr⟩
          rw [← (h.keep z (h0.seen z hz)).1]
          exact hzn
        · rcases List.mem_cons.1 hz with rfl | hz
          · omega
          · have := hyoung z hz
            omega
      · have := k.new w hw k.here
        have := h.inv.le v
        omega
  · intro x hx hx0 hxv y hxy hy
    have hx1 : x ∈ s1.stack := hx
    rw [hLv]
    by_cases hs : x ∈ s.stack
    · have := h.edge x hs hx0 hxv y hxy hy
      omega
    · have := k.edge x hx1 hs y hxy (by rw [ht]; exact List.mem_append_left _ hy)
      rw [(h.keep y (h0.seen y hy)).1] at this
      omega
  · rintro u (hu | rfl)
    · obtain ⟨h2, h3⟩ := h.proc u hu
      refine ⟨by show s1.N u ≠ 0; rw [(k.keep u h2).1]; exact h2, fun hm => ?_⟩
      rw [hLv]
      have := h3 hm
      omega
    · refine ⟨k.here, fun hm => ?_⟩
      have := h0.seen u hm
      exact absurd hw (by rw [(h.keep u this).1]; exact this)
theorem LI.meet (h0 : Inv E n s0 gray) (hv0 : s0.N v = 0) (h : LI E n s0 s v gray p) {w : Nat} (he : E v w) (hw : s.N w ≠ 0) (ho : w ∈ s.stack) :
    LI E n s0 (Go.Proofs.Ytjbgealnnlmchaa.G.lowTo v (s.N w) s) v gray (fun u => p u ∨ u = w) := by
  have hvn : v < n := N_lt h.inv.wf (by rw [h.nv]; omega)
  have hLv : (Go.Proofs.Ytjbgealnnlmchaa.G.lowTo v (s.N w) s).L v = min (s.L v) (s.N w) := by rw [lowTo_L h.inv.wf hvn, if_pos rfl]
  obtain ⟨t, ht, ht0, hold, hyoung⟩ := h.ages
  have hlow := h.low
  refine ⟨h.inv.lowTo _ _, fun x hx => ?_, h.nv, h.new, h.last, ⟨t, ht, ht0⟩, ?_, ?_, ?_, ?_⟩
  · have e := h.keep x hx
    have hxv : ¬ v = x := fun hh => hx (hh ▸ hv0)
    rw [lowTo_L h.inv.wf hvn, if_neg hxv]
    exact e
  · rw [hLv]
    show _ ≤ s.N v
    omega
  · show _ ∨ (Go.Proofs.Ytjbgealnnlmchaa.G.lowTo v (s.N w) s).L v = s.N v
    rw [hLv]
    by_cases hle : s.L v ≤ s.N w
    · rw [Nat.min_eq_left hle]
      exact h.lowz
    · rw [Nat.min_eq_right (by omega)]
      left
      rw [ht] at ho
      rcases List.mem_append.1 ho with hz | hz
      · exact ⟨w, hz, (h.keep w (h0.seen w hz)).1.symm, Rch.one he⟩
      · rcases List.mem_cons.1 hz with rfl | hz
        · omega
        · have := hyoung w hz
          omega
  · intro x hx hx0 hxv y hxy hy
    rw [hLv]
    have := h.edge x hx hx0 hxv y hxy hy
    omega
  · rintro u (hu | rfl)
    · obtain ⟨h2, h3⟩ := h.proc u hu
      refine ⟨h2, fun hm => ?_⟩
      rw [hLv]
      have := h3 hm
      omega
    · refine ⟨hw, fun hm => ?_⟩
      rw [hLv, (h.keep u (h0.seen u hm)).1]
      omega
theorem LI.pass (h : LI E n s0 s v gray p) {w : Nat} (hw : s.N w ≠ 0) (ho : w ∉ s.stack) : LI E n s0 s v gray (fun u => p u ∨ u = w) :=
  ⟨h.inv, h.keep, h.nv, h.new, h.last, h.stk, h.low, h.lowz, h.edge, fun u hu => by
    rcases hu with hu | rfl
    · exact h.proc u hu
    · refine ⟨hw, fun hm => absurd ?_ ho⟩
      obtain ⟨t, ht, _⟩ := h.stk
      rw [ht]
      exact List.mem_append_left _ hm⟩
theorem idxOf_mid : ∀ (l : List Nat) (v : Nat) (t : List Nat), v ∉ l → (l ++ v :: t).idxOf v = l.length
  | [], v, t, _ => by simp
  | x :: l, v, t, h => by
    have hx : ¬ x = v := fun e => h (by rw [e]; exact List.mem_cons_self)
    have := idxOf_mid l v t (fun hm => h (List.mem_cons_of_mem _ hm))
    rw [List.cons_append, List.idxOf_cons, this, List.length_cons, show (x == v) = false from beq_eq_false_iff_ne.mpr hx]
    rfl
theorem LI.finish (h0 : Inv E n s0 gray) (hv0 : s0.N v = 0) (h : LI E n s0 s v gray p) (hall : ∀ w, E v w → p w) :
    ∃ s', endV v s = some s' ∧ Inv E n s' gray ∧ Post E s0 s' v := by
  obtain ⟨t, ht, ht0, hold, hyoung⟩ := h.ages
  have hsv : s.N v ≠ 0 := by rw [h.nv]; omega
  have hlow := h.low
  have hk0 : ∀ x ∈ s0.stack, s.N x = s0.N x := fun x hx => (h.keep x (h0.seen x hx)).1
  have hvs0 : v ∉ s0.stack := fun hm => h0.seen v hm hv0
  have hmem : ∀ x, x ∈ s.stack ↔ x ∈ s0.stack ∨ x = v ∨ x ∈ t := fun x => by rw [ht, List.mem_append, List.mem_cons]
  have hblkv : ∀ x, s.N x ≠ 0 → x ∉ gray → ∀ y, E x y → s.N y ≠ 0 := fun x hx hg y hxy => by
    by_cases hxv : x = v
    · subst hxv
      exact (h.proc y (hall y hxy)).1
    · exact h.inv.blk x hx (fun hm => (List.mem_append.1 hm).elim hg (fun h1 => hxv (List.mem_singleton.1 h1))) y hxy
  unfold endV
  by_cases hlt : s.L v < s.N v
  · rw [if_pos hlt]
    refine ⟨s, rfl, ?_, ?_⟩
    · obtain ⟨z, hz, hzn, hzr⟩ : ∃ z ∈ s0.stack, s0.N z = s.L v ∧ Rch E v z := h.lowz.resolve_right (by omega)
      refine ⟨h.inv.wf, h.inv.cnt, h.inv.le, h.inv.inj, h.inv.stk, h.inv.opn, h.inv.seen, fun x hx => h.inv.gr x (List.mem_append_left _ hx), hblkv, h.inv.dn, h.inv.ord, fun y hy => ?_, h.inv.outs⟩
      obtain ⟨x, hx, hle, hr⟩ := h.inv.up y hy
      rcases List.mem_append.1 hx with hx | hx
      · exact ⟨x, hx, hle, hr⟩
      · rw [List.mem_singleton.1 hx] at hle hr
        obtain ⟨x0, hx0, hle0, hr0⟩ := h0.up z hz
        refine ⟨x0, hx0, ?_, hr.trans (hzr.trans hr0)⟩
        rw [hk0 x0 (h0.gr x0 hx0)]
        omega
    · refine ⟨h.keep, Nat.le_of_lt h.last, h.new, hsv, ⟨v :: t, ht, fun x hx => ?_⟩, hlow, ?_, fun x hx hx0 y hxy hy => ?_⟩
      · rcases List.mem_cons.1 hx with rfl | hx
        · exact hv0
        · exact ht0 x hx
      · exact .inl (h.lowz.resolve_right (by omega))
      · by_cases hxv : x = v
        · subst hxv
          exact (h.proc y (hall y hxy)).2 hy
        · exact h.edge x hx hx0 hxv y hxy hy
  · have hLN : s.L v = s.N v := by omega
    have hvm : v ∈ s.stack := h.mem
    rw [if_neg hlt, if_pos hvm]
    have hidx : s.stack.idxOf v = s0.stack.length := by rw [ht]; exact idxOf_mid _ _ _ hvs0
    have htake : s.stack.take (s.stack.idxOf v) = s0.stack := by rw [hidx, ht, List.take_left']; rfl
    have hdrop : s.stack.drop (s.stack.idxOf v) = v :: t := by rw [hidx, ht, List.drop_left']; rfl
    have hTn : ∀ x ∈ v :: t, x ∉ s0.stack := fun x hx hm => by
      have := hold x hm
      rcases List.mem_cons.1 hx with rfl | hx
      · omega
      · have := hyoung x hx
        omega
    have hTs : ∀ x ∈ v :: t, x ∈ s.stack := fun x hx => by rw [ht]; exact List.mem_append_right _ hx
    have hnoedge : ∀ a ∈ v :: t, ∀ b, E a b → b ∉ s0.stack := fun a ha b hab hb => by
      have h1 := hold b hb
      have h2 := hk0 b hb
      by_cases hav : a = v
      · subst hav
        have := (h.proc b (hall b hab)).2 hb
        omega
      · have := h.edge a (hTs a ha) (hTn a ha) hav b hab hb
        omega
    have hclosed : ∀ a ∈ v :: t, ∀ b, E a b → s.N b ≠ 0 := fun a ha b hab =>
      hblkv a (h.inv.seen a (hTs a ha)) (fun hg => hTn a ha (h0.gr a hg)) b hab
    have hdown : ∀ b c, s.N b ≠ 0 → b ∉ s.stack → Rch E b c → s.N c ≠ 0 ∧ c ∉ s.stack := fun b c hb hbs hr =>
      hr.stays (T := fun x => s.N x ≠ 0 ∧ x ∉ s.stack) ⟨hb, hbs⟩ (fun x y hx hxy => h.inv.dn x hx.1 hx.2 y hxy)
    have hout : ∀ a c, a ∈ v :: t → Rch E a c → c ∈ s.stack → c ∈ v :: t := fun a c ha hr hc => by
      by_cases hcT : c ∈ v :: t
      · exact hcT
      · obtain ⟨x, y, hx, hy, hxy, _, hyc⟩ := hr.leaves (T := fun z => z ∈ v :: t) ha hcT
        have hy0 := hnoedge x hx y hxy
        have hys : y ∉ s.stack := fun hm => by
          rcases (hmem y).1 hm with hm | hm
          · exact hy0 hm
          · exact hy (List.mem_cons.2 hm)
        exact absurd hc (hdown y c (hclosed x hx y hxy) hys hyc).2
    have hTv : ∀ a ∈ v :: t, Scc E v a := fun a ha => by
      have has := hTs a ha
      refine ⟨h.inv.ord v hvm a has ?_, ?_⟩
      · rcases List.mem_cons.1 ha with rfl | ha
        · exact Nat.le_refl _
        · exact Nat.le_of_lt (hyoung a ha)
      · obtain ⟨x, hx, hle, hr⟩ := h.inv.up a has
        rcases List.mem_append.1 hx with hx | hx
        · have hxs0 := h0.gr x hx
          exact absurd hxs0 (hTn x (hout a x ha hr ((hmem x).2 (.inl hxs0))))
        · rw [List.mem_singleton.1 hx] at hr
          exact hr
    have hTall : ∀ u, Scc E v u → u ∈ v :: t := fun u hu => by
      by_cases huT : u ∈ v :: t
      · exact huT
      · obtain ⟨x, y, hx, hy, hxy, _, hyc⟩ := hu.1.leaves (T := fun z => z ∈ v :: t) List.mem_cons_self huT
        have hy0 := hnoedge x hx y hxy
        have hys : y ∉ s.stack := fun hm => by
          rcases (hmem y).1 hm with hm | hm
          · exact hy0 hm
          · exact hy (List.mem_cons.2 hm)
        exact absurd hvm (hdown y v (hclosed x hx y hxy) hys (hyc.trans hu.2)).2
    obtain ⟨hlm, hll⟩ := leastOf_spec (v :: t) (by simp)
    have hgrp : ∀ a ∈ v :: t, IsGrp E a (leastOf (v :: t)) := fun a ha =>
      ⟨(hTv a ha).symm.trans (hTv _ hlm), fun u hu => hll u (hTall u ((hTv a ha).trans hu))⟩
    have hTlt : ∀ x ∈ v :: t, x < n := fun x hx => h.inv.wf.stk x (hTs x hx)
    have hop : ∀ x, (popV v s).opn.getD x false = if x ∈ v :: t then false else s.opn.getD x false := fun x => by
      show ((s.stack.drop (s.stack.idxOf v)).foldl (fun o w => o.set w false) s.opn).getD x false = _
      rw [hdrop]
      exact foldl_set_at false false _ _ _ (fun y hy => by rw [h.inv.wf.opn]; exact hTlt y hy)
    have hou : ∀ x, (popV v s).out.getD x 0 = if x ∈ v :: t then leastOf (v :: t) else s.out.getD x 0 := fun x => by
      show ((s.stack.drop (s.stack.idxOf v)).foldl (fun o w => o.set w (leastOf (s.stack.drop (s.stack.idxOf v)))) s.out).getD x 0 = _
      rw [hdrop]
      exact foldl_set_at _ 0 _ _ _ (fun y hy => by rw [h.inv.wf.out]; exact hTlt y hy)
    have hst : (popV v s).stack = s0.stack := htake
    have hNs : ∀ x, (popV v s).N x = s.N x := fun _ => rfl
    have hin : ∀ x, x ∈ s0.stack → x ∈ s.stack := fun x hx => (hmem x).2 (.inl hx)
    have hsplit : ∀ x, x ∉ s0.stack → x ∉ v :: t → x ∉ s.stack := fun x h1 h2 hm => by
      rcases (hmem x).1 hm with hm | hm
      · exact h1 hm
      · exact h2 (List.mem_cons.2 hm)
    have hwf' : Wf n (popV v s) := h.inv.wf.endV (v := v) (by unfold endV; rw [if_neg hlt, if_pos hvm])
    refine ⟨popV v s, rfl, ⟨hwf', h.inv.cnt, h.inv.le, h.inv.inj, ?_, ?_, ?_, ?_, hblkv, ?_, ?_, ?_, ?_⟩, ⟨h.keep, Nat.le_of_lt h.last, h.new, hsv, ⟨[], by rw [hst, List.append_nil], by simp⟩, Nat.le_of_eq hLN, .inr hLN, fun x hx hx0 => ?_⟩⟩
    · rw [hst]
      have hp := h.inv.stk
      rw [ht, List.pairwise_append] at hp
      exact hp.1
    · intro x
      rw [hop, hst]
      by_cases hxT : x ∈ v :: t
      · rw [if_pos hxT]
        exact ⟨fun hh => by simp at hh, fun hh => absurd hh (hTn x hxT)⟩
      · rw [if_neg hxT, h.inv.opn]
        exact ⟨fun hh => by
          by_cases hx0 : x ∈ s0.stack
          · exact hx0
          · exact absurd hh (hsplit x hx0 hxT), hin x⟩
    · rw [hst]; exact fun x hx => h.inv.seen x (hin x hx)
    · rw [hst]; exact h0.gr
    · rw [hst]
      intro x hx hxs y hxy
      by_cases hxT : x ∈ v :: t
      · exact ⟨hclosed x hxT y hxy, hnoedge x hxT y hxy⟩
      · obtain ⟨h1, h2⟩ := h.inv.dn x hx (hsplit x hxs hxT) y hxy
        exact ⟨h1, fun hm => h2 (hin y hm)⟩
    · rw [hst]; exact fun x hx y hy => h.inv.ord x (hin x hx) y (hin y hy)
    · rw [hst]
      intro y hy
      obtain ⟨x, hx, hle, hr⟩ := h0.up y hy
      refine ⟨x, hx, ?_, hr⟩
      rw [hNs, hNs, hk0 x (h0.gr x hx), hk0 y hy]
      exact hle
    · rw [hst]
      intro x hx hxs
      rw [hou]
      by_cases hxT : x ∈ v :: t
      · rw [if_pos hxT]; exact hgrp x hxT
      · rw [if_neg hxT]; exact h.inv.outs x hx (hsplit x hxs hxT)
    · rw [hst] at hx
      exact absurd hx hx0
end
theorem count0_pos : ∀ (l : List Nat) (i : Nat), i < l.length → l.getD i 0 = 0 → 0 < l.count 0
  | [], i, h, _ => by simp at h
  | x :: l, 0, h, h0 => by
    have hx : x = 0 := by simpa using h0
    subst hx
    simp
  | x :: l, i + 1, h, h0 => by
    have := count0_pos l i (by simpa using h) (by simpa using h0)
    rw [List.count_cons]
    omega
theorem LI.fold {E : Nat → Nat → Prop} {n : Nat} {s0 : TS} {gray : List Nat} {v : Nat} (f : Nat → TS → Option TS) (d : Nat) (h0 : Inv E n s0 gray) (hv0 : s0.N v = 0) (hacc : ∀ x ∈ gray, Rch E x v) (hE : ∀ a b, E a b → b < n)
    (hf : ∀ w s, Inv E n s (gray ++ [v]) → s.N w = 0 → w < n → (∀ x ∈ gray ++ [v], Rch E x w) → s.num.count 0 ≤ d → ∃ s', f w s = some s' ∧ Inv E n s' (gray ++ [v]) ∧ Post E s s' w) :
    ∀ (ws : List Nat) (s : TS) (p : Nat → Prop), (∀ w ∈ ws, E v w) → LI E n s0 s v gray p → s.num.count 0 ≤ d → ∃ s' p', ws.foldlM (stepF f v) s = some s' ∧ LI E n s0 s' v gray p' ∧ ∀ u, (p u ∨ u ∈ ws) → p' u := by
  intro ws
  induction ws with
  | nil => intro s p _ h _; exact ⟨s, p, rfl, h, fun u hu => hu.elim id (fun hh => by cases hh)⟩
  | cons w ws ih =>
    intro s p hws h hc
    have he := hws w List.mem_cons_self
    have hrest : ∀ s1, stepF f v s w = some s1 → LI E n s0 s1 v gray (fun u => p u ∨ u = w) → s1.num.count 0 ≤ d → ∃ s' p', (w :: ws).foldlM (stepF f v) s = some s' ∧ LI E n s0 s' v gray p' ∧ ∀ u, (p u ∨ u ∈ w :: ws) → p' u := by
      intro s1 hs1 hl hc1
      obtain ⟨s', p', h1, h2, h3⟩ := ih s1 _ (fun u hu => hws u (List.mem_cons_of_mem _ hu)) hl hc1
      refine ⟨s', p', ?_, h2, fun u hu => h3 u ?_⟩
      · rw [List.foldlM_cons, hs1]
        exact h1
      · rcases hu with hu | hu
        · exact .inl (.inl hu)
        · rcases List.mem_cons.1 hu with hu | hu
          · exact .inl (.inr hu)
          · exact .inr hu
    by_cases hw : s.N w = 0
    · obtain ⟨s1, h1, h2, h3⟩ := hf w s h.inv hw (hE v w he) (fun x hx => by
        rcases List.mem_append.1 hx with hx | hx
        · exact (hacc x hx).tail he
        · rw [List.mem_singleton.1 hx]; exact Rch.one he) hc
      refine hrest (lowTo v (s1.L w) s1) ?_ (h.visit h0 hv0 he hw h2 h3) ?_
      · unfold stepF
        rw [if_pos hw, h1]
        rfl
      · have := h.inv.cnt
        have := h2.cnt
        have := h3.last
        show s1.num.count 0 ≤ d
        omega
    · by_cases ho : s.opn.getD w false = true
      · refine hrest (lowTo v (s.N w) s) ?_ (h.meet h0 hv0 he hw ((h.inv.opn w).1 ho)) hc
        unfold stepF
        rw [if_neg hw, if_pos ho]
      · refine hrest s ?_ (h.pass hw (fun hm => ho ((h.inv.opn w).2 hm))) hc
        unfold stepF
        rw [if_neg hw, if_neg ho]
theorem vis_ok {E : Nat → Nat → Prop} {n : Nat} {g : List (List Nat)} (hg : ∀ v w, w ∈ g.getD v [] ↔ E v w) (hE : ∀ a b, E a b → b < n) (hn : n < 1000000) :
    ∀ (d v : Nat) (s : TS) (gray : List Nat), Inv E n s gray → s.N v = 0 → v < n → (∀ x ∈ gray, Rch E x v) → s.num.count 0 ≤ d → ∃ s', vis g d v s = some s' ∧ Inv E n s' gray ∧ Post E s s' v := by
  intro d
  induction d with
  | zero =>
    intro v s gray h hv hvn _ hc
    have := count0_pos s.num v (by rw [h.wf.num]; exact hvn) hv
    omega
  | succ d ih =>
    intro v s gray h hv hvn hacc hc
    have hli := LI.start h hv hvn hacc
    have hc1 : (push v s).num.count 0 ≤ d := by
      have := count_set0 s.num v (s.last + 1) (by rw [h.wf.num]; exact hvn) hv (by omega)
      show (s.num.set v (s.last + 1)).count 0 ≤ d
      omega
    obtain ⟨s1, p, h1, h2, h3⟩ := LI.fold (vis g d) d h hv hacc hE (fun w s' hi hw hwn ha hcc => ih w s' _ hi hw hwn ha hcc) (g.getD v []) (push v s) _ (fun w hw => (hg v w).1 hw) hli hc1
    obtain ⟨s', h4, h5, h6⟩ := h2.finish h hv (fun w hw => h3 w (.inr ((hg v w).2 hw)))
    refine ⟨s', ?_, h5, h6⟩
    have hcnt := h.cnt
    have hlen := pairs_len (f := s.N) (m := s.last) s.stack h.stk (fun x hx => ⟨h.le x, h.seen x hx⟩)
    unfold vis
    rw [if_pos ⟨by omega, by omega⟩, h1]
    exact h4
theorem init_inv (E : Nat → Nat → Prop) (n : Nat) : Inv E n (initS n) [] := by
  have h0 : ∀ x, (initS n).N x = 0 := fun x => by
    show (List.replicate n 0).getD x 0 = 0
    rw [List.getD_eq_getElem?_getD, List.getElem?_replicate]
    split <;> rfl
  refine ⟨⟨by simp [initS], by simp [initS], by simp [initS], by simp [initS], by simp [initS]⟩, by simp [initS], fun x => by rw [h0]; exact Nat.zero_le _, fun x y _ hx => absurd (h0 x) hx, List.Pairwise.nil, fun x => ?_, by simp [initS], by simp, fun x hx => absurd (h0 x) hx, fun x hx => absurd (h0 x) hx, by simp [initS], by simp [initS], fun x hx => absurd (h0 x) hx⟩
  have : (initS n).opn.getD x false = false := by
    show (List.replicate n false).getD x false = false
    rw [List.getD_eq_getElem?_getD, List.getElem?_replicate]
    split <;> rfl
  rw [this]
  simp [initS]
theorem groupsT_ok {E : Nat → Nat → Prop} {g : List (List Nat)} (hg : ∀ v w, w ∈ g.getD v [] ↔ E v w) (hE : ∀ a b, E a b → b < g.length) (hn : g.length < 1000000) :
    ∃ s, groupsT g = some s ∧ s.out.length = g.length ∧ ∀ v, v < g.length → IsGrp E v (s.out.getD v 0) := by
  have key : ∀ (vs : List Nat) (s : TS), (∀ v ∈ vs, v < g.length) → Inv E g.length s [] → ∃ s', vs.foldlM (stepA g (g.length + 1)) s = some s' ∧ Inv E g.length s' [] ∧ (∀ x, s.N x ≠ 0 → s'.N x ≠ 0) ∧ ∀ v ∈ vs, s'.N v ≠ 0 := by
    intro vs
    induction vs with
    | nil => intro s _ h; exact ⟨s, rfl, h, fun _ hx => hx, by simp⟩
    | cons v vs ih =>
      intro s hvs h
      obtain ⟨s1, h1, h2, h3, h4⟩ : ∃ s1, stepA g (g.length + 1) s v = some s1 ∧ Inv E g.length s1 [] ∧ (∀ x, s.N x ≠ 0 → s1.N x ≠ 0) ∧ s1.N v ≠ 0 := by
        unfold stepA
        by_cases hv : s.N v = 0
        · rw [if_pos hv]
          obtain ⟨s1, h1, h2, h3⟩ := vis_ok hg hE hn (g.length + 1) v s [] h hv (hvs v List.mem_cons_self) (by simp) (by have := h.cnt; omega)
          exact ⟨s1, h1, h2, fun x hx => by rw [(h3.keep x hx).1]; exact hx, h3.here⟩
        · rw [if_neg hv]
          exact ⟨s, rfl, h, fun _ hx => hx, hv⟩
      obtain ⟨s', h5, h6, h7, h8⟩ := ih s1 (fun u hu => hvs u (List.mem_cons_of_mem _ hu)) h2
      refine ⟨s', by rw [List.foldlM_cons, h1]; exact h5, h6, fun x hx => h7 x (h3 x hx), fun u hu => ?_⟩
      rcases List.mem_cons.1 hu with rfl | hu
      · exact h7 _ h4
      · exact h8 u hu
  obtain ⟨s, h1, h2, _, h4⟩ := key (List.range g.length) (initS g.length) (fun v hv => List.mem_range.1 hv) (init_inv E g.length)
  refine ⟨s, h1, h2.wf.out, fun v hv => h2.outs v (h4 v (List.mem_range.2 hv)) (fun hm => ?_)⟩
  obtain ⟨x, hx, _⟩ := h2.up v hm
  cases hx
end Go.Proofs.Ytjbgealnnlmchaa.G
