/- Add, New, Len; the rows of ints that a set tells. Each contract names its state. -/
import Derived.Test.YtmcecmcnbhhniaaNd
import Derived.Lib.LazyBuf
set_option linter.unusedVariables false
set_option linter.unusedSimpArgs false
namespace Go.Proofs.Ytmcecmcnbhhniaa.G
open Go.RowKit Go.Proofs.Ytmcecmcnbhhniaa.B Go.Proofs.YtmcecmcnbhhniaaW.PrintWords Go.Proofs.YtmcecmcnbhhniaaW.PrintLast Go.Proofs.YtmcecmcnbhhniaaW.PrintMore

theorem Left.same {b : Nat} {W w' : World} {gs : Nat} {R : Option Nat} {l : List Sp} (h : SetAt b W gs R l) (hb : Below W.heap.size W w') : Left b W gs R w' l :=
  ⟨⟨R, h.below hb, .inl rfl⟩, Kp.of_below hb _⟩
theorem add_calls {b : Nat} {W : World} {gs : Nat} {R : Option Nat} {l : List Sp} (h : SetAt b W gs R l) (hb : b ≤ W.heap.size) (hw : WF l) (n : Int) :
    Calls Try.prog 12 #[.pointer (some ⟨gs, 0, none⟩), .int .i64 n] W fun e w' => e = .returned (.bool (addS l n).2) ∧ Left b W gs R w' (addS l n).1 := by
  have HS := Aside0.mk h
  have HW := Aside0.mk hw
  have HB := Aside0.mk hb
  clear h hw hb
  by_cases h0 : n < 0
  · have ha : addS l n = (l, false) := by unfold addS; rw [if_neg (by omega)]
    rw [ha]
    clear ha
    go_enter Try.func12, Try.ntmps12
    go_wp2_with fail
    go_ret
    exact ⟨rfl, Left.same HS.out (Below.refl _ _)⟩
  · by_cases h9 : 1000000 < n
    · have ha : addS l n = (l, false) := by unfold addS; rw [if_neg (by omega)]
      rw [ha]
      clear ha
      go_enter Try.func12, Try.ntmps12
      go_wp2_with fail
      go_ret
      exact ⟨rfl, Left.same HS.out (Below.refl _ _)⟩
    · cases hh : hasS l n with
      | true =>
        have ha : addS l n = (l, false) := by unfold addS; rw [if_neg (by simp [hh])]
        rw [ha]
        have HH := Aside0.mk hh
        clear ha hh
        go_enter Try.func12, Try.ntmps12
        go_wp2_with (go_at_call 16; refine (has_calls HS.out HW.out n).mono ?_; rintro e wn ⟨rfl, hk⟩; rw [HH.out]; have HK := Aside0.mk hk; clear hk)
        go_ret
        exact ⟨rfl, Left.same HS.out HK.out⟩
      | false =>
        have ha : addS l n = (putS l n n, true) := by unfold addS; rw [if_pos ⟨by omega, by omega, hh⟩]
        rw [ha]
        have HH := Aside0.mk hh
        have HN := Aside0.mk (And.intro h0 h9)
        clear ha hh
        go_enter Try.func12, Try.ntmps12
        go_wp2_with (first | (go_at_call 16; refine (has_calls HS.out HW.out n).mono ?_; rintro e wn ⟨rfl, hk⟩; rw [HH.out]; have HK := Aside0.mk hk; clear hk) | (go_at_call 27; refine (put_calls (HS.out.below HK.out) (Nat.le_trans HB.out HK.out.size) HW.out n n (by have := HN.out; omega) (Int.le_refl _) (by have := HN.out; omega)).mono ?_; rintro e wm ⟨rfl, hL⟩; have HLt := Aside0.mk (hL.of_below HK.out); clear hL))
        go_ret
        exact ⟨rfl, HLt.out⟩
theorem add_nil (n : Int) (W : World) :
    Calls Try.prog 12 #[.pointer none, .int .i64 n] W fun e w' => e = .returned (.bool false) ∧ w' = W := by
  go_enter Try.func12, Try.ntmps12
  go_wp2
  go_ret
  exact ⟨rfl, rfl⟩
/-- A set that this call made. -/
structure Made (w W : World) (gs : Nat) (R : Option Nat) (l : List Sp) : Prop where
  set : SetAt w.heap.size W gs R l
  wf : WF l
  below : Below w.heap.size w W
theorem Left.made {w W w' : World} {gs : Nat} {R : Option Nat} {l m : List Sp} (h : Made w W gs R l) (hL : Left w.heap.size W gs R w' m) (hm : WF m) : ∃ R', Made w w' gs R' m ∧ (R' = R ∨ ∀ k, R' = some k → W.heap.size ≤ k) := by
  obtain ⟨R', h1, h2⟩ := hL.set
  refine ⟨R', ⟨h1, hm, Kp.below_of h.below hL.kp (fun k hk => ?_)⟩, h2⟩
  rcases hk with rfl | hk
  · exact h.set.base
  · obtain ⟨c, _, hc⟩ := h.set.own k hk
    exact hc
theorem Made.low {w W W' : World} {gs : Nat} {R : Option Nat} {l : List Sp} (h : Made w W gs R l) (hb : Below W.heap.size W W') : Made w W' gs R l :=
  ⟨h.set.below hb, h.wf, below_step h.below hb⟩
set_option maxHeartbeats 4000000 in
theorem new_calls {w : World} {A : Option Addr} {c : Nat} {xs : List Int} (hC : Kd.C (Kd.int .i64) w A xs.length xs) (hn : xs.length ≤ 9223372036854775806) :
    Calls Try.prog 11 #[.slice A xs.length c] w fun e w' => ∃ gs, e = .returned (.pointer (some ⟨gs, 0, none⟩)) ∧ ∃ R, Made w w' gs R (newS xs) := by
  have HC := Aside0.mk hC
  have HM : Aside0 (Made w (w.alloc (.cells #[.slice none 0 0] 43)) w.heap.size none []) := Aside0.mk
    ⟨⟨⟨_, blk_new w _, ⟨rfl, .inl ⟨rfl, rfl⟩⟩, rfl⟩, Nat.le_refl _⟩, WF.nil, below_alloc (Below.refl _ _) _⟩
  have HN := Aside0.mk hn
  clear hC hn
  go_enter Try.func11, Try.ntmps11
  go_upto_block 0 with (fail)
  generalize (w.alloc (.cells #[.slice none 0 0] 43)) = w1 at HM ⊢
  generalize w.heap.size = gs at HM ⊢
  go_wp2_with fail
  go_loopw [10] (fun i wx => ∃ (j : Nat) (R : Option Nat), j ≤ xs.length ∧ i = .int .i64 j ∧ Hid (Made w wx gs R (newS (xs.take j)))) (fun i _ => xs.length - (intOf i).toNat)
  case atStart => exact ⟨0, none, Nat.zero_le _, rfl, HM.out⟩
  case round =>
    obtain ⟨j, R, hj, rfl, hM⟩ := hrel
    replace HM : Aside0 (Made w wr gs R (newS (xs.take j))) := Aside0.mk hM
    clear hM
    by_cases hlt : (j : Int) < (xs.length : Int)
    · obtain ⟨ad, rfl, hx⟩ := Kd.at_int (Kd.C_below HC.out HM.out.below) (j : Int) (Int.natCast_nonneg j) hlt
      rw [Int.toNat_natCast] at hx
      have hwj : IntKind.i64.wrap ((j : Int) + 1) = (j : Int) + 1 := by
        have h2 : xs.length ≤ 9223372036854775806 := HN.out
        rw [IntKind.wrap_i64]; omega
      have HJ := Aside0.mk hj
      clear hj
      go_wp2_with (go_at_call 12; refine (add_calls HM.out.set HM.out.below.size HM.out.wf _).mono ?_; rintro e wn ⟨rfl, hL⟩; have HL := Aside0.mk hL; clear hL)
      obtain ⟨R', hM', _⟩ := Left.made HM.out HL.out (add_spec HM.out.wf _).1
      have hj1 : j < xs.length := by omega
      have hnew : (addS (newS (xs.take j)) (rd xs (j : Int))).1 = newS (xs.take (j + 1)) := by
        rw [List.take_add_one, List.getElem?_eq_getElem hj1]
        unfold newS
        rw [List.foldl_append]
        have : rd xs (j : Int) = xs[j] := by unfold rd; rw [Int.toNat_natCast, List.getD_eq_getElem?_getD, List.getElem?_eq_getElem hj1]; rfl
        rw [this]
        rfl
      rw [hnew] at hM'
      go_roundw
      case rel => exact ⟨j + 1, R', by omega, by go_num, hM'⟩
      case measure => simp [intOf]; omega
    · have hje : j = xs.length := by omega
      subst hje
      rw [List.take_length] at HM
      clear hj
      go_wp2_with fail
      go_ret
      exact ⟨gs, rfl, R, HM.out⟩
theorem len_take_add (l : List Sp) (j : Nat) (x : Sp) (h : l[j]? = some x) : lenS (l.take (j + 1)) = lenS (l.take j) + (x.hi - x.lo + 1) := by
  induction l generalizing j with
  | nil => simp at h
  | cons y l ih =>
    cases j with
    | zero =>
      obtain rfl : y = x := by simpa using h
      simp [lenS]
    | succ j =>
      have := ih j (by simpa using h)
      rw [List.take_succ_cons, List.take_succ_cons]
      show (y.hi - y.lo + 1) + lenS (l.take (j + 1)) = (y.hi - y.lo + 1) + lenS (l.take j) + _
      omega
theorem WF.take {l : List Sp} (h : WF l) (j : Nat) : WF (l.take j) := (show WF (l.take j ++ l.drop j) by rw [List.take_append_drop]; exact h).left
set_option maxHeartbeats 4000000 in
theorem len_calls {b : Nat} {W : World} {gs : Nat} {R : Option Nat} {l : List Sp} (h : SetAt b W gs R l) (hw : WF l) :
    Calls Try.prog 15 #[.pointer (some ⟨gs, 0, none⟩)] W fun e w' => e = .returned (.int .i64 (lenS l)) ∧ Below W.heap.size W w' := by
  obtain ⟨A, c, hbox, hlc, hc9, hr⟩ := h.form
  have HX := Aside0.mk (And.intro hbox hr)
  have HW := Aside0.mk hw
  clear h hbox hr hw
  go_enter Try.func15, Try.ntmps15
  go_upto_block 0 with (go_at_call 28; refine (all_calls HX.out.1).mono ?_; rintro e wm ⟨rfl, hwm⟩; obtain rfl := hwm.symm)
  go_wp2_with fail
  go_loopw [9, 3] (fun i t wx => ∃ (j : Nat), j ≤ l.length ∧ i = .int .i64 j ∧ t = .int .i64 (lenS (l.take j)) ∧ Hid (Below W.heap.size W wx)) (fun i _ _ => l.length - (intOf i).toNat)
  case atStart => exact ⟨0, Nat.zero_le _, rfl, rfl, Below.refl _ _⟩
  case round =>
    obtain ⟨j, hj, rfl, rfl, hb⟩ := hrel
    have HB : Aside0 (Below W.heap.size W wr) := Aside0.mk hb
    clear hb
    by_cases hlt : (j : Int) < (l.length : Int)
    · have hj1 : j < l.length := by omega
      obtain ⟨x, hx⟩ : ∃ x, l[j]? = some x := ⟨_, List.getElem?_eq_getElem hj1⟩
      obtain ⟨g, rfl, c1, c2⟩ := (HX.out.2.mono HB.out) j x hx
      have hl1 := len_take_add l j x hx
      have hw1 := lenS_le (HW.out.take j)
      have hw2 := lenS_le (HW.out.take (j + 1))
      have hxo := HW.out.ok x (List.mem_of_getElem? hx)
      have hwj : IntKind.i64.wrap ((j : Int) + 1) = (j : Int) + 1 := by rw [IntKind.wrap_i64]; omega
      have hwa : IntKind.i64.wrap (x.hi - x.lo) = x.hi - x.lo := by rw [IntKind.wrap_i64]; omega
      have hwb : IntKind.i64.wrap (x.hi - x.lo + 1) = x.hi - x.lo + 1 := by rw [IntKind.wrap_i64]; omega
      have hwc : IntKind.i64.wrap (lenS (l.take j) + (x.hi - x.lo + 1)) = lenS (l.take j) + (x.hi - x.lo + 1) := by rw [IntKind.wrap_i64]; omega
      have HQ := Aside0.mk (And.intro hj1 hl1)
      clear hl1 hw1 hw2 hxo hx hj
      have hb2 := below_alloc HB.out (.cells #[.int .i64 x.lo, .int .i64 x.hi] 47)
      have HB2 := Aside0.mk hb2
      clear hb2
      go_wp2_with fail
      obtain ⟨hj1, hl1⟩ := HQ.out
      go_roundw
      case rel => exact ⟨j + 1, by omega, by go_num, by rw [hl1], HB2.out⟩
      case measure => simp [intOf]; omega
    · have hje : j = l.length := by omega
      subst hje
      rw [List.take_length]
      clear hj
      go_wp2_with fail
      go_ret
      exact ⟨rfl, HB.out⟩
theorem len_nil (W : World) : Calls Try.prog 15 #[.pointer none] W fun e w' => e = .returned (.int .i64 0) ∧ Below W.heap.size W w' := by
  go_enter Try.func15, Try.ntmps15
  go_upto_block 0 with (go_at_call 28; refine (all_nil W).mono ?_; rintro e wm ⟨rfl, hwm⟩; obtain rfl := hwm.symm)
  go_wp2_with fail
  go_loopw [9, 3] (fun i t wx => i = .int .i64 0 ∧ t = .int .i64 0 ∧ wx = W) (fun _ _ _ => 0)
  case atStart => exact ⟨rfl, rfl, rfl⟩
  case round =>
    obtain ⟨rfl, rfl, rfl⟩ := hrel
    go_wp2_with fail
    go_ret
    exact ⟨rfl, Below.refl _ _⟩
/-- A row of ints. -/
def RowI (W : World) (b : Nat) (v : Value) (l : List Int) : Prop := W.ownsRow b 3 1 v l.length (l.map (Value.int .i64))
theorem RowI.nil (W : World) (b : Nat) : RowI W b (.slice none 0 0) [] := ⟨rfl, .inl ⟨rfl, rfl⟩⟩
theorem RowI.form {W : World} {b : Nat} {v : Value} {l : List Int} (h : RowI W b v l) : ∃ A c, v = .slice A l.length c ∧ l.length ≤ c ∧ Kd.C (Kd.int .i64) W A l.length l := by
  rcases h.2 with ⟨hv, h1⟩ | ⟨g, cap, cur, hv, hg, hh, hc, hm, hs, ht⟩
  · refine ⟨none, 0, by rw [hv, h1], by omega, ?_⟩
    exact Kd.C_of_reads (enc := Value.int .i64) (d := (0 : Int)) (h1 := fun _ => rfl) ⟨rfl, by omega, fun h => by omega⟩
  · subst hv
    refine ⟨_, cap, rfl, hc, ?_⟩
    refine Kd.C_of_reads (enc := Value.int .i64) (d := (0 : Int)) (h1 := fun _ => rfl) ⟨rfl, by unfold maxLen at hm; omega, fun _ => ⟨⟨g, 0, none⟩, rfl, fun j hj => ?_⟩⟩
    rw [show (⟨g, 0, none⟩ : Addr).add j = ⟨g, j, none⟩ by unfold Addr.add; split <;> simp_all, World.ownsRow.cellAt h j (by omega), List.getElem?_map, List.getElem?_eq_getElem hj, List.getD_eq_getElem?_getD, List.getElem?_eq_getElem hj]
    rfl
theorem RowI.below {W W' : World} {b : Nat} {v : Value} {l : List Int} (h : RowI W b v l) (hb : Below W.heap.size W W') : RowI W' b v l :=
  own_move h (fun k hk => by obtain ⟨c, hc⟩ := own_typed h k hk; exact hb.block k (blk_lt hc))
theorem RowI.kp {W W' : World} {b : Nat} {v : Value} {l : List Int} {S : Nat → Prop} (h : RowI W b v l) (hk : Kp W W' S) (hs : ∀ k c, S k → W.heap[k]? = some (.cells c 3 (0, 0)) → False) : RowI W' b v l :=
  own_move h (fun k hk' => by obtain ⟨c, hc⟩ := own_typed h k hk'; exact hk.block k (blk_lt hc) (fun hS => hs k c hS hc))
theorem append_int {ops : Array Oper} {rest : List Oper} {o : Oper} {a : Act} {Q : Exit → Act → World → Prop} {w : World} (base : Nat) (hgd : o.guard = none) (s x : Operand)
    (ho : o.op = .call { callee := .builtin .append, args := #[s, x], argTypes := #[28, 28] })
    (v : Value) (l m : List Int) (hs : a.eval s = v) (HO : RowI w base v l) (gb : Nat) (fr : Nat × Nat) (c k : Nat) (hk : k = m.length) (hx : a.eval x = .slice (some ⟨gb, 0, none⟩) k c)
    (hb : w.heap[gb]? = some (.cells (m.map (Value.int .i64)).toArray 3 fr)) (hbase : base ≤ w.heap.size) (hl : l.length + m.length ≤ 4000000)
    (h : ∀ A1 c1 w1, RowI w1 base (.slice A1 (l ++ m).length c1) (l ++ m) → w.grownBy w1 v.ownBlock → wpList Try.prog ops Q rest (a.put o.dst (.slice A1 (l ++ m).length c1)) w1) :
    wpList Try.prog ops Q (o :: rest) a w := by
  subst hk
  have hinfo : (Try.prog.info? 3).map (fun i => (i.zero, i.size, i.bytes)) = some (some (.int .i64 0), 1, 8) := by kernel_rfl
  obtain ⟨i0, hi, hzz⟩ := Option.map_eq_some_iff.1 hinfo
  simp only [Prod.mk.injEq] at hzz
  obtain ⟨hz0, hz1, hz2⟩ := hzz
  refine wpList_append_own_at w hgd s x 28 ho base 3 i0 (.int .i64 0) 1 8 Try.underlying28 hi hz0 hz1 hz2 (by kernel_rfl) (by decide) v l.length (l.map (Value.int .i64)) hs HO ⟨gb, 0, none⟩ m.length c (m.map (Value.int .i64)) hx (by rw [List.length_map]; omega)
    (by simpa using World.news_of_block (cs := (m.map (Value.int .i64)).toArray) (t := 3) (fr := fr) hb) (fun u hu => by obtain ⟨y, _, rfl⟩ := List.mem_map.1 hu; rfl) (by simp only [maxLen]; omega) (by omega) hbase ?_
  intro v1 w1 h1 hg _ hown
  have hrow : RowI w1 base v1 (l ++ m) := by
    unfold RowI
    rw [List.length_append, List.map_append]
    exact h1
  obtain ⟨A1, c1, rfl, _, _⟩ := hrow.form
  exact h A1 c1 w1 hrow hg
end Go.Proofs.Ytmcecmcnbhhniaa.G
