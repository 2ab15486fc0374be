/- Spans, List, slices.Clone of spans. Each contract names its state. -/
import Derived.Test.YtmcecmcnbhhniaaNe
set_option linter.unusedVariables false
set_option linter.unusedSimpArgs false
namespace Go.Proofs.Ytmcecmcnbhhniaa.G
open Go.RowKit Go.Proofs.Ytmcecmcnbhhniaa.B Go.Proofs.YtmcecmcnbhhniaaW.PrintWords Go.Proofs.YtmcecmcnbhhniaaW.PrintLast Go.Proofs.YtmcecmcnbhhniaaW.PrintMore

theorem spans_take (l : List Sp) (j : Nat) (x : Sp) (h : l[j]? = some x) : spansS (l.take (j + 1)) = spansS (l.take j) ++ [x.lo, x.hi] := by
  rw [List.take_add_one, h]
  simp [spansS]
theorem spans_len (l : List Sp) : (spansS l).length = 2 * l.length := by
  induction l with
  | nil => rfl
  | cons x l ih => simp only [spansS, List.flatMap_cons, List.length_append, List.length_cons, List.length_nil] at ih ⊢; omega
theorem list_take (l : List Sp) (j : Nat) (x : Sp) (h : l[j]? = some x) : listS (l.take (j + 1)) = listS (l.take j) ++ listOf x := by
  rw [List.take_add_one, h]
  simp [listS]
set_option maxHeartbeats 4000000 in
theorem spans_calls {b : Nat} {W : World} {gs : Nat} {R : Option Nat} {l : List Sp} (h : SetAt b W gs R l) (hw : WF l) :
    Calls Try.prog 14 #[.pointer (some ⟨gs, 0, none⟩)] W fun e w' => ∃ A c, e = .returned (.slice A (spansS l).length c) ∧ RowI w' W.heap.size (.slice A (spansS l).length c) (spansS l) ∧ Below W.heap.size W w' := by
  obtain ⟨A, c, hbox, hlc, hc9, hr⟩ := h.form
  have HX := Aside0.mk (And.intro hbox hr)
  have HW := Aside0.mk hw
  clear h hbox hr hw
  go_enter Try.func14, Try.ntmps14
  go_upto_block 0 with (go_at_call 28; refine (all_calls HX.out.1).mono ?_; rintro e wm ⟨rfl, hwm⟩; obtain rfl := hwm.symm)
  go_wp2_with fail
  go_loopw [9, 3] (fun i t wx => ∃ (j : Nat) (A2 : Option Addr) (c2 : Nat), j ≤ l.length ∧ i = .int .i64 j ∧ t = .slice A2 (spansS (l.take j)).length c2 ∧ Hid (RowI wx W.heap.size t (spansS (l.take j))) ∧ Hid (Below W.heap.size W wx)) (fun i _ _ => l.length - (intOf i).toNat)
  case atStart => exact ⟨0, none, 0, Nat.zero_le _, rfl, rfl, RowI.nil _ _, Below.refl _ _⟩
  case round =>
    obtain ⟨j, A2, c2, hj, rfl, rfl, hRo, hb⟩ := hrel
    have HB : Aside0 (Below W.heap.size W wr) := Aside0.mk hb
    have HRo : Aside0 (RowI wr W.heap.size (.slice A2 (spansS (l.take j)).length c2) (spansS (l.take j))) := Aside0.mk hRo
    clear hb hRo
    by_cases hlt : (j : Int) < (l.length : Int)
    · have hj1 : j < l.length := by omega
      obtain ⟨x, hx⟩ : ∃ x, l[j]? = some x := ⟨_, List.getElem?_eq_getElem hj1⟩
      obtain ⟨g, rfl, d1, d2⟩ := (HX.out.2.mono HB.out) j x hx
      have hl9 := len_le HW.out
      have hsl : (spansS (l.take j)).length ≤ 2000002 := by rw [spans_len, List.length_take]; omega
      have hwj : IntKind.i64.wrap ((j : Int) + 1) = (j : Int) + 1 := by rw [IntKind.wrap_i64]; omega
      have HQ := Aside0.mk (And.intro hj1 (And.intro (spans_take l j x hx) hsl))
      have hb2 := below_alloc (Below.refl wr.heap.size wr) (.cells #[.int .i64 x.lo, .int .i64 x.hi] 47)
      have HB2 := Aside0.mk (below_step HB.out hb2)
      have HRo2 := Aside0.mk (HRo.out.below hb2)
      have hbn := blk_new wr (.cells #[.int .i64 x.lo, .int .i64 x.hi] 47)
      obtain ⟨e1, e2⟩ := cell2 hbn
      clear hb2 hj hsl hl9 hx
      go_upto_region 5 with (fail)
      clear d1 d2 HRo HB hbn
      generalize (wr.alloc (.cells #[.int .i64 x.lo, .int .i64 x.hi] 47)) = w2 at HB2 HRo2 e1 e2 ⊢
      go_wp2_with (at_builtin; refine append_int W.heap.size rfl _ _ rfl (.slice A2 (spansS (l.take j)).length c2) (spansS (l.take j)) [x.lo, x.hi] rfl (HRo2.out.below (below_alloc (Below.refl _ _) _)) w2.heap.size (0, 0) 2 2 rfl rfl (blk_new w2 _) (by have := HB2.out.size; simp; omega) (by have := HQ.out.2.2; simp; omega) ?_; intro A3 c3 w3 h3 g3; have HR3 := Aside0.mk h3; have HB3 := Aside0.mk ((below_alloc HB2.out (.cells #[.int .i64 x.lo, .int .i64 x.hi] 3)).grown g3 (by have := HB2.out.size; simp; omega) (fun k hk => own_base (HRo2.out) k hk)); clear h3 g3)
      obtain ⟨hj1, hsp, hsl⟩ := HQ.out
      go_roundw
      case rel => exact ⟨j + 1, A3, c3, by omega, by go_num, by rw [hsp, List.length_append]; rfl, by have h9 := HR3.out; rw [List.length_append] at h9; rw [hsp]; exact h9, HB3.out⟩
      case measure => simp [intOf]; omega
    · have hje : j = l.length := by omega
      subst hje
      rw [List.take_length] at HRo ⊢
      clear hj
      go_wp2_with fail
      go_ret
      exact ⟨A2, c2, rfl, HRo.out, HB.out⟩
theorem spans_nil (W : World) : Calls Try.prog 14 #[.pointer none] W fun e w' => e = .returned (.slice none 0 0) ∧ Below W.heap.size W w' := by
  go_enter Try.func14, Try.ntmps14
  go_upto_block 0 with (go_at_call 28; refine (all_nil W).mono ?_; rintro e wm ⟨rfl, hwm⟩; obtain rfl := hwm.symm)
  go_wp2_with fail
  go_loopw [9, 3] (fun i t wx => i = .int .i64 0 ∧ t = .slice none 0 0 ∧ wx = W) (fun _ _ _ => 0)
  case atStart => exact ⟨rfl, rfl, rfl⟩
  case round =>
    obtain ⟨rfl, rfl, rfl⟩ := hrel
    go_wp2_with fail
    go_ret
    exact ⟨rfl, Below.refl _ _⟩
theorem list_nil (W : World) : Calls Try.prog 19 #[.pointer none] W fun e w' => e = .returned (.slice none 0 0) ∧ Below W.heap.size W w' := by
  go_enter Try.func19, Try.ntmps19
  go_upto_block 0 with (go_at_call 28; refine (all_nil W).mono ?_; rintro e wm ⟨rfl, hwm⟩; obtain rfl := hwm.symm)
  go_wp2_with fail
  go_loopw [10, 3] (fun i t wx => i = .int .i64 0 ∧ t = .slice none 0 0 ∧ wx = W) (fun _ _ _ => 0)
  case atStart => exact ⟨rfl, rfl, rfl⟩
  case round =>
    obtain ⟨rfl, rfl, rfl⟩ := hrel
    go_wp2_with fail
    go_ret
    exact ⟨rfl, Below.refl _ _⟩
theorem listOf_take (x : Sp) (k : Nat) (hk : k < (x.hi - x.lo + 1).toNat) : (listOf x).take (k + 1) = (listOf x).take k ++ [x.lo + (k : Int)] := by
  rw [List.take_add_one]
  congr 1
  unfold listOf
  rw [List.getElem?_map, List.getElem?_range hk]
  rfl
theorem listS_take_len {l : List Sp} (h : WF l) (j k : Nat) (x : Sp) (hx : l[j]? = some x) : (listS (l.take j) ++ (listOf x).take k).length ≤ 1000001 := by
  have h1 := lenS_le (h.take (j + 1))
  rw [← listS_len (h.take (j + 1)), list_take l j x hx, List.length_append] at h1
  rw [List.length_append, List.length_take]
  omega
set_option maxHeartbeats 4000000 in
theorem list_calls {b : Nat} {W : World} {gs : Nat} {R : Option Nat} {l : List Sp} (h : SetAt b W gs R l) (hw : WF l) :
    Calls Try.prog 19 #[.pointer (some ⟨gs, 0, none⟩)] W fun e w' => ∃ A c, e = .returned (.slice A (listS l).length c) ∧ RowI w' W.heap.size (.slice A (listS l).length c) (listS l) ∧ Below W.heap.size W w' := by
  obtain ⟨A, c, hbox, hlc, hc9, hr⟩ := h.form
  have HX := Aside0.mk (And.intro hbox hr)
  have HW := Aside0.mk hw
  clear h hbox hr hw
  go_enter Try.func19, Try.ntmps19
  go_upto_block 0 with (go_at_call 28; refine (all_calls HX.out.1).mono ?_; rintro e wm ⟨rfl, hwm⟩; obtain rfl := hwm.symm)
  go_wp2_with fail
  go_loopw [10, 3] (fun i t wx => ∃ (j : Nat) (A2 : Option Addr) (c2 : Nat), j ≤ l.length ∧ i = .int .i64 j ∧ t = .slice A2 (listS (l.take j)).length c2 ∧ Hid (RowI wx W.heap.size t (listS (l.take j))) ∧ Hid (Below W.heap.size W wx)) (fun i _ _ => l.length - (intOf i).toNat)
  case atStart => exact ⟨0, none, 0, Nat.zero_le _, rfl, rfl, RowI.nil _ _, Below.refl _ _⟩
  case round =>
    obtain ⟨j, A2, c2, hj, rfl, rfl, hRo, hb⟩ := hrel
    have HB : Aside0 (Below W.heap.size W wr) := Aside0.mk hb
    have HRo : Aside0 (RowI wr W.heap.size (.slice A2 (listS (l.take j)).length c2) (listS (l.take j))) := Aside0.mk hRo
    clear hb hRo
    by_cases hlt : (j : Int) < (l.length : Int)
    · have hj1 : j < l.length := by omega
      obtain ⟨x, hx⟩ : ∃ x, l[j]? = some x := ⟨_, List.getElem?_eq_getElem hj1⟩
      obtain ⟨g, rfl, d1, d2⟩ := (HX.out.2.mono HB.out) j x hx
      have hl9 := len_le HW.out
      have hwj : IntKind.i64.wrap ((j : Int) + 1) = (j : Int) + 1 := by rw [IntKind.wrap_i64]; omega
      have HQ := Aside0.mk (And.intro hj1 (And.intro hx hwj))
      have HXO := Aside0.mk (HW.out.ok x (List.mem_of_getElem? hx))
      have hb2 := below_alloc (Below.refl wr.heap.size wr) (.cells #[.int .i64 x.lo, .int .i64 x.hi] 47)
      have HB2 := Aside0.mk (below_step HB.out hb2)
      have HRo2 := Aside0.mk (HRo.out.below hb2)
      have hbn := blk_new wr (.cells #[.int .i64 x.lo, .int .i64 x.hi] 47)
      obtain ⟨e1, e2⟩ := cell2 hbn
      clear hb2 hj hl9 hx
      go_upto_region 5 with (fail)
      clear d1 d2 HRo HB
      have HBN := Aside0.mk hbn
      generalize hgb : wr.heap.size = gb at HBN e1 e2 hbn ⊢
      clear hbn hgb
      generalize (wr.alloc (.cells #[.int .i64 x.lo, .int .i64 x.hi] 47)) = w2 at HB2 HRo2 HBN e1 e2 ⊢
      clear hwj
      go_upto_block 2 with (fail)
      go_wp2_with fail
      clear e1 e2
      go_loopw [6, 3] (fun n t wx => ∃ (k : Nat) (A3 : Option Addr) (c3 : Nat), k ≤ (x.hi - x.lo + 1).toNat ∧ n = .int .i64 (x.lo + (k : Int)) ∧ t = .slice A3 (listS (l.take j) ++ (listOf x).take k).length c3 ∧ Hid (RowI wx W.heap.size t (listS (l.take j) ++ (listOf x).take k)) ∧ Hid (Below W.heap.size W wx) ∧ Hid (wx.heap[gb]? = some (.cells #[.int .i64 x.lo, .int .i64 x.hi] 47 (0, 0)))) (fun n _ _ => (x.hi + 1 - intOf n).toNat)
      case atStart => exact ⟨0, A2, c2, Nat.zero_le _, by rw [Int.natCast_zero, Int.add_zero], by rw [List.take_zero, List.append_nil], by rw [List.take_zero, List.append_nil]; exact HRo2.out, HB2.out, HBN.out⟩
      case round =>
        clear HB2 HRo2 HBN
        obtain ⟨k, A3, c3, hk, rfl, rfl, hRo, hb, hbx⟩ := hrel
        have HB : Aside0 (Below W.heap.size W wr) := Aside0.mk hb
        have HRo : Aside0 (RowI wr W.heap.size (.slice A3 (listS (l.take j) ++ (listOf x).take k).length c3) (listS (l.take j) ++ (listOf x).take k)) := Aside0.mk hRo
        have HBX : Aside0 (wr.heap[gb]? = some (.cells #[.int .i64 x.lo, .int .i64 x.hi] 47 (0, 0))) := Aside0.mk hbx
        have hxo := HXO.out
        have hlen := listS_take_len HW.out j k x HQ.out.2.1
        have HLN := Aside0.mk (And.intro hlen hk)
        obtain ⟨e1, e2⟩ := cell2 HBX.out
        clear hRo hb hbx hlen
        by_cases hle : x.lo + (k : Int) ≤ x.hi
        · have hwk : IntKind.i64.wrap (x.lo + (k : Int) + 1) = x.lo + (k : Int) + 1 := by rw [IntKind.wrap_i64]; omega
          have HLE := Aside0.mk (And.intro hle hxo)
          clear hxo hk
          generalize hm : x.lo + (k : Int) = y at hle hwk ⊢
          have HM := Aside0.mk hm
          clear hm
          go_wp2_with (at_builtin; refine append_int W.heap.size rfl _ _ rfl (.slice A3 (listS (l.take j) ++ (listOf x).take k).length c3) (listS (l.take j) ++ (listOf x).take k) [y] rfl (HRo.out.below (below_alloc (Below.refl _ _) _)) wr.heap.size (0, 0) 1 1 rfl rfl (blk_new wr _) (by have := HB.out.size; simp; omega) (by have := HLN.out.1; simp only [List.length_cons, List.length_nil]; omega) ?_; intro A4 c4 w4 h4 g4; obtain ⟨n4, hn4⟩ : ∃ n, n = (listS (l.take j) ++ (listOf x).take k ++ [y]).length := ⟨_, rfl⟩; rw [← hn4] at h4 ⊢; have HN4 := Aside0.mk hn4; clear hn4; have HR4 := Aside0.mk h4; have HB4 := Aside0.mk ((below_alloc HB.out (.cells #[.int .i64 y] 3)).grown g4 (by have := HB.out.size; simp; omega) (fun k hk => own_base (HRo.out) k hk)); have HX4 := Aside0.mk (blk_grown (blk_alloc HBX.out _) g4 (fun he => by obtain ⟨cc, hcc⟩ := own_typed (HRo.out) gb he.symm; rw [HBX.out] at hcc; injection hcc with hcc; injection hcc with _ hcc; exact absurd hcc (by decide))); clear h4 g4)
          have hle2 := HLE.out
          have hM := HM.out
          have hkk : k < (x.hi - x.lo + 1).toNat := by omega
          have htk := listOf_take x k hkk
          rw [hM] at htk
          have hh : listS (l.take j) ++ (listOf x).take (k + 1) = listS (l.take j) ++ (listOf x).take k ++ [y] := by rw [htk, List.append_assoc]
          go_roundw
          case rel => exact ⟨k + 1, A4, c4, by omega, by go_num, by rw [hh, ← HN4.out], by rw [hh]; exact HR4.out, HB4.out, HX4.out⟩
          case measure => simp [intOf]; omega
        · have hke : k = (listOf x).length := by rw [listOf_len]; omega
          subst hke
          have hh : listS (l.take (j + 1)) = listS (l.take j) ++ (listOf x).take (listOf x).length := by rw [list_take l j x HQ.out.2.1, List.take_length]
          have HH := Aside0.mk hh
          have hwj := HQ.out.2.2
          clear hxo hk hh HLN HXO
          go_wp2_with fail
          have hj1 := HQ.out.1
          have hh := HH.out
          go_roundw
          case rel => exact ⟨j + 1, A3, c3, by omega, by go_num, by rw [hh], by rw [hh]; exact HRo.out, HB.out⟩
          case measure => simp [intOf]; omega
    · have hje : j = l.length := by omega
      subst hje
      rw [List.take_length] at HRo ⊢
      clear hj
      go_wp2_with fail
      go_ret
      exact ⟨A2, c2, rfl, HRo.out, HB.out⟩
end Go.Proofs.Ytmcecmcnbhhniaa.G
