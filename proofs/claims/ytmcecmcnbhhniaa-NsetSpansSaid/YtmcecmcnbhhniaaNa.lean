/- Sets in memory; all, sort.Search, at, Has. Each contract names its state. -/
import Derived.Test.YtmcecmcnbhhniaaGx0
import Derived.Test.YtmcecmcnbhhniaaBase
import Derived.Test.YtmcecmcnbhhniaaPb
set_option linter.unusedVariables false
set_option linter.unusedSimpArgs false
namespace Go.Proofs.Ytmcecmcnbhhniaa.G
open Go.RowKit Go.Proofs.Ytmcecmcnbhhniaa.B Go.Proofs.YtmcecmcnbhhniaaW.PrintWords Go.Proofs.YtmcecmcnbhhniaaW.PrintLast Go.Proofs.YtmcecmcnbhhniaaW.PrintMore

def spc (x : Sp) : List Value := [.int .i64 x.lo, .int .i64 x.hi]
def encP (l : List Sp) : List Value := l.flatMap spc
theorem encP_length (l : List Sp) : (encP l).length = l.length * 2 := by
  induction l with
  | nil => rfl
  | cons x l ih => simp only [encP, List.flatMap_cons, List.length_append, List.length_cons] at ih ⊢; simp only [spc, List.length_cons, List.length_nil]; omega
theorem encP_append (l m : List Sp) : encP (l ++ m) = encP l ++ encP m := by simp [encP]
theorem encP_cons (x : Sp) (l : List Sp) : encP (x :: l) = spc x ++ encP l := by simp [encP]
theorem encP_get {l : List Sp} {i : Nat} {x : Sp} (hi : l[i]? = some x) : (encP l)[i * 2]? = some (.int .i64 x.lo) ∧ (encP l)[i * 2 + 1]? = some (.int .i64 x.hi) := by
  induction l generalizing i with
  | nil => simp at hi
  | cons y l ih =>
    rw [encP_cons]
    cases i with
    | zero =>
      obtain rfl : y = x := by simpa using hi
      exact ⟨rfl, rfl⟩
    | succ i =>
      have := ih (i := i) (by simpa using hi)
      rw [List.getElem?_append_right (by simp [spc]; omega), List.getElem?_append_right (by simp [spc]; omega)]
      rw [show (i + 1) * 2 - (spc y).length = i * 2 by simp [spc]; omega, show (i + 1) * 2 + 1 - (spc y).length = i * 2 + 1 by simp [spc]; omega]
      exact this
theorem encP_take (l : List Sp) (i : Nat) : (encP l).take (i * 2) = encP (l.take i) := by
  induction l generalizing i with
  | nil => simp [encP]
  | cons x l ih =>
    cases i with
    | zero => simp [encP]
    | succ i =>
      rw [List.take_succ_cons, encP_cons, encP_cons, ← ih i, show (i + 1) * 2 = i * 2 + 2 by omega]
      rfl
theorem encP_drop (l : List Sp) (i : Nat) : (encP l).drop (i * 2) = encP (l.drop i) := by
  induction l generalizing i with
  | nil => simp [encP]
  | cons x l ih =>
    cases i with
    | zero => simp [encP]
    | succ i =>
      rw [List.drop_succ_cons, encP_cons, ← ih i, show (i + 1) * 2 = i * 2 + 2 by omega]
      rfl
/-- A row of spans. -/
def RowS (W : World) (b : Nat) (v : Value) (l : List Sp) : Prop := W.ownsRow b 47 2 v l.length (encP l)
/-- What a reader of a row knows. -/
def Reads (W : World) (A : Option Addr) (l : List Sp) : Prop := ∀ (i : Nat) (x : Sp), l[i]? = some x → ∃ g, A = some ⟨g, 0, none⟩ ∧ W.cell? ⟨g, i * 2, none⟩ = some (.int .i64 x.lo) ∧ W.cell? ⟨g, i * 2 + 1, none⟩ = some (.int .i64 x.hi)
theorem RowS.form {W : World} {b : Nat} {v : Value} {l : List Sp} (h : RowS W b v l) : ∃ A c, v = .slice A l.length c ∧ l.length ≤ c ∧ c ≤ 9223372036854775807 ∧ Reads W A l := by
  rcases h.2 with ⟨hv, h1⟩ | ⟨g, cap, cur, hv, hg, hh, hc, hm, hs, ht⟩
  · exact ⟨none, 0, by rw [hv, h1], by omega, by omega, fun i x hx => by have := (List.getElem?_eq_some_iff.1 hx).1; omega⟩
  · subst hv
    refine ⟨_, cap, rfl, hc, by unfold maxLen at hm; omega, fun i x hx => ⟨g, rfl, ?_⟩⟩
    have hl := (List.getElem?_eq_some_iff.1 hx).1
    obtain ⟨h1, h2⟩ := encP_get hx
    exact ⟨by rw [World.ownsRow.cellAt h (i * 2) (by omega)]; exact h1, by rw [World.ownsRow.cellAt h (i * 2 + 1) (by omega)]; exact h2⟩
theorem Reads.mono {W W' : World} {A : Option Addr} {l : List Sp} (h : Reads W A l) (hb : Below W.heap.size W W') : Reads W' A l := fun i x hx => by
  obtain ⟨g, hA, h1, h2⟩ := h i x hx
  exact ⟨g, hA, (hb.cell (p := ⟨g, i * 2, none⟩) (World.block_lt_of_cell? _ _ h1)).trans h1, (hb.cell (p := ⟨g, i * 2 + 1, none⟩) (World.block_lt_of_cell? _ _ h2)).trans h2⟩
/-- A set at gs; its row's block is R. -/
structure SetAt (b : Nat) (W : World) (gs : Nat) (R : Option Nat) (l : List Sp) : Prop where
  box : ∃ v, W.heap[gs]? = some (.cells #[v] 43 (0, 0)) ∧ RowS W b v l ∧ v.ownBlock = R
  base : b ≤ gs
theorem SetAt.form {b : Nat} {W : World} {gs : Nat} {R : Option Nat} {l : List Sp} (h : SetAt b W gs R l) : ∃ A c, W.heap[gs]? = some (.cells #[.slice A l.length c] 43 (0, 0)) ∧ l.length ≤ c ∧ c ≤ 9223372036854775807 ∧ Reads W A l := by
  obtain ⟨v, h1, h2, h3⟩ := h.box
  obtain ⟨A, c, rfl, hc, hm, hr⟩ := h2.form
  exact ⟨A, c, h1, hc, hm, hr⟩
theorem SetAt.own {b : Nat} {W : World} {gs : Nat} {R : Option Nat} {l : List Sp} (h : SetAt b W gs R l) : ∀ k, R = some k → ∃ c, W.heap[k]? = some (.cells c 47 (0, 0)) ∧ b ≤ k := by
  obtain ⟨v, h1, h2, h3⟩ := h.box
  subst h3
  intro k hk
  obtain ⟨c, hc⟩ := own_typed h2 k hk
  exact ⟨c, hc, own_base h2 k hk⟩
theorem SetAt.keep {b : Nat} {W W' : World} {gs : Nat} {R : Option Nat} {l : List Sp} {S : Nat → Prop} (h : SetAt b W gs R l) (hk : Kp W W' S) (hs : ¬ S gs) (hr : ∀ k, R = some k → ¬ S k) : SetAt b W' gs R l := by
  obtain ⟨v, h1, h2, h3⟩ := h.box
  subst h3
  refine ⟨⟨v, blk_kp h1 hk hs, own_move h2 (fun k hk' => ?_), rfl⟩, h.base⟩
  obtain ⟨c, hc⟩ := own_typed h2 k hk'
  exact hk.block k (blk_lt hc) (hr k hk')
theorem SetAt.below {b : Nat} {W W' : World} {gs : Nat} {R : Option Nat} {l : List Sp} (h : SetAt b W gs R l) (hb : Below W.heap.size W W') : SetAt b W' gs R l := h.keep (Kp.of_below hb (fun _ => False)) (fun h => h) (fun _ _ h => h)
theorem SetAt.lt {b : Nat} {W : World} {gs : Nat} {R : Option Nat} {l : List Sp} (h : SetAt b W gs R l) : gs < W.heap.size := by
  obtain ⟨v, h1, _⟩ := h.box
  exact blk_lt h1
theorem all_calls {W : World} {gs : Nat} {A : Option Addr} {n c : Nat} (h1 : W.heap[gs]? = some (.cells #[.slice A n c] 43 (0, 0))) :
    Calls Try.prog 28 #[.pointer (some ⟨gs, 0, none⟩)] W fun e w' => e = .returned (.slice A n c) ∧ w' = W := by
  have h0 := cell1 h1
  go_enter Try.func28, Try.ntmps28
  go_wp2
  go_ret
  exact ⟨rfl, rfl⟩
theorem all_nil (W : World) : Calls Try.prog 28 #[.pointer none] W fun e w' => e = .returned (.slice none 0 0) ∧ w' = W := by
  go_enter Try.func28, Try.ntmps28
  go_wp2
  go_ret
  exact ⟨rfl, rfl⟩
set_option maxHeartbeats 4000000 in
theorem search_calls (p1 p2 : Value) (n k : Nat) (p : Nat → Bool) (w : World) (hn : n ≤ 2000000)
    (hf : ∀ (W : World) (i : Nat), Below w.heap.size w W → i < n → Calls Try.prog 34 #[.int .i64 i, p1, p2] W fun e w' => e = .returned (.bool (p i)) ∧ Below W.heap.size W w')
    (hk : k ≤ n) (h1 : ∀ i, i < k → p i = false) (h2 : ∀ i, k ≤ i → i < n → p i = true) :
    Calls Try.prog 33 #[.int .i64 n, .func (.func 34) #[] #[p1, p2]] w fun e w' => e = .returned (.int .i64 (k : Int)) ∧ Below w.heap.size w w' := by
  have HF := Aside0.mk hf
  have HP := Aside0.mk (And.intro hk (And.intro h1 h2))
  have HN := Aside0.mk hn
  clear hf hk h1 h2 hn
  go_enter Try.func33, Try.ntmps33
  go_upto_block 0 with (fail)
  go_wp2_with fail
  go_loopw [5, 6] (fun i j wx => ∃ a c : Nat, i = .int .i64 (a : Int) ∧ j = .int .i64 (c : Int) ∧ a ≤ k ∧ k ≤ c ∧ c ≤ n ∧ Hid (Below w.heap.size w wx)) (fun i j _ => ((intOf j) - (intOf i)).toNat)
  case atStart => exact ⟨0, n, rfl, rfl, Nat.zero_le _, HP.out.1, Nat.le_refl _, Below.refl _ _⟩
  case round =>
    obtain ⟨a, c, rfl, rfl, ha, hc, hcn, hb⟩ := hrel
    have HB := Aside0.mk hb
    have HN2 := HN.out
    clear hb
    by_cases hlt : (a : Int) < (c : Int)
    · have hlt' : a < c := by omega
      have hcall := HF.out wr ((a + c) / 2) HB.out (by omega)
      rw [show (((a + c) / 2 : Nat) : Int) = ((a : Int) + (c : Int)) / 2 by omega] at hcall
      cases hp : p ((a + c) / 2) with
      | true =>
        rw [hp] at hcall
        have hle : k ≤ (a + c) / 2 := Nat.not_lt.1 (fun h => by have := HP.out.2.1 _ h; rw [hp] at this; cases this)
        have HC := Aside0.mk hcall
        have HL := Aside0.mk (And.intro ha (And.intro hc (And.intro hcn (And.intro hle hlt'))))
        have hcn2 : c ≤ 2000000 := by omega
        clear hcall hp hle ha hc hcn HN2
        go_wp2_with (go_at_call 34; refine HC.out.mono ?_; rintro e wn ⟨rfl, hk⟩; replace HB := Aside0.mk (below_step HB.out hk); clear hk)
        obtain ⟨ha, hc, hcn, hle, hlt'⟩ := HL.out
        go_roundw
        case rel => exact ⟨a, (a + c) / 2, rfl, by rw [show (((a + c) / 2 : Nat) : Int) = ((a : Int) + (c : Int)) / 2 by omega], ha, hle, by omega, HB.out⟩
        case measure => simp [intOf]; omega
      | false =>
        rw [hp] at hcall
        have hle : (a + c) / 2 < k := Nat.not_le.1 (fun h => by have := HP.out.2.2 _ h (by omega); rw [hp] at this; cases this)
        have HC := Aside0.mk hcall
        have HL := Aside0.mk (And.intro ha (And.intro hc (And.intro hcn (And.intro hle hlt'))))
        have hcn2 : c ≤ 2000000 := by omega
        clear hcall hp hle ha hc hcn HN2
        go_wp2_with (go_at_call 34; refine HC.out.mono ?_; rintro e wn ⟨rfl, hk⟩; replace HB := Aside0.mk (below_step HB.out hk); clear hk)
        obtain ⟨ha, hc, hcn, hle, hlt'⟩ := HL.out
        go_roundw
        case rel => exact ⟨(a + c) / 2 + 1, c, by rw [show (((a + c) / 2 + 1 : Nat) : Int) = ((a : Int) + (c : Int)) / 2 + 1 by omega], rfl, hle, hc, hcn, HB.out⟩
        case measure => simp [intOf]; omega
    · have hak : a = k := by omega
      subst hak
      go_wp2_with fail
      go_ret
      exact ⟨rfl, HB.out⟩
/-- The closure of at: does span i end at n or behind it? -/
theorem pred_calls {W : World} {g5 g3 c i : Nat} {A : Option Addr} {l : List Sp} {n : Int} {x : Sp} (h5 : W.heap[g5]? = some (.cells #[.slice A l.length c] 41 (0, 0))) (h3 : W.heap[g3]? = some (.cells #[.int .i64 n] 3 (0, 0))) (hr : Reads W A l) (hx : l[i]? = some x) :
    Calls Try.prog 34 #[.int .i64 i, .pointer (some ⟨g5, 0, none⟩), .pointer (some ⟨g3, 0, none⟩)] W fun e w' => e = .returned (.bool (decide (n ≤ x.hi))) ∧ Below W.heap.size W w' := by
  have c5 := cell1 h5
  have c3 := cell1 h3
  have hi : (i : Int) < (l.length : Int) := by have := (List.getElem?_eq_some_iff.1 hx).1; omega
  obtain ⟨g, rfl, c1, c2⟩ := hr i x hx
  have hb := Aside0.mk (below_drew (Below.refl W.heap.size W))
  clear h5 h3 hr hx
  go_enter Try.func34, Try.ntmps34
  go_upto_region 1 with (fail)
  go_still (by kernel_rfl)
  change Exit.then _ _ _ _ W.drew
  go_wp2_with fail
  go_ret
  exact ⟨rfl, hb.out⟩
def pAt (l : List Sp) (n : Int) (i : Nat) : Bool := match l[i]? with | some x => decide (n ≤ x.hi) | none => true
theorem search_at {W : World} {g5 g3 c : Nat} {A : Option Addr} {l : List Sp} {n : Int} (hw : WF l) (h5 : W.heap[g5]? = some (.cells #[.slice A l.length c] 41 (0, 0))) (h3 : W.heap[g3]? = some (.cells #[.int .i64 n] 3 (0, 0))) (hr : Reads W A l) :
    Calls Try.prog 33 #[.int .i64 l.length, .func (.func 34) #[] #[.pointer (some ⟨g5, 0, none⟩), .pointer (some ⟨g3, 0, none⟩)]] W fun e w' => e = .returned (.int .i64 (atS l n : Int)) ∧ Below W.heap.size W w' := by
  obtain ⟨a1, a2⟩ := at_split hw n
  refine search_calls _ _ l.length (atS l n) (pAt l n) W (by have := len_le hw; omega) (fun W' i hb hi => ?_) (atS_le l n) (fun i hi => ?_) (fun i hi hl => ?_)
  · have hx : l[i]? = some l[i] := List.getElem?_eq_getElem hi
    have := pred_calls (n := n) (blk_below h5 hb) (blk_below h3 hb) (hr.mono hb) hx
    unfold pAt
    rw [hx]
    exact this
  · have hl : i < l.length := Nat.lt_of_lt_of_le hi (atS_le l n)
    unfold pAt
    rw [List.getElem?_eq_getElem hl]
    have := a1 l[i] (List.mem_iff_getElem?.2 ⟨i, by rw [List.getElem?_take]; simp [hi, List.getElem?_eq_getElem hl]⟩)
    exact decide_eq_false (by omega)
  · unfold pAt
    rw [List.getElem?_eq_getElem hl]
    have := a2 l[i] (List.mem_iff_getElem?.2 ⟨i - atS l n, by rw [List.getElem?_drop, show atS l n + (i - atS l n) = i by omega, List.getElem?_eq_getElem hl]⟩)
    exact decide_eq_true this
theorem at_calls {b : Nat} {W : World} {gs : Nat} {R : Option Nat} {l : List Sp} (h : SetAt b W gs R l) (hw : WF l) (n : Int) :
    Calls Try.prog 29 #[.pointer (some ⟨gs, 0, none⟩), .int .i64 n] W fun e w' => e = .returned (.int .i64 (atS l n : Int)) ∧ Below W.heap.size W w' := by
  obtain ⟨A, c, hbox, hlc, hc9, hr⟩ := h.form
  have HR := Aside0.mk hr
  have HW := Aside0.mk hw
  have HX := Aside0.mk hbox
  have hlt : gs < W.heap.size := blk_lt hbox
  have HL := Aside0.mk hlt
  clear h hbox hr hw hlt hlc hc9
  go_enter Try.func29, Try.ntmps29
  go_upto_region 2 with (go_at_call 28; refine (all_calls (W := W.alloc (.cells #[.int .i64 n] 3)) (blk_alloc HX.out _)).mono ?_; rintro e wn ⟨rfl, rfl⟩)
  have hb1 := below_alloc (Below.refl W.heap.size W) (.cells #[.int .i64 n] 3)
  have hb2 := below_alloc hb1 (.cells #[.slice A l.length c] 41)
  have h3 : ((W.alloc (.cells #[.int .i64 n] 3)).alloc (.cells #[.slice A l.length c] 41)).heap[W.heap.size]? = some (.cells #[.int .i64 n] 3 (0, 0)) := blk_alloc (blk_new W _) _
  have h5 : ((W.alloc (.cells #[.int .i64 n] 3)).alloc (.cells #[.slice A l.length c] 41)).heap[W.heap.size + 1]? = some (.cells #[.slice A l.length c] 41 (0, 0)) := by
    have := blk_new (W.alloc (.cells #[.int .i64 n] 3)) (.cells #[.slice A l.length c] 41)
    simpa using this
  have HR2 := Aside0.mk (HR.out.mono hb2)
  have HB := Aside0.mk hb2
  have c5 := cell1 h5
  have HS := Aside0.mk (search_at HW.out h5 h3 HR2.out)
  clear hb1 hb2 h3 h5 HR HR2
  generalize ((W.alloc (.cells #[.int .i64 n] 3)).alloc (.cells #[.slice A l.length c] 41)) = wn at HB HS c5 ⊢
  go_wp2_with (go_at_call 33; refine HS.out.mono ?_; rintro e w2 ⟨rfl, hk⟩; replace HB := Aside0.mk (below_step HB.out hk); clear hk)
  go_ret
  exact ⟨rfl, HB.out⟩
theorem at_nil (n : Int) (W : World) :
    Calls Try.prog 29 #[.pointer none, .int .i64 n] W fun e w' => e = .returned (.int .i64 0) ∧ Below W.heap.size W w' := by
  go_enter Try.func29, Try.ntmps29
  go_upto_region 2 with (go_at_call 28; refine (all_nil (W.alloc (.cells #[.int .i64 n] 3))).mono ?_; rintro e wn ⟨rfl, rfl⟩)
  have hb1 := below_alloc (Below.refl W.heap.size W) (.cells #[.int .i64 n] 3)
  have hb2 := below_alloc hb1 (.cells #[.slice none 0 0] 41)
  have h3 : ((W.alloc (.cells #[.int .i64 n] 3)).alloc (.cells #[.slice none 0 0] 41)).heap[W.heap.size]? = some (.cells #[.int .i64 n] 3 (0, 0)) := blk_alloc (blk_new W _) _
  have h5 : ((W.alloc (.cells #[.int .i64 n] 3)).alloc (.cells #[.slice none 0 0] 41)).heap[W.heap.size + 1]? = some (.cells #[.slice none 0 0] 41 (0, 0)) := by
    have := blk_new (W.alloc (.cells #[.int .i64 n] 3)) (.cells #[.slice none 0 0] 41)
    simpa using this
  have HB := Aside0.mk hb2
  have c5 := cell1 h5
  have HS := Aside0.mk (search_at (l := []) WF.nil h5 h3 (fun i x hx => by simp at hx))
  clear hb1 hb2 h3 h5
  generalize ((W.alloc (.cells #[.int .i64 n] 3)).alloc (.cells #[.slice none 0 0] 41)) = wn at HB HS c5 ⊢
  go_wp2_with (go_at_call 33; refine HS.out.mono ?_; rintro e w2 ⟨rfl, hk⟩; replace HB := Aside0.mk (below_step HB.out hk); clear hk)
  go_ret
  exact ⟨rfl, HB.out⟩
theorem has_nil (n : Int) (W : World) :
    Calls Try.prog 16 #[.pointer none, .int .i64 n] W fun e w' => e = .returned (.bool false) ∧ Below W.heap.size W w' := by
  go_enter Try.func16, Try.ntmps16
  go_wp2_with (first | (go_at_call 29; refine (at_nil n _).mono ?_; rintro e wn ⟨rfl, hk⟩; have HB := Aside0.mk hk; clear hk) | (go_at_call 28; refine (all_nil _).mono ?_; rintro e wm ⟨rfl, rfl⟩))
  go_ret
  exact ⟨rfl, HB.out⟩
theorem has_calls {b : Nat} {W : World} {gs : Nat} {R : Option Nat} {l : List Sp} (h : SetAt b W gs R l) (hw : WF l) (n : Int) :
    Calls Try.prog 16 #[.pointer (some ⟨gs, 0, none⟩), .int .i64 n] W fun e w' => e = .returned (.bool (hasS l n)) ∧ Below W.heap.size W w' := by
  have hle := atS_le l n
  have HS := Aside0.mk h
  have HW := Aside0.mk hw
  clear h hw
  cases hx : l[atS l n]? with
  | none =>
    have hln : l.length ≤ atS l n := List.getElem?_eq_none_iff.1 hx
    have hh : hasS l n = false := by unfold hasS; rw [hx]
    rw [hh]
    have hk0 : ((l.length : Int) ≤ (atS l n : Int)) := by omega
    clear hh hx hle hln
    go_enter Try.func16, Try.ntmps16
    go_upto_region 2 with (go_at_call 29; refine (at_calls HS.out HW.out n).mono ?_; rintro e wn ⟨rfl, hk⟩; replace HS := Aside0.mk (HS.out.below hk); have HB := Aside0.mk hk; clear hk)
    obtain ⟨A, c, hbox, hlc, hc9, hr⟩ := HS.out.form
    have HX := Aside0.mk hbox
    clear hbox hlc hc9 hr
    go_wp2_with (go_at_call 28; refine (all_calls HX.out).mono ?_; rintro e wm ⟨rfl, rfl⟩)
    go_ret
    exact ⟨rfl, HB.out⟩
  | some x =>
    obtain ⟨hlt, hxe⟩ := List.getElem?_eq_some_iff.1 hx
    have hh : hasS l n = decide (x.lo ≤ n) := by unfold hasS; rw [hx]
    rw [hh]
    have hk0 : ((atS l n : Int) < (l.length : Int)) := by omega
    have HXX := Aside0.mk hx
    clear hh hx hle hlt hxe
    go_enter Try.func16, Try.ntmps16
    go_upto_region 2 with (go_at_call 29; refine (at_calls HS.out HW.out n).mono ?_; rintro e wn ⟨rfl, hk⟩; replace HS := Aside0.mk (HS.out.below hk); have HB := Aside0.mk hk; clear hk)
    obtain ⟨A, c, hbox, hlc, hc9, hr⟩ := HS.out.form
    obtain ⟨g, rfl, c1, c2⟩ := hr _ x HXX.out
    have HX := Aside0.mk hbox
    have c0 := cell1 hbox
    clear hbox hlc hc9 hr
    generalize atS l n = k at c1 c2 hk0 ⊢
    go_wp2_with (go_at_call 28; refine (all_calls HX.out).mono ?_; rintro e wm ⟨rfl, rfl⟩)
    go_ret
    exact ⟨rfl, HB.out⟩
end Go.Proofs.Ytmcecmcnbhhniaa.G
