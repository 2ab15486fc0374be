/- well, and what a Mem of one block tells. No condition. -/
import Derived.Test.YteogfjhmjlelnaaMs
set_option linter.unusedVariables false
set_option linter.unusedSimpArgs false
namespace Go.Proofs.Yteogfjhmjlelnaa.G
open Go.RowKit Go.Proofs.Yteogfjhmjlelnaa.B Go.Proofs.YteogfjhmjlelnaaW.PrintWords Go.Proofs.YteogfjhmjlelnaaW.PrintLast Go.Proofs.YteogfjhmjlelnaaW.PrintMore

def Well (v : Vl) : Prop := 0 ≤ v.b ∧ 0 ≤ v.f ∧ v.f ≤ 8 ∧ (0 < v.b ∨ v.f = 0)
theorem well_yes (v : Vl) (w : World) (h : Well v) : Calls Try.prog 13 #[.agg #[.int .i64 v.n, .int .i64 v.b, .int .i64 v.f]] w fun e w' => e = .returned (.bool true) ∧ Below w.heap.size w w' := by
  have HB := Aside0.mk (below_alloc (Below.refl w.heap.size w) (.cells #[.int .i64 v.n, .int .i64 v.b, .int .i64 v.f] 23))
  have HX := Aside0.mk (blk_new w (.cells #[.int .i64 v.n, .int .i64 v.b, .int .i64 v.f] 23))
  obtain ⟨h1, h2, h3, h4⟩ := h
  by_cases h5 : 0 < v.b
  · have hx := cell3 HX.out
    clear h4
    go_enter Try.func13, Try.ntmps13
    go_wp2_with fail
    go_ret
    exact ⟨rfl, HB.out⟩
  · have h6 : v.f = 0 := by omega
    have h7 : (v.f == 0) = true := by simp [h6]
    have h8 : v.b ≤ 0 := by omega
    have hx := cell3 HX.out
    clear h4 h6
    go_enter Try.func13, Try.ntmps13
    go_wp2_with fail
    go_ret
    exact ⟨rfl, HB.out⟩
theorem well_no (v : Vl) (w : World) (h : ¬ Well v) : Calls Try.prog 13 #[.agg #[.int .i64 v.n, .int .i64 v.b, .int .i64 v.f]] w fun e w' => e = .returned (.bool false) ∧ Below w.heap.size w w' := by
  have HB := Aside0.mk (below_alloc (Below.refl w.heap.size w) (.cells #[.int .i64 v.n, .int .i64 v.b, .int .i64 v.f] 23))
  have HX := Aside0.mk (blk_new w (.cells #[.int .i64 v.n, .int .i64 v.b, .int .i64 v.f] 23))
  have hx := cell3 HX.out
  by_cases h1 : 0 ≤ v.b
  · by_cases h2 : 0 ≤ v.f
    · by_cases h3 : v.f ≤ 8
      · by_cases h5 : 0 < v.b
        · exact absurd ⟨h1, h2, h3, .inl h5⟩ h
        · have h8 : v.b ≤ 0 := by omega
          have h7 : (v.f == 0) = false := beq_eq_false_iff_ne.mpr (fun he => h ⟨h1, h2, h3, .inr he⟩)
          clear h h5
          go_enter Try.func13, Try.ntmps13
          go_wp2_with fail
          go_ret
          exact ⟨ret_bool (by simpa using h8), HB.out⟩
      · have h3' : 8 < v.f := by omega
        clear h h3
        go_enter Try.func13, Try.ntmps13
        go_wp2_with fail
        go_ret
        exact ⟨rfl, HB.out⟩
    · have h3' : v.f < 0 := by omega
      clear h h2
      go_enter Try.func13, Try.ntmps13
      go_wp2_with fail
      go_ret
      exact ⟨rfl, HB.out⟩
  · have h3' : v.b < 0 := by omega
    clear h h1
    go_enter Try.func13, Try.ntmps13
    go_wp2_with fail
    go_ret
    exact ⟨rfl, HB.out⟩
/-- A Mem of one block. -/
def one (site : Int) (l : List Bt) : List Mb := [⟨site, l, true⟩]
theorem one_ok {site : Int} {l : List Bt} {n k : Int} (h0 : 0 ≤ n) (hk : 0 ≤ k) (hk2 : k ≤ 4096) (h1 : n ≤ (l.length : Int) - k) : okS (one site l) (vat n) k = some ⟨site, l, true⟩ := by
  unfold okS vat one
  simp [h0, hk, hk2, h1]
theorem one_no {site : Int} {l : List Bt} {n k : Int} (h : ¬ (0 ≤ n ∧ 0 ≤ k ∧ k ≤ 4096 ∧ n ≤ (l.length : Int) - k)) : okS (one site l) (vat n) k = none := by
  cases hm : okS (one site l) (vat n) k with
  | none => rfl
  | some m =>
    exfalso
    obtain ⟨a1, a2, a3, a4, a5, a6, _⟩ := okS_spec hm
    have : m = ⟨site, l, true⟩ := by
      have h6 : (one site l)[(1 : Int).toNat - 1]? = some m := a6
      simpa [one] using h6.symm
    subst this
    exact h ⟨a3, a1, a2, a4⟩
theorem one_put (site : Int) (l : List Bt) (n : Int) (seg : List Bt) : putS (one site l) (vat n) seg = one site (over l n.toNat seg) := rfl
theorem over_seg {l : List Bt} {i : Nat} {seg : List Bt} (h : i + seg.length ≤ l.length) : ((over l i seg).drop i).take seg.length = seg := by
  unfold over
  rw [List.append_assoc, List.drop_append_of_le_length (by rw [List.length_take]; omega), List.drop_eq_nil_of_le (by rw [List.length_take]; omega), List.nil_append, List.take_left]
theorem over_get {l : List Bt} {i : Nat} {seg : List Bt} (h : i + seg.length ≤ l.length) (j : Nat) : (over l i seg)[j]? = if j < i then l[j]? else if j < i + seg.length then seg[j - i]? else l[j]? := by
  unfold over
  have h1 : (l.take i).length = i := by rw [List.length_take]; omega
  split
  · rw [List.append_assoc, List.getElem?_append_left (by omega), List.getElem?_take_of_lt (by omega)]
  · split
    · rw [List.append_assoc, List.getElem?_append_right (by omega), h1, List.getElem?_append_left (by omega)]
    · rw [List.getElem?_append_right (by rw [List.length_append]; omega), List.length_append, h1, List.getElem?_drop]
      congr 1
      omega
theorem seg_one {l : List Bt} {n : Nat} {x : Bt} (h : l[n]? = some x) : (l.drop n).take 1 = [x] := by
  obtain ⟨h1, rfl⟩ := List.getElem?_eq_some_iff.1 h
  rw [List.drop_eq_getElem_cons h1]
  rfl
theorem load_one {site : Int} {l : List Bt} {n : Int} {x : Bt} (h0 : 0 ≤ n) (hn : (l.length : Int) ≤ 4096) (h : l[n.toNat]? = some x) : loadS (one site l) (vat n) 1 = loadR 1 [x] := by
  have h1 := (List.getElem?_eq_some_iff.1 h).1
  unfold loadS
  rw [if_pos (show isW 1 = true from rfl), one_ok h0 (by decide) (by decide) (by omega)]
  show loadR 1 ((l.drop n.toNat).take 1) = _
  rw [seg_one h]
theorem load_out {site : Int} {l : List Bt} {n : Int} {k : Int} (hk : isW k = true) (h : ¬ (0 ≤ n ∧ n ≤ (l.length : Int) - k)) : loadS (one site l) (vat n) k = (⟨0, 0, 0⟩, 9) := by
  unfold loadS
  rw [if_pos hk, one_no (fun hh => h ⟨hh.1, hh.2.2.2⟩)]
theorem byte_num (v : Int) (p : Vl) : loadR 1 [⟨1, v, p⟩] = (⟨wrap64 v, 0, 0⟩, 0) := by
  simp [loadR, numB, nOf]
theorem byte_part (v : Int) (p : Vl) : loadR 1 [⟨2, v, p⟩] = (p, 0) := by
  simp [loadR, numB, partB]
theorem byte_none (v : Int) (p : Vl) : loadR 1 [⟨0, v, p⟩] = (⟨0, 0, 0⟩, 9) := by
  simp [loadR, numB, partB]
end Go.Proofs.Yteogfjhmjlelnaa.G
