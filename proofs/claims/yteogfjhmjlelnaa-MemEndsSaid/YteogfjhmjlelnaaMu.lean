/- The reference's Same of two equal rows of bytes; a row told earlier stays. No condition. -/
import Derived.Test.YteogfjhmjlelnaaMr
import Derived.Test.YteogfjhmjlelnaaMs
set_option linter.unusedVariables false
set_option linter.unusedSimpArgs false
namespace Go.Proofs.Yteogfjhmjlelnaa.G
open Go.RowKit Go.Proofs.Yteogfjhmjlelnaa.B Go.Proofs.YteogfjhmjlelnaaW.PrintWords Go.Proofs.YteogfjhmjlelnaaW.PrintLast Go.Proofs.YteogfjhmjlelnaaW.PrintMore

/-- A row of bytes. -/
def Row (W : World) (b : Nat) (v : Value) (l : List Bt) : Prop := W.ownsRow b 42 5 v l.length (encB l)
theorem Row.form {W : World} {b : Nat} {v : Value} {l : List Bt} (h : Row W b v l) : ∃ A c, v = .slice A l.length c ∧ l.length ≤ 9223372036854775807 ∧ ∀ i x, l[i]? = some x → ∃ g, A = some ⟨g, 0, none⟩ ∧
    W.cell? ⟨g, i * 5, none⟩ = some (.int .i64 x.k) ∧ W.cell? ⟨g, i * 5 + 1, none⟩ = some (.int .u8 x.v) ∧ W.cell? ⟨g, i * 5 + 2, none⟩ = some (.int .i64 x.p.n) ∧ W.cell? ⟨g, i * 5 + 3, none⟩ = some (.int .i64 x.p.b) ∧ W.cell? ⟨g, i * 5 + 4, none⟩ = some (.int .i64 x.p.f) := by
  rcases h.2 with ⟨hv, h1⟩ | ⟨g, cap, cur, hv, hg, hh, hc, hm, hs, ht⟩
  · exact ⟨none, 0, by rw [hv, h1], by omega, fun i x hx => by have := (List.getElem?_eq_some_iff.1 hx).1; omega⟩
  · subst hv
    refine ⟨_, cap, rfl, by unfold maxLen at hm; omega, fun i x hx => ⟨g, rfl, ?_⟩⟩
    have hl := (List.getElem?_eq_some_iff.1 hx).1
    have hg : ∀ j u, x.cells[j]? = some u → W.cell? ⟨g, i * 5 + j, none⟩ = some u := fun j u hu => by
      have hj : j < 5 := by have := (List.getElem?_eq_some_iff.1 hu).1; simpa [Bt.cells] using this
      rw [World.ownsRow.cellAt h (i * 5 + j) (by omega)]
      exact encB_get hx hu
    exact ⟨hg 0 _ rfl, hg 1 _ rfl, hg 2 _ rfl, hg 3 _ rfl, hg 4 _ rfl⟩
theorem Row.below {W W' : World} {b : Nat} {v : Value} {l : List Bt} (h : Row W b v l) (hb : Below W.heap.size W W') : Row W' b v l :=
  own_move h (fun k hk => by obtain ⟨c, hc⟩ := own_typed h k hk; exact hb.block k (blk_lt hc))
theorem Row.fr {W W' : World} {b gm : Nat} {gs : List Nat} {v : Value} {l : List Bt} (h : Row W b v l) (hF : Fr W W' gm gs) (hm : gm < b) (hg : ∀ g ∈ gs, g < b) : Row W' b v l :=
  own_move h (fun k hk => by
    obtain ⟨c, hc⟩ := own_typed h k hk
    have hb := own_base h k hk
    exact hF.block k (blk_lt hc) (Sof.typed hc (by omega) (fun hh => by have := hg k hh; omega) (by decide)))
theorem Holds.lt {w : World} {gm : Nat} {gs : List Nat} {s : List Mb} (h : Holds w gm gs s) : gm < w.heap.size ∧ ∀ g ∈ gs, g < w.heap.size := by
  obtain ⟨v, hM⟩ := h.mem
  refine ⟨blk_lt hM.box, fun g hg => ?_⟩
  obtain ⟨i, hi⟩ := List.mem_iff_getElem?.1 hg
  have hl := (List.getElem?_eq_some_iff.1 hi).1
  exact blk_lt (h.bytes i g _ hi (List.getElem?_eq_getElem (by rw [← h.len]; exact hl))).1
set_option maxHeartbeats 4000000 in
theorem same_calls (l : List Bt) (A1 A2 : Option Addr) (c1 c2 b1 b2 : Nat) (w : World) (h1 : Row w b1 (.slice A1 l.length c1) l) (h2 : Row w b2 (.slice A2 l.length c2) l) :
    Calls Try.prog 22 #[.slice A1 l.length c1, .slice A2 l.length c2] w fun e w' => e = .returned (.bool true) ∧ Below w.heap.size w w' := by
  have H1 := Aside0.mk h1
  have H2 := Aside0.mk h2
  have hml : l.length ≤ 9223372036854775807 := by obtain ⟨_, _, _, h, _⟩ := h1.form; exact h
  clear h1 h2
  go_enter Try.func22, Try.ntmps22
  go_upto_block 0 with (fail)
  go_wp2_with fail
  go_loopw [5] (fun i wx => ∃ j : Nat, j ≤ l.length ∧ i = .int .i64 j ∧ Hid (Below w.heap.size w wx)) (fun i _ => l.length - (intOf i).toNat)
  case atStart => exact ⟨0, Nat.zero_le _, rfl, Below.refl _ _⟩
  case round =>
    obtain ⟨j, hj, rfl, hb⟩ := hrel
    have HB := Aside0.mk hb
    by_cases hlt : j < l.length
    · obtain ⟨_, _, he1, _, hr1⟩ := (H1.out.below HB.out).form
      obtain ⟨_, _, he2, _, hr2⟩ := (H2.out.below HB.out).form
      injection he1 with he1 _ _
      injection he2 with he2 _ _
      subst he1
      subst he2
      obtain ⟨g1, hg1, hc1⟩ := hr1 j _ (List.getElem?_eq_getElem hlt)
      obtain ⟨g2, hg2, hc2⟩ := hr2 j _ (List.getElem?_eq_getElem hlt)
      subst hg1
      subst hg2
      generalize l[j] = x at hc1 hc2
      have hjl : ((j : Int) < (l.length : Int)) := by omega
      have hwj : IntKind.i64.wrap ((j : Int) + 1) = (j : Int) + 1 := by rw [IntKind.wrap_i64]; omega
      clear hr1 hr2 hb
      go_upto_region 6 with (fail)
      go_still (by kernel_rfl)
      change Exit.then _ _ _ _ wr.drew
      have HBD := Aside0.mk (below_drew HB.out)
      clear hc1 hc2
      generalize wr.drew = wd at HBD ⊢
      go_wp2_with fail
      go_roundw
      case rel => exact ⟨j + 1, by omega, by go_num, HBD.out⟩
      case measure => simp [intOf]; omega
    · obtain hjl : j = l.length := by omega
      subst hjl
      clear hb
      go_wp2_with fail
      go_ret
      exact ⟨rfl, HB.out⟩
/-- A Mem that this call made since w: what holds of it now. -/
structure Live (w W : World) (gm : Nat) (gs : List Nat) (s : List Mb) : Prop where
  mine : Mine w.heap.size w W gm gs s
  size : w.heap.size ≤ W.heap.size
/-- A row that a call told earlier. -/
structure Keeps (W : World) (b : Nat) (v : Value) (l : List Bt) (gm : Nat) (gs : List Nat) : Prop where
  row : Row W b v l
  gm_lt : gm < b
  gs_lt : ∀ g ∈ gs, g < b
section
variable {w W W' : World} {gm : Nat} {gs : List Nat} {s : List Mb}
theorem Live.low (h : Live w W gm gs s) (hb : Below W.heap.size W W') : Live w W' gm gs s := ⟨h.mine.low h.size hb, Nat.le_trans h.size hb.size⟩
theorem Live.fr {gs' : List Nat} {s' : List Mb} (h : Live w W gm gs s) (hH : Holds W' gm gs' s') (hF : Fr W W' gm gs) : Live w W' gm gs' s' := ⟨h.mine.fr h.size hH hF, Nat.le_trans h.size hF.size⟩
theorem Live.below (h : Live w W gm gs s) : Below w.heap.size w W := h.mine.below
theorem Keeps.below {b : Nat} {v : Value} {l : List Bt} (h : Keeps W b v l gm gs) (hb : Below W.heap.size W W') : Keeps W' b v l gm gs := ⟨h.row.below hb, h.gm_lt, h.gs_lt⟩
theorem Keeps.fr {b : Nat} {v : Value} {l : List Bt} (h : Keeps W b v l gm gs) (hF : Fr W W' gm gs) : Keeps W' b v l gm gs := ⟨h.row.fr hF h.gm_lt h.gs_lt, h.gm_lt, h.gs_lt⟩
theorem Live.new (w : World) {w0 : World} (hb : Below w0.heap.size w0 w) : Calls Try.prog 11 #[] w fun e w' => e = .returned (.pointer (some ⟨w.heap.size, 0, none⟩)) ∧ Live w0 w' w.heap.size [] [] ∧ Below w.heap.size w w' :=
  (new_holds w).mono fun e w' ⟨h1, h2, h3⟩ => ⟨h1, ⟨⟨h2, below_step hb h3, hb.size⟩, Nat.le_trans hb.size h3.size⟩, h3⟩
theorem Live.alloc (h : Live w W gm gs s) (hs : s.length ≤ 2000) (site size : Int) (z : Bool) (r : List Mb × Int × Int) (hr : allocS s site size z = r) :
    Calls Try.prog 12 #[.pointer (some ⟨gm, 0, none⟩), .int .i64 site, .int .i64 size, .bool z] W fun e w' => e = .returned (.tuple #[.int .i64 r.2.1, .int .i64 r.2.2]) ∧ ∃ gs', Live w w' gm gs' r.1 ∧ Fr W w' gm gs := by
  subst hr
  exact (alloc_calls h.mine.holds hs site size z).mono fun e w' ⟨h1, gs', h2, h3, h4, h5⟩ => ⟨h1, gs', ⟨h.mine.fr h.size h2 h3, Nat.le_trans h.size h3.size⟩, h3⟩
theorem Live.box (h : Live w W gm gs s) {g : Nat} {c : Array Value} {fr : Nat × Nat} (hx : W.heap[g]? = some (.cells c 23 fr)) (hF : Fr W W' gm gs) : W'.heap[g]? = some (.cells c 23 fr) := by
  refine (hF.block g (blk_lt hx) (Sof.typed hx (fun he => ?_) (fun hg => ?_) (by decide))).trans hx
  · obtain ⟨v, hM⟩ := h.mine.holds.mem
    subst he
    have := hM.box
    rw [hx] at this
    injection this with this
    injection this with _ this
    exact absurd this (by decide)
  · have hH := h.mine.holds
    obtain ⟨i, hi⟩ := List.mem_iff_getElem?.1 hg
    have hl := (List.getElem?_eq_some_iff.1 hi).1
    have := (hH.bytes i g _ hi (List.getElem?_eq_getElem (by rw [← hH.len]; exact hl))).1
    rw [Bytes, hx] at this
    injection this with this
    injection this with _ this
    exact absurd this (by decide)
theorem Live.load (h : Live w W gm gs s) (p : Vl) (k : Int) (r : Vl × Int) (hr : loadS s p k = r) :
    Calls Try.prog 14 #[.pointer (some ⟨gm, 0, none⟩), .agg #[.int .i64 p.n, .int .i64 p.b, .int .i64 p.f], .int .i64 k] W fun e w' => e = .returned (.tuple #[.agg #[.int .i64 r.1.n, .int .i64 r.1.b, .int .i64 r.1.f], .int .i64 r.2]) ∧ Live w w' gm gs s ∧ Below W.heap.size W w' :=
  (load_tell h.mine.holds p k r hr).mono fun e w' ⟨h1, h2⟩ => ⟨h1, h.low h2, h2⟩
theorem Live.store (h : Live w W gm gs s) (p : Vl) (k : Int) (x : Vl) (r : List Mb × Int) (hr : storeS s p k x = r) :
    Calls Try.prog 16 #[.pointer (some ⟨gm, 0, none⟩), .agg #[.int .i64 p.n, .int .i64 p.b, .int .i64 p.f], .int .i64 k, .agg #[.int .i64 x.n, .int .i64 x.b, .int .i64 x.f]] W fun e w' => e = .returned (.int .i64 r.2) ∧ Live w w' gm gs r.1 ∧ Fr W w' gm gs :=
  (store_tell h.mine.holds p k x r hr).mono fun e w' ⟨h1, h2, h3⟩ => ⟨h1, h.fr h2 h3, h3⟩
theorem Live.copy (h : Live w W gm gs s) (p q : Vl) (n : Int) (r : List Mb × Int) (hr : copyS s p q n = r) :
    Calls Try.prog 18 #[.pointer (some ⟨gm, 0, none⟩), .agg #[.int .i64 p.n, .int .i64 p.b, .int .i64 p.f], .agg #[.int .i64 q.n, .int .i64 q.b, .int .i64 q.f], .int .i64 n] W fun e w' => e = .returned (.int .i64 r.2) ∧ Live w w' gm gs r.1 ∧ Fr W w' gm gs := by
  subst hr
  exact (copy_calls h.mine.holds p q n).mono fun e w' ⟨h1, h2, h3⟩ => ⟨h1, h.fr h2 h3, h3⟩
theorem Live.fill (h : Live w W gm gs s) (p v n : Vl) (r : List Mb × Int) (hr : fillS s p v n = r) :
    Calls Try.prog 19 #[.pointer (some ⟨gm, 0, none⟩), .agg #[.int .i64 p.n, .int .i64 p.b, .int .i64 p.f], .agg #[.int .i64 v.n, .int .i64 v.b, .int .i64 v.f], .agg #[.int .i64 n.n, .int .i64 n.b, .int .i64 n.f]] W fun e w' => e = .returned (.int .i64 r.2) ∧ Live w w' gm gs r.1 ∧ Fr W w' gm gs := by
  subst hr
  exact (fill_calls h.mine.holds p v n).mono fun e w' ⟨h1, h2, h3⟩ => ⟨h1, h.fr h2 h3, h3⟩
theorem Live.end_ (h : Live w W gm gs s) (n : Int) (r : List Mb × Int) (hr : endS s n = r) :
    Calls Try.prog 21 #[.pointer (some ⟨gm, 0, none⟩), .int .i64 n] W fun e w' => e = .returned (.int .i64 r.2) ∧ Live w w' gm gs r.1 ∧ Fr W w' gm gs := by
  subst hr
  exact (end_calls h.mine.holds n).mono fun e w' ⟨h1, h2, h3⟩ => ⟨h1, h.fr h2 h3, h3⟩
theorem Live.block (h : Live w W gm gs s) (n : Int) (r : Int × Int × Bool) (hr : blockS s n = r) :
    Calls Try.prog 20 #[.pointer (some ⟨gm, 0, none⟩), .int .i64 n] W fun e w' => e = .returned (.tuple #[.int .i64 r.1, .int .i64 r.2.1, .bool r.2.2]) ∧ Live w w' gm gs s ∧ Below W.heap.size W w' := by
  subst hr
  exact (block_calls h.mine.holds n).mono fun e w' ⟨h1, h2⟩ => ⟨h1, h.low h2, h2⟩
theorem Live.bytes (h : Live w W gm gs s) (n : Int) (l : List Bt) (hr : bytesS s n = l) :
    Calls Try.prog 17 #[.pointer (some ⟨gm, 0, none⟩), .int .i64 n] W fun e w' => ∃ A c, e = .returned (.slice A l.length c) ∧ Live w w' gm gs s ∧ Keeps w' W.heap.size (.slice A l.length c) l gm gs ∧ Below W.heap.size W w' := by
  subst hr
  refine (bytes_calls h.mine.holds n).mono fun e w' ⟨v, h1, h2, h3⟩ => ?_
  obtain ⟨A, c, rfl⟩ := own_form h2
  exact ⟨A, c, h1, h.low h3, ⟨h2, h.mine.holds.lt.1, h.mine.holds.lt.2⟩, h3⟩
end
end Go.Proofs.Yteogfjhmjlelnaa.G
