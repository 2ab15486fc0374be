/- The laws' example (shown) is true. No condition. -/
import Derived.Test.YtdobjmbfkdfdcaaRa
set_option linter.unusedVariables false
set_option linter.unusedSimpArgs false
namespace Go.Proofs.Ytdobjmbfkdfdcaa.G
open Go.RowKit Go.Proofs.Ytdobjmbfkdfdcaa.B Go.Proofs.YtdobjmbfkdfdcaaW.PrintWords Go.Proofs.YtdobjmbfkdfdcaaW.PrintLast Go.Proofs.YtdobjmbfkdfdcaaW.PrintMore

/-- Numbers that a literal wrote. -/
theorem nts_new (W : World) (r : List Nat) (hr : r.length ≤ 1000000) : Nts (W.alloc (.cells (nats r).toArray 3)) (some ⟨W.heap.size, 0, none⟩) r r.length :=
  ⟨C_row r (blk_new W _) (by omega), Nat.le_refl _⟩
theorem c_new (W : World) (x : List Int) (hr : x.length ≤ 1000000) : Kd.C (Kd.int .i64) (W.alloc (.cells (x.map (Value.int .i64)).toArray 3)) (some ⟨W.heap.size, 0, none⟩) x.length x := by
  refine ⟨rfl, by omega, fun _ => ⟨_, rfl, fun j p hj => ⟨[.int .i64 p], rfl, rfl, fun i u hu => ?_⟩⟩⟩
  match i, hu with
  | 0, hu =>
    obtain rfl : Value.int .i64 p = u := by simpa using hu
    show (W.alloc _).cell? ((⟨W.heap.size, 0, none⟩ : Addr).add (j * 1 + 0)) = _
    rw [add_plain, blk_cell (blk_new W _)]
    simp [hj]
/-- The cells of a list of edges. -/
def ecells : List S33 → List Value
  | [] => []
  | x :: l => .int .i64 x.f0 :: .int .i64 x.f1 :: .int .i64 x.f2 :: ecells l
theorem ecells_at : ∀ (l : List S33) (j : Nat) (p : S33), l[j]? = some p → ∀ i u, [Value.int .i64 p.f0, .int .i64 p.f1, .int .i64 p.f2][i]? = some u → (ecells l)[j * 3 + i]? = some u
  | [], j, p, h, _, _, _ => by simp at h
  | x :: l, 0, p, h, i, u, hu => by
    obtain rfl : x = p := by simpa using h
    match i, hu with
    | 0, hu => exact hu
    | 1, hu => exact hu
    | 2, hu => exact hu
  | x :: l, j + 1, p, h, i, u, hu => by
    have := ecells_at l j p (by simpa using h) i u hu
    rw [show (j + 1) * 3 + i = j * 3 + i + 1 + 1 + 1 by omega]
    exact this
theorem edg_new (W : World) (l : List S33) (hl : l.length ≤ 1000000) : Edg (W.alloc (.cells (ecells l).toArray 33)) (some ⟨W.heap.size, 0, none⟩) l l.length := by
  refine ⟨⟨rfl, by omega, fun _ => ⟨_, rfl, fun j p hj => ⟨_, rfl, k33_mk _ p, fun i u hu => ?_⟩⟩⟩, Nat.le_refl _, hl⟩
  show (W.alloc _).cell? ((⟨W.heap.size, 0, none⟩ : Addr).add (j * 3 + i)) = _
  rw [add_plain, blk_cell (blk_new W _), List.getElem?_toArray]
  exact ecells_at l j p hj i u hu
theorem groups4 (W : World) (z : Nat) (h : Edg W (some ⟨z, 0, none⟩) L4 4) : Calls Try.prog 12 #[.int .i64 4, .slice (some ⟨z, 0, none⟩) 4 4] W fun e w' => ∃ A c, e = .returned (.slice A 4 c) ∧ Nts w' A [0, 1, 1, 3] c ∧ Below W.heap.size W w' :=
  groups_d 4 L4 _ 4 W h [0, 1, 1, 3] grp4
theorem order4 (W : World) (z : Nat) (h : Edg W (some ⟨z, 0, none⟩) L4 4) : Calls Try.prog 14 #[.int .i64 4, .slice (some ⟨z, 0, none⟩) 4 4] W fun e w' => ∃ A c, e = .returned (.slice A 3 c) ∧ Nts w' A [3, 0, 1] c ∧ Below W.heap.size W w' := by
  obtain ⟨R, hR⟩ := greedy_start (sizeN 4) L4 [0, 1, 1, 3]
  have hR2 := ord4 grp4 hR
  subst hR2
  exact order_d 4 L4 _ 4 W h [0, 1, 1, 3] [3, 0, 1] grp4 hR
theorem reach4 (W : World) (z : Nat) (h : Edg W (some ⟨z, 0, none⟩) L4 4) : Calls Try.prog 16 #[.int .i64 4, .slice (some ⟨z, 0, none⟩) 4 4, .slice (some ⟨W.heap.size, 0, none⟩) 1 1] (W.alloc (.cells #[.int .i64 1] 3)) fun e w' => ∃ A c, e = .returned (.slice A 2 c) ∧ Nts w' A [1, 2] c ∧ Below W.heap.size W w' := by
  obtain ⟨s, hs⟩ := ROk.exists_ (sizeN 4) (sizeN_le 4) L4 (by decide) [1] (by decide)
  have hs2 := rch4 hs
  subst hs2
  have hb := below_alloc (Below.refl W.heap.size W) (.cells #[.int .i64 1] 3)
  refine (reach_d 4 L4 _ 4 [1] (some ⟨W.heap.size, 0, none⟩) 1 _ (h.below hb) (c_new W [1] (by decide)) (by decide) [1, 2] hs).mono ?_
  rintro e W6 ⟨A6, c6, rfl, h6, hb6⟩
  exact ⟨A6, c6, rfl, h6, below_step hb hb6⟩
theorem same4 (W : World) (A : Option Addr) (c : Nat) (h : Nts W A [0, 1, 1, 3] c) : Calls Try.prog 11 #[.slice A 4 c, .slice (some ⟨W.heap.size, 0, none⟩) 4 4] (W.alloc (.cells #[.int .i64 0, .int .i64 1, .int .i64 1, .int .i64 3] 3)) fun e w' => e = .returned (.bool true) ∧ Below W.heap.size W w' := by
  have hb := below_alloc (Below.refl W.heap.size W) (.cells #[.int .i64 0, .int .i64 1, .int .i64 1, .int .i64 3] 3)
  refine (ints_d [0, 1, 1, 3] A c (some ⟨W.heap.size, 0, none⟩) 4 _ (h.below hb) (nts_new W [0, 1, 1, 3] (by decide)) (by decide)).mono ?_
  rintro e W6 ⟨rfl, hb6⟩
  exact ⟨rfl, below_step hb hb6⟩
theorem same3 (W : World) (A : Option Addr) (c : Nat) (h : Nts W A [3, 0, 1] c) : Calls Try.prog 11 #[.slice A 3 c, .slice (some ⟨W.heap.size, 0, none⟩) 3 3] (W.alloc (.cells #[.int .i64 3, .int .i64 0, .int .i64 1] 3)) fun e w' => e = .returned (.bool true) ∧ Below W.heap.size W w' := by
  have hb := below_alloc (Below.refl W.heap.size W) (.cells #[.int .i64 3, .int .i64 0, .int .i64 1] 3)
  refine (ints_d [3, 0, 1] A c (some ⟨W.heap.size, 0, none⟩) 3 _ (h.below hb) (nts_new W [3, 0, 1] (by decide)) (by decide)).mono ?_
  rintro e W6 ⟨rfl, hb6⟩
  exact ⟨rfl, below_step hb hb6⟩
theorem same2 (W : World) (A : Option Addr) (c : Nat) (h : Nts W A [1, 2] c) : Calls Try.prog 11 #[.slice A 2 c, .slice (some ⟨W.heap.size, 0, none⟩) 2 2] (W.alloc (.cells #[.int .i64 1, .int .i64 2] 3)) fun e w' => e = .returned (.bool true) ∧ Below W.heap.size W w' := by
  have hb := below_alloc (Below.refl W.heap.size W) (.cells #[.int .i64 1, .int .i64 2] 3)
  refine (ints_d [1, 2] A c (some ⟨W.heap.size, 0, none⟩) 2 _ (h.below hb) (nts_new W [1, 2] (by decide)) (by decide)).mono ?_
  rintro e W6 ⟨rfl, hb6⟩
  exact ⟨rfl, below_step hb hb6⟩
set_option maxRecDepth 100000 in
set_option maxHeartbeats 8000000 in
theorem shown_c (w : World) : Calls Try.prog 9 #[] w fun e w' => e = .returned (.bool true) ∧ Below w.heap.size w w' := by
  have hE : Edg (w.alloc (.cells #[.int .i64 0, .int .i64 0, .int .i64 1, .int .i64 1, .int .i64 0, .int .i64 2, .int .i64 2, .int .i64 0, .int .i64 1, .int .i64 3, .int .i64 0, .int .i64 0] 33)) (some ⟨w.heap.size, 0, none⟩) L4 4 := edg_new w L4 (by decide)
  have HE := Aside0.mk hE
  have HB := Aside0.mk (below_alloc (Below.refl w.heap.size w) (.cells #[.int .i64 0, .int .i64 0, .int .i64 1, .int .i64 1, .int .i64 0, .int .i64 2, .int .i64 2, .int .i64 0, .int .i64 1, .int .i64 3, .int .i64 0, .int .i64 0] 33))
  clear hE
  go_enter Try.func9, Try.ntmps9
  go_upto_region 2 with (fail)
  generalize w.alloc (.cells #[.int .i64 0, .int .i64 0, .int .i64 1, .int .i64 1, .int .i64 0, .int .i64 2, .int .i64 2, .int .i64 0, .int .i64 1, .int .i64 3, .int .i64 0, .int .i64 0] 33) = W1 at HE HB ⊢
  generalize w.heap.size = z at HE ⊢
  go_wp2_with (first
    | (go_at_call 12; with_reducible refine (groups4 _ _ HE.out).mono ?_; rintro e W2 ⟨A2, c2, rfl, h2, hb2⟩; have HE2 := Aside0.mk (HE.out.below hb2); have HA2 := Aside0.mk h2; have HB2 := Aside0.mk (below_step HB.out hb2); clear h2 hb2)
    | (go_at_call 11; with_reducible refine (same4 _ _ _ HA2.out).mono ?_; rintro e W3 ⟨rfl, hb3⟩; have HB3 := Aside0.mk (below_step HB2.out hb3); have HE3 := Aside0.mk (HE2.out.below hb3); clear hb3)
    | (go_at_call 14; with_reducible refine (order4 _ _ HE3.out).mono ?_; rintro e W4 ⟨A4, c4, rfl, h4, hb4⟩; have HE4 := Aside0.mk (HE3.out.below hb4); have HA4 := Aside0.mk h4; have HB4 := Aside0.mk (below_step HB3.out hb4); clear h4 hb4)
    | (go_at_call 11; with_reducible refine (same3 _ _ _ HA4.out).mono ?_; rintro e W5 ⟨rfl, hb5⟩; have HB5 := Aside0.mk (below_step HB4.out hb5); have HE5 := Aside0.mk (HE4.out.below hb5); clear hb5)
    | (go_at_call 16; with_reducible refine (reach4 _ _ HE5.out).mono ?_; rintro e W6 ⟨A6, c6, rfl, h6, hb6⟩; have HA6 := Aside0.mk h6; have HB6 := Aside0.mk (below_step HB5.out hb6); clear h6 hb6)
    | (go_at_call 11; with_reducible refine (same2 _ _ _ HA6.out).mono ?_; rintro e W7 ⟨rfl, hb7⟩; have HB7 := Aside0.mk (below_step HB6.out hb7); clear hb7))
  go_ret
  exact ⟨rfl, HB7.out⟩
end Go.Proofs.Ytdobjmbfkdfdcaa.G
