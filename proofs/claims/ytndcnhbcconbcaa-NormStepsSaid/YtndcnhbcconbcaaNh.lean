/- The example at the head of all laws of norm: shown() is true. No condition. -/
import Derived.Test.YtndcnhbcconbcaaNg
import Derived.Test.YtndcnhbcconbcaaGx4
set_option linter.unusedVariables false
set_option linter.unusedSimpArgs false
namespace Go.Proofs.Ytndcnhbcconbcaa.G
open Go.RowKit Go.Shelf Go.Proofs.Ytndcnhbcconbcaa.B Go.Proofs.YtndcnhbcconbcaaW.PrintWords Go.Proofs.YtndcnhbcconbcaaW.PrintLast Go.Proofs.YtndcnhbcconbcaaW.PrintMore

/-- A type of one kind, and an array of it. -/
def tK (k : Int) : S24 := ⟨k, 0, ⟨#[]⟩, []⟩
def tArr (n : Int) (t : S24) : S24 := ⟨6, n, ⟨#[]⟩, [t]⟩
theorem rd0 (t : S24) : rd_T24 [t] 0 = t := rfl
theorem size_K {k w : Int} (h7 : ¬ (k = 7 ∨ k = 8)) (h6 : ¬ k = 6) (hw : widthT k = w) (h0 : ¬ w = 0) (l : List S51) : sizeS l (tK k) = (w, w, 0) := by
  unfold sizeS
  rw [if_neg (show ¬ ((tK k).f0 = 7 ∨ (tK k).f0 = 8) from h7), if_neg (show ¬ (tK k).f0 = 6 from h6), show widthT (tK k).f0 = w from hw, if_neg h0]
theorem size_arr (l : List S51) (n : Int) (t : S24) (h : ¬ n < 1) : sizeS l (tArr n t) = arrS n (sizeS l t) := by
  conv => lhs; unfold sizeS
  rw [if_neg (by show ¬ ((6 : Int) = 7 ∨ (6 : Int) = 8); decide), if_pos (show (tArr n t).f0 = 6 from rfl), dif_pos (show (tArr n t).f3.length = 1 from rfl)]
  show (if n < 1 then _ else arrS n (sizeS l (rd_T24 [t] 0))) = _
  rw [if_neg h, rd0]
theorem norm_K (l : List S51) (k : Int) (off : Int) (m : Nat) (h6 : ¬ k = 6) (h7 : ¬ k = 7) : normF (m + 1) l (tK k) off = some off := by
  unfold normF
  rw [if_neg (show ¬ (tK k).f0 = 6 from h6), if_neg (show ¬ (tK k).f0 = 7 from h7)]
theorem norm_arrK (l : List S51) (n k w : Int) (off : Int) (m : Nat) (h7 : ¬ (k = 7 ∨ k = 8)) (h6 : ¬ k = 6) (hw : widthT k = w) (h0 : 0 < w) : normF (m + 1 + 1) l (tArr n (tK k)) off = some (Int.tmod off w) := by
  unfold normF
  rw [if_pos (show (tArr n (tK k)).f0 = 6 from rfl), if_neg (show ¬ (tArr n (tK k)).f3.length = 0 from by show ¬ (1 : Nat) = 0; decide)]
  show (if 0 < (sizeS l (rd_T24 [tK k] 0)).1 then normF (m + 1) l (rd_T24 [tK k] 0) (Int.tmod off (sizeS l (rd_T24 [tK k] 0)).1) else some off) = _
  rw [rd0, size_K h7 h6 hw (by omega) l]
  show (if 0 < w then _ else _) = _
  rw [if_pos h0]
  exact norm_K l k _ m h6 (fun h => h7 (.inl h))
theorem size_I : sizeS [] (tArr 3 (tK 3)) = (((12 : Nat) : Int), 4, 0) := by
  rw [size_arr [] 3 (tK 3) (by decide), size_K (k := 3) (w := 4) (by decide) (by decide) (by decide) (by decide) []]
  unfold arrS
  rw [if_pos rfl, if_pos (by decide), if_neg (by decide)]
  rw [show wrap64 (((4 : Int), (4 : Int), (0 : Int)).1 * 3) = 12 from by unfold wrap64; decide]
  rfl
/-- All places of a type, as a list. -/
theorem places_ex (l : List S51) (u : S24) (k n : Nat) (f : Nat → Int) (hf : ∀ i < n, normF k l u (i : Int) = some (f i)) (hb : ∀ i < n, I64 (f i)) (hn : n ≤ 1000000) :
    ∃ zs, Places l u k n zs ∧ zs.map (fun x => x.1) = (List.range (n + 1)).map (fun (i : Nat) => ((i : Int), if i < n then f i else (i : Int))) := by
  have hI : ∀ i, i < n + 1 → I64 (i : Int) := fun i hi => by unfold I64; omega
  have hg : ∀ i, i < n + 1 → I64 (i : Int) ∧ I64 (if i < n then f i else (i : Int)) := fun i hi => ⟨hI i hi, by split; exact hb i (by assumption); exact hI i hi⟩
  refine ⟨List.ofFn (n := n + 1) (fun i => ⟨((i.1 : Int), if i.1 < n then f i.1 else (i.1 : Int)), hg i.1 i.2⟩), ⟨by simp, fun i hi => ?_⟩, ?_⟩
  · rw [List.getElem_ofFn]
    refine ⟨rfl, ?_⟩
    have hi' : i < n + 1 := by simpa using hi
    split
    · rename_i h
      dsimp only
      first
        | exact hf i h
        | (rw [if_pos h]; exact hf i h)
    · rename_i h
      first
        | rfl
        | (dsimp only; rw [if_neg h])
  · apply List.ext_getElem
    · simp
    · intro i h1 h2
      rw [List.getElem_map, List.getElem_ofFn, List.getElem_map, List.getElem_range]
theorem offs_map (zs : List Pl) : offsS zs = (zs.map (fun x => x.1)).foldl (fun acc x => if x.2 ∈ acc then acc else acc ++ [x.2]) [] := by
  unfold offsS
  rw [List.foldl_map]
theorem cls_map (want : Int) (zs : List Pl) : clsS want zs = ((zs.map (fun x => x.1)).filter (fun x => decide (x.2 = want))).map (fun x => x.1) := by
  unfold clsS
  rw [List.filter_map, List.map_map]
  rfl
theorem norm_I (off : Int) : normF 2 [] (tArr 3 (tK 3)) off = some (Int.tmod off 4) := norm_arrK [] 3 3 4 off 0 (by decide) (by decide) (by decide) (by decide)
theorem places_I : ∃ zs, Places [] (tArr 3 (tK 3)) 2 12 zs ∧ offsS zs = [0, 1, 2, 3, 12] ∧ clsS 1 zs = [1, 5, 9] := by
  obtain ⟨zs, h1, h2⟩ := places_ex [] (tArr 3 (tK 3)) 2 12 (fun i => Int.tmod (i : Int) 4) (fun i _ => norm_I _) (fun i hi => by
    have h1 := Int.tmod_nonneg 4 (show (0 : Int) ≤ (i : Int) by omega)
    have h2 := Int.tmod_lt_of_pos (i : Int) (show (0 : Int) < 4 by decide)
    unfold I64
    omega) (by decide)
  refine ⟨zs, h1, ?_, ?_⟩
  · rw [offs_map, h2]; decide
  · rw [cls_map, h2]; decide
theorem kI (W : World) (g : Nat) (h : W.heap[g]? = some (.cells #[.int .i64 3, .int .i64 0, .string ⟨#[]⟩, .slice none 0 0] 24 (0, 0))) : k24.C W (some ⟨g, 0, none⟩) 1 [tK 3] := by
  refine ⟨rfl, by decide, fun _ => ⟨_, rfl, fun j p hj => ?_⟩⟩
  match j, hj with
  | 0, hj =>
    obtain rfl : tK 3 = p := by simpa using hj
    refine ⟨_, rfl, k24_mk W (tK 3) (A3 := none) (c3 := 0) (Nat.le_refl _) (Kd.C_nil _ W), fun i u hu => ?_⟩
    show W.cell? ((⟨g, 0, none⟩ : Addr).add (0 * 4 + i)) = _
    rw [add_plain, blk_cell h, Nat.zero_mul, Nat.zero_add, ← hu]
    match i with
    | 0 => rfl
    | 1 => rfl
    | 2 => rfl
    | 3 => rfl
    | i + 4 => rfl
theorem ints_c (w : World) : Calls Try.prog 20 #[] w fun e w' => ∃ g, e = .returned (.agg #[.int .i64 6, .int .i64 3, .string ⟨#[]⟩, .slice (some ⟨g, 0, none⟩) 1 1]) ∧ k24.C w' (some ⟨g, 0, none⟩) 1 [tK 3] ∧ Below w.heap.size w w' := by
  have HX := Aside0.mk (blk_alloc (blk_new w (.cells #[.int .i64 6, .int .i64 3, .string ⟨#[]⟩, .slice (some ⟨w.heap.size + 1, 0, none⟩) 1 1] 24)) (.cells #[.int .i64 3, .int .i64 0, .string ⟨#[]⟩, .slice none 0 0] 24))
  have HY := Aside0.mk (blk_at_ (W := w.alloc (.cells #[.int .i64 6, .int .i64 3, .string ⟨#[]⟩, .slice (some ⟨w.heap.size + 1, 0, none⟩) 1 1] 24)) (n := w.heap.size + 1) (.cells #[.int .i64 3, .int .i64 0, .string ⟨#[]⟩, .slice none 0 0] 24) (by simp))
  go_enter Try.func20, Try.ntmps20
  go_wp2
  exact bodyPost_ret (results_cell_row rfl _ _ w.heap.size 24 _ (0, 0) _ rfl HX.out Try.underlying24 rfl (by kernel_rfl)) rfl ⟨_, rfl, kI _ _ HY.out, below_alloc (below_alloc (Below.refl _ _) _) _⟩
theorem kR (W : World) : k51.C W none ([] : List S51).length [] := Kd.C_nil _ W
theorem norm_5 (g : Nat) (W : World) (h : k24.C W (some ⟨g, 0, none⟩) 1 [tK 3]) : Calls Try.prog 12 #[.slice none 0 0, .agg #[.int .i64 6, .int .i64 3, .string ⟨#[]⟩, .slice (some ⟨g, 0, none⟩) 1 1], .int .i64 5] W fun e w' => e = .returned (.tuple #[.int .i64 1, .int .i64 0]) ∧ Below W.heap.size W w' :=
  norm12_c [] none 0 (Nat.le_refl _) 2 (tArr 3 (tK 3)) 5 1 0 (some ⟨g, 0, none⟩) 1 W (by unfold I64; omega) (kR W) h (Nat.le_refl _) (by rw [size_I, norm_I]; decide)
theorem norm_12 (g : Nat) (W : World) (h : k24.C W (some ⟨g, 0, none⟩) 1 [tK 3]) : Calls Try.prog 12 #[.slice none 0 0, .agg #[.int .i64 6, .int .i64 3, .string ⟨#[]⟩, .slice (some ⟨g, 0, none⟩) 1 1], .int .i64 12] W fun e w' => e = .returned (.tuple #[.int .i64 12, .int .i64 0]) ∧ Below W.heap.size W w' :=
  norm12_c [] none 0 (Nat.le_refl _) 2 (tArr 3 (tK 3)) 12 12 0 (some ⟨g, 0, none⟩) 1 W (by unfold I64; omega) (kR W) h (Nat.le_refl _) (by rw [size_I, norm_I]; decide)
/-- A list of numbers that lies there. -/
structure Nts (W : World) (A : Option Addr) (r : List Int) (c : Nat) : Prop where
  C : Kd.C (Kd.int .i64) W A r.length r
  cap : r.length ≤ c
theorem Nts.below {W W' : World} {A : Option Addr} {r : List Int} {c : Nat} (h : Nts W A r c) (hb : Below W.heap.size W W') : Nts W' A r c := ⟨Kd.C_below h.C hb, h.cap⟩
theorem offs_5 (g : Nat) (W : World) (h : k24.C W (some ⟨g, 0, none⟩) 1 [tK 3]) : Calls Try.prog 14 #[.slice none 0 0, .agg #[.int .i64 6, .int .i64 3, .string ⟨#[]⟩, .slice (some ⟨g, 0, none⟩) 1 1]] W fun e w' => ∃ A c, e = .returned (.tuple #[.slice A 5 c, .int .i64 0]) ∧ Nts w' A [0, 1, 2, 3, 12] c ∧ Below W.heap.size W w' := by
  obtain ⟨zs, h1, h2, _⟩ := places_I
  refine (offs_c [] none 0 (Nat.le_refl _) 2 (tArr 3 (tK 3)) (some ⟨g, 0, none⟩) 1 W (kR W) h (Nat.le_refl _) 12 (by decide) 4 size_I zs h1).mono ?_
  rintro e w' ⟨A, c, rfl, ha, hc, hb⟩
  rw [h2] at ha hc ⊢
  exact ⟨A, c, rfl, ⟨ha, hc⟩, hb⟩
theorem class_3 (g : Nat) (W : World) (h : k24.C W (some ⟨g, 0, none⟩) 1 [tK 3]) : Calls Try.prog 16 #[.slice none 0 0, .agg #[.int .i64 6, .int .i64 3, .string ⟨#[]⟩, .slice (some ⟨g, 0, none⟩) 1 1], .int .i64 1] W fun e w' => ∃ A c, e = .returned (.tuple #[.slice A 3 c, .int .i64 0]) ∧ Nts w' A [1, 5, 9] c ∧ Below W.heap.size W w' := by
  obtain ⟨zs, h1, _, h2⟩ := places_I
  refine (class_c [] none 0 (Nat.le_refl _) 2 (tArr 3 (tK 3)) 1 1 (some ⟨g, 0, none⟩) 1 W (by unfold I64; omega) (kR W) h (Nat.le_refl _) (by rw [size_I, norm_I]; decide) 12 (by decide) 4 0 size_I zs h1).mono ?_
  rintro e w' ⟨A, c, rfl, ha, hc, hb⟩
  rw [h2] at ha hc ⊢
  exact ⟨A, c, rfl, ⟨ha, hc⟩, hb⟩
theorem row_ints (l : List Int) (hl : l.length ≤ 1000) {W : World} {g : Nat} (h : W.heap[g]? = some (.cells (l.map (Value.int .i64)).toArray 3 (0, 0))) : Kd.C (Kd.int .i64) W (some ⟨g, 0, none⟩) l.length l := by
  refine ⟨rfl, Nat.le_trans hl (by decide), fun _ => ⟨_, rfl, fun j p hj => ⟨[.int .i64 p], rfl, rfl, fun i u hu => ?_⟩⟩⟩
  match i, hu with
  | 0, hu =>
    obtain rfl : Value.int .i64 p = u := by simpa using hu
    show W.cell? ((⟨g, 0, none⟩ : Addr).add (j * 1 + 0)) = _
    rw [add_plain, blk_cell h, Nat.mul_one, Nat.add_zero, List.getElem?_toArray, List.getElem?_map, hj]
    rfl
theorem same_ints (l : List Int) (hl : l.length ≤ 1000) (k : Nat) (hk : crosstreeref06_Ints.f k l l = some true) (A : Option Addr) (c : Nat) (g : Nat) (W : World) (ha : Nts W A l c) (h : W.heap[g]? = some (.cells (l.map (Value.int .i64)).toArray 3 (0, 0))) :
    Calls Try.prog 18 #[.slice A l.length c, .slice (some ⟨g, 0, none⟩) l.length l.length] W fun e w' => e = .returned (.bool true) ∧ Below W.heap.size W w' := by
  refine (crosstreeref06_Ints.calls k A c l (some ⟨g, 0, none⟩) l.length l true W ha.C ha.cap (row_ints l hl h) (Nat.le_refl _) hk).mono ?_
  rintro e w' ⟨rfl, hd⟩
  exact ⟨rfl, hd.below⟩
theorem same5 (A : Option Addr) (c g : Nat) (W : World) (ha : Nts W A [0, 1, 2, 3, 12] c) (h : W.heap[g]? = some (.cells #[.int .i64 0, .int .i64 1, .int .i64 2, .int .i64 3, .int .i64 12] 3 (0, 0))) :
    Calls Try.prog 18 #[.slice A 5 c, .slice (some ⟨g, 0, none⟩) 5 5] W fun e w' => e = .returned (.bool true) ∧ Below W.heap.size W w' := same_ints [0, 1, 2, 3, 12] (by decide) 10 (by kernel_rfl) A c g W ha h
theorem same3 (A : Option Addr) (c g : Nat) (W : World) (ha : Nts W A [1, 5, 9] c) (h : W.heap[g]? = some (.cells #[.int .i64 1, .int .i64 5, .int .i64 9] 3 (0, 0))) :
    Calls Try.prog 18 #[.slice A 3 c, .slice (some ⟨g, 0, none⟩) 3 3] W fun e w' => e = .returned (.bool true) ∧ Below W.heap.size W w' := same_ints [1, 5, 9] (by decide) 10 (by kernel_rfl) A c g W ha h
set_option maxRecDepth 100000 in
set_option maxHeartbeats 2000000 in
theorem shown_c (w : World) : Calls Try.prog 10 #[] w fun e w' => e = .returned (.bool true) ∧ Below w.heap.size w w' := by
  have h0 := Aside0.mk (Below.refl w.heap.size w)
  go_enter Try.func10, Try.ntmps10
  go_upto_region 2 with (first
    | (go_at_call 20; with_reducible refine (ints_c _).mono ?_; rintro e1 w1 ⟨g1, rfl, hk, hb⟩; have HK1 := Aside0.mk hk; have HB1 := Aside0.mk (below_step h0.out hb); clear hk hb)
    | (go_at_call 12; with_reducible refine (norm_5 g1 _ HK1.out).mono ?_; rintro e2 w2 ⟨rfl, hb⟩; have HB2 := Aside0.mk (below_step HB1.out hb); clear hb))
  go_upto_region 3 with (first
    | (go_at_call 20; with_reducible refine (ints_c _).mono ?_; rintro e3 w3 ⟨g3, rfl, hk, hb⟩; have HK3 := Aside0.mk hk; have HB3 := Aside0.mk (below_step HB2.out hb); clear hk hb)
    | (go_at_call 12; with_reducible refine (norm_12 g3 _ HK3.out).mono ?_; rintro e4 w4 ⟨rfl, hb⟩; have HB4 := Aside0.mk (below_step HB3.out hb); clear hb))
  go_upto_region 4 with (first
    | (go_at_call 20; with_reducible refine (ints_c _).mono ?_; rintro e5 w5 ⟨g5, rfl, hk, hb⟩; have HK5 := Aside0.mk hk; have HB5 := Aside0.mk (below_step HB4.out hb); clear hk hb)
    | (go_at_call 14; with_reducible refine (offs_5 g5 _ HK5.out).mono ?_; rintro e6 w6 ⟨A6, c6, rfl, ha, hb⟩; have HA6 := Aside0.mk ha; have HB6 := Aside0.mk (below_step HB5.out hb); clear hb ha))
  go_upto_region 5 with (first
    | (go_at_call 20; with_reducible refine (ints_c _).mono ?_; rintro e7 w7 ⟨g7, rfl, hk, hb⟩; have HK7 := Aside0.mk hk; have HB7 := Aside0.mk (below_step HB6.out hb); have HA7 := Aside0.mk (HA6.out.below hb); clear hk hb)
    | (go_at_call 16; with_reducible refine (class_3 g7 _ HK7.out).mono ?_; rintro e8 w8 ⟨A8, c8, rfl, ha, hb⟩; have HA8 := Aside0.mk ha; have HC8 := Aside0.mk (HA7.out.below hb); have HB8 := Aside0.mk (below_step HB7.out hb); clear hb ha))
  go_wp2_with (first
    | (go_at_call 18; with_reducible refine (same5 A6 c6 w8.heap.size _ (HC8.out.below (below_alloc (Below.refl _ _) _)) (blk_new w8 _)).mono ?_; rintro e9 w9 ⟨rfl, hb⟩; have HA9 := Aside0.mk (HA8.out.below (below_step (below_alloc (Below.refl _ _) _) hb)); have HB9 := Aside0.mk (below_step HB8.out (below_step (below_alloc (Below.refl _ _) _) hb)); clear hb)
    | (go_at_call 18; with_reducible refine (same3 A8 c8 w9.heap.size _ (HA9.out.below (below_alloc (Below.refl _ _) _)) (blk_new w9 _)).mono ?_; rintro e10 w10 ⟨rfl, hb⟩; have HB10 := Aside0.mk (below_step HB9.out (below_step (below_alloc (Below.refl _ _) _) hb)); clear hb))
  go_ret
  exact ⟨rfl, HB10.out⟩
end Go.Proofs.Ytndcnhbcconbcaa.G
