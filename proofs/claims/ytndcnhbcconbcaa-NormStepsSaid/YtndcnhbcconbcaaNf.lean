/- norm.Class: all places of a normal place. The arguments read as types and records. -/
import Derived.Test.YtndcnhbcconbcaaNe
set_option linter.unusedVariables false
set_option linter.unusedSimpArgs false
namespace Go.Proofs.Ytndcnhbcconbcaa.G
open Go.RowKit Go.Shelf Go.Proofs.Ytndcnhbcconbcaa.B Go.Proofs.YtndcnhbcconbcaaW.PrintWords Go.Proofs.YtndcnhbcconbcaaW.PrintLast Go.Proofs.YtndcnhbcconbcaaW.PrintMore
attribute [local go_sem] Oper.semAt_some

theorem own_ints {W : World} {base n c : Nat} {A : Option Addr} {t : List Int} (hn : n = t.length) (h : W.ownsRow base 3 1 (.slice A n c) n (t.map (Value.int .i64))) : Kd.C (Kd.int .i64) W A t.length t ∧ t.length ≤ c := by
  subst hn
  rcases h.2 with ⟨h1, h2⟩ | ⟨g, cap, cur, h1, h2, h3, h4, h5, h6, h7⟩
  · obtain rfl := List.eq_nil_of_length_eq_zero h2
    injection h1 with e1 _ e3
    subst e1 e3
    exact ⟨Kd.C_nil _ W, Nat.le_refl _⟩
  · injection h1 with e1 _ e3
    subst e1 e3
    refine ⟨⟨rfl, by unfold maxLen at h5; omega, fun _ => ⟨_, rfl, fun j p hj => ⟨[.int .i64 p], rfl, rfl, fun i u hu => ?_⟩⟩⟩, h4⟩
    match i, hu with
    | 0, hu =>
      obtain rfl : Value.int .i64 p = u := by simpa using hu
      have hjl : j < t.length := (List.getElem?_eq_some_iff.1 hj).1
      show W.cell? ((⟨g, 0, none⟩ : Addr).add (j * 1 + 0)) = _
      rw [add_plain, h.cellAt _ (by omega), Nat.mul_one, Nat.add_zero, List.getElem?_map, hj]
      rfl
/-- The places of a normal place. -/
def clsS (want : Int) (zs : List Pl) : List Int := (zs.filter (fun x => decide (x.1.2 = want))).map (fun x => x.1.1)
theorem cls_hit {want : Int} (pre : List Pl) {x : Pl} (h : x.1.2 = want) : clsS want (pre ++ [x]) = clsS want pre ++ [x.1.1] := by
  unfold clsS
  rw [List.filter_append, List.map_append]
  simp [h]
theorem cls_miss {want : Int} (pre : List Pl) {x : Pl} (h : ¬ x.1.2 = want) : clsS want (pre ++ [x]) = clsS want pre := by
  unfold clsS
  rw [List.filter_append, List.map_append]
  simp [h]
theorem cls_len (want : Int) (zs : List Pl) : (clsS want zs).length ≤ zs.length := by
  unfold clsS
  rw [List.length_map]
  exact List.length_filter_le _ _
theorem kp_own {β : Type} (w0 : World) (S : Nat → Prop) : OwnFrom w0.heap.size (fun (_ : β) W => Kp w0 W S) := fun s X Y row hs hg hr =>
  hs.grown hg (fun k hk => .inr (hr k hk).1)
theorem appended2 {W w1 : World} {b0 B : Nat} {t e : TypeId} {size : Nat} {v v' : Value} {k m : Nat} {xs ys : List Value} {tmp : Obj}
    (hv : Boxed W B t v) (hte : t ≠ e) (hrow : W.ownsRow b0 e size v k xs) (hown' : w1.ownsRow b0 e size v' m ys) (hgrow : (W.alloc tmp).grownBy w1 v.ownBlock) :
    Boxed w1 B t v ∧ Boxed (w1.setCell ⟨B, 0, none⟩ v') B t v' ∧ (w1.setCell ⟨B, 0, none⟩ v').ownsRow b0 e size v' m ys ∧ KeepsOthers W (w1.setCell ⟨B, 0, none⟩ v') ∧ Kp W (w1.setCell ⟨B, 0, none⟩ v') (fun k => k = B ∨ b0 ≤ k) := by
  have hv1 : Boxed w1 B t v := (hv.alloc tmp).kept hgrow (hv.not_row hte hrow)
  refine ⟨hv1, hv1.set v', hown'.kept (grownBy_setCell' w1 B v') (.inr (hv1.not_row hte hown').symm), ?_, ?_⟩
  · refine ((KeepsOthers.alloc W tmp).trans (KeepsOthers.of_grownBy hgrow fun j o ej hj => ?_)).trans (KeepsOthers.setCell _ _ _)
    rcases (hrow.alloc tmp).2 with ⟨rfl, _⟩ | ⟨g, cap, cur, rfl, _, hgb, _⟩
    · simp [Value.ownBlock] at ej
    · obtain rfl : g = j := by simpa [Value.ownBlock] using ej
      rw [hgb] at hj; cases hj; rfl
  · refine (((Kp.refl W _).alloc tmp).grown hgrow (fun j ej => .inl (.inr ?_))).setCell (.inl (.inl rfl)) v'
    rcases hrow.2 with ⟨rfl, _⟩ | ⟨g, cap, cur, rfl, hb, _, _⟩
    · simp [Value.ownBlock] at ej
    · obtain rfl : g = j := by simpa [Value.ownBlock] using ej
      exact hb
theorem kp_below {W W' : World} {S : Nat → Prop} {n : Nat} (h : Kp W W' S) (hn : n ≤ W.heap.size) (hs : ∀ k, S k → n ≤ k) : Below n W W' :=
  ⟨h.os, h.tape, h.output, h.size, fun k hk => h.block k (Nat.lt_of_lt_of_le hk hn) (fun h2 => by have := hs k h2; omega)⟩
set_option maxRecDepth 100000 in
set_option maxHeartbeats 4000000 in
theorem class_c (l : List S51) (A : Option Addr) (c : Nat) (hl : l.length ≤ c) (k : Nat) (u : S24) (off want : Int) (D : Option Addr) (q : Nat) (W : World) (ho : I64 off) (hC : k51.C W A l.length l) (hD : k24.C W D u.f3.length u.f3) (hq : u.f3.length ≤ q)
    (hr : normT (sizeS l u) off (normF k l u off) = some (want, 0)) (n : Nat) (hn : n ≤ 1000000) (s2 s3 : Int) (hs : sizeS l u = ((n : Int), s2, s3)) (zs : List Pl) (hz : Places l u k n zs) :
    Calls Try.prog 16 #[.slice A l.length c, .agg #[.int .i64 u.f0, .int .i64 u.f1, .string u.f2, .slice D u.f3.length q], .int .i64 off] W fun e' w' => ∃ A' c', e' = .returned (.tuple #[.slice A' (clsS want zs).length c', .int .i64 0]) ∧ Kd.C (Kd.int .i64) w' A' (clsS want zs).length (clsS want zs) ∧ (clsS want zs).length ≤ c' ∧ Below W.heap.size W w' := by
  have HC := Aside0.mk hC
  have HD := Aside0.mk hD
  have HL := Aside0.mk hl
  have HQ := Aside0.mk hq
  have HZ := Aside0.mk hz
  have HNN := Aside0.mk hn
  have HS := Aside0.mk (fun W h1 h2 => size_c l A c hl _ u (Nat.le_refl _) D q W h1 h2 hq _ _ _ hs)
  have HN := Aside0.mk (fun W h1 h2 => norm12_c l A c hl k u off want 0 D q W ho h1 h2 hq hr)
  have HX := Aside0.mk (blk_new W (.cells #[.int .i64 u.f0, .int .i64 u.f1, .string u.f2, .slice D u.f3.length q] 24))
  have HB0 := Aside0.mk (below_alloc (Below.refl W.heap.size W) (.cells #[.int .i64 u.f0, .int .i64 u.f1, .string u.f2, .slice D u.f3.length q] 24))
  clear hC hD hs hr ho hq hl hz hn
  refine (callsIn_wide (n := 3)).1 ?_
  refine callsIn_of_wp_marks Try.func16 rfl trivial ?_ rfl
  simp only [Try.ntmps16, List.size_toArray, List.length_cons, List.length_nil, Nat.reduceAdd, Nat.reduceSub, Array.replicate_succ, Array.replicate_zero, List.push_toArray, List.append_toArray, List.nil_append, List.cons_append]
  obtain ⟨W0, hW0⟩ : ∃ W0, W.alloc (.cells #[.int .i64 u.f0, .int .i64 u.f1, .string u.f2, .slice D u.f3.length q] 24) = W0 := ⟨_, rfl⟩
  obtain ⟨g4, hg4⟩ : ∃ g4, W.heap.size = g4 := ⟨_, rfl⟩
  have HG4 : Aside0 (W.heap.size ≤ g4) := Aside0.mk (by omega)
  rw [hW0] at HB0 HX
  rw [hg4] at HX
  obtain ⟨z0, z1, z2, z3⟩ := cell4 HX.out
  gi_wp2_with (first
    | (refine ⟨trivial, ?_⟩; gi_at_call 12; refine (callsIn_wide.2 (HN.out _ (Kd.C_below HC.out HB0.out) (Kd.C_below HD.out HB0.out))).mono ?_; rintro e1 w1 ⟨rfl, hb⟩; have HB1 := Aside0.mk (below_step HB0.out hb); have HX1 := Aside0.mk (blk_below HX.out hb); obtain ⟨y0, y1, y2, y3⟩ := cell4 (blk_alloc HX1.out (.cells #[.int .i64 want] 3)); clear hb)
    | (refine ⟨trivial, ?_⟩; gi_at_call 19; refine (callsIn_wide.2 (HS.out _ (Kd.C_below HC.out (below_alloc HB1.out _)) (Kd.C_below HD.out (below_alloc HB1.out _)))).mono ?_; rintro e2 w2 ⟨rfl, hb⟩; have HB2 := Aside0.mk (below_step (below_alloc HB1.out (.cells #[.int .i64 want] 3)) hb); have HX2 := Aside0.mk (blk_below (blk_alloc HX1.out (.cells #[.int .i64 want] 3)) hb); have H82 := Aside0.mk (blk_below (blk_new w1 (.cells #[.int .i64 want] 3)) hb); obtain ⟨x0, x1, x2, x3⟩ := cell4 (blk_alloc HX2.out (.cells #[.slice none 0 0] 35)); clear hb)
    | (refine ⟨trivial, ?_⟩; gi_at_call 25; refine (callsIn_wide.2 (places_c A l.length c u.f0 u.f1 u.f2 D u.f3.length q (n : Int) _)).mono ?_; rintro e3 w3 ⟨b1, b2, b3, rfl, hbs, hge, hb⟩; have HBS := Aside0.mk hbs; have HGE := Aside0.mk hge; have HB3 := Aside0.mk (below_step (below_alloc HB2.out (.cells #[.slice none 0 0] 35)) hb); have H83 := Aside0.mk (blk_below (blk_alloc H82.out (.cells #[.slice none 0 0] 35)) hb); have H133 := Aside0.mk (blk_below (blk_new w2 (.cells #[.slice none 0 0] 35)) hb); clear hb hbs hge))
  obtain ⟨g8, hg8⟩ : ∃ g8, w1.heap.size = g8 := ⟨_, rfl⟩
  obtain ⟨g13, hg13⟩ : ∃ g13, w2.heap.size = g13 := ⟨_, rfl⟩
  have hge := HGE.out
  rw [show (w2.alloc (.cells #[.slice none 0 0] 35)).heap.size = g13 + 1 from by rw [World.size_alloc, hg13]] at hge
  have HGE2 := Aside0.mk hge
  have HLT8 : Aside0 (g8 < g13) := Aside0.mk (by have := blk_lt H82.out; omega)
  have HLT1 : Aside0 (W.heap.size ≤ g8) := Aside0.mk (by have := HB1.out.size; omega)
  rw [hg8] at H83 ⊢
  rw [hg13] at H133 ⊢
  clear hge HGE hg8 hg13 y0 y1 y2 y3 x0 x1 x2 x3 z0 z1 z2 z3 H82 HX HX1 HX2 HB0 HB1 HB2 HG4 hW0 hg4
  have HLEN : Aside0 (zs.length ≤ 1000001) := Aside0.mk (by have := HZ.out.1; have := HNN.out; omega)
  have hbt := HBS.out
  have HB31 := Aside0.mk (blk_lt hbt.1)
  have HB32 := Aside0.mk (blk_lt hbt.2.1)
  have HB33 := Aside0.mk (blk_lt hbt.2.2)
  obtain ⟨i0, hi0, hz0, hz1, hz2⟩ := info_parts info3
  refine wpIn_rangeFunc_ownG rfl (by decide) (gf := 33) (lb := #[.pointer (some ⟨b1, 0, none⟩), .pointer (some ⟨b2, 0, none⟩), .pointer (some ⟨b3, 0, none⟩)]) rfl trivial (enters_of Try.func33 (by kernel_rfl) rfl)
    (places_stops l A c HL.out u D q HQ.out k n zs HZ.out HNN.out 2 (by decide) b1 b2 b3 W HC.out HD.out w3 HB3.out hbt) KI_t (KI_b HB3.out.size HB31.out HB32.out HB33.out) (Below.refl _ _) (fun _ => rfl)
    (fun pre Wx => (∃ v, Boxed Wx g13 35 v ∧ Wx.ownsRow w3.heap.size 3 1 v (clsS want pre).length ((clsS want pre).map (Value.int .i64)) ∧ True) ∧ Kp w3 Wx (fun k => k = g13))
    (fun _ _ _ => False)
    (OwnFrom.and (Own.from (holdsRow_own w3.heap.size g13 35 3 1 (fun pre => (clsS want pre).length) (fun pre => (clsS want pre).map (Value.int .i64)) (fun pre v => True)) _) (kp_own w3 (fun k => k = g13)))
    (fun _ _ _ _ _ hs _ _ => hs)
    ⟨⟨_, H133.out, World.ownsRow_nil _ _ _ _, trivial⟩, Kp.refl _ _⟩
    (fun x => { tmps := #[.slice A l.length c, .agg #[.int .i64 u.f0, .int .i64 u.f1, .string u.f2, .slice D u.f3.length q], .int .i64 off, undef, .pointer (some ⟨g4, 0, none⟩), undef, .slice none 0 0, .int .i64 0, .pointer (some ⟨g8, 0, none⟩), .int .i64 0, .int .i64 (n : Int), .int .i64 s2, .int .i64 s3, .pointer (some ⟨g13, 0, none⟩), .int .i64 x.1.1, .int .i64 x.1.2, .tuple #[.int .i64 want, .int .i64 0], .slice A l.length c, .agg #[.int .i64 u.f0, .int .i64 u.f1, .string u.f2, .slice D u.f3.length q], .int .i64 off, .tuple #[.int .i64 want, .int .i64 0], .int .i64 want, .int .i64 0, .int .i64 0, .bool false, undef, .tuple #[.int .i64 (n : Int), .int .i64 s2, .int .i64 s3], .slice A l.length c, .agg #[.int .i64 u.f0, .int .i64 u.f1, .string u.f2, .slice D u.f3.length q], .tuple #[.int .i64 (n : Int), .int .i64 s2, .int .i64 s3], .int .i64 (n : Int), .int .i64 s2, .int .i64 s3, .slice A l.length c, .agg #[.int .i64 u.f0, .int .i64 u.f1, .string u.f2, .slice D u.f3.length q], .int .i64 (n : Int), .func (.func 33) #[] #[.pointer (some ⟨b1, 0, none⟩), .pointer (some ⟨b2, 0, none⟩), .pointer (some ⟨b3, 0, none⟩)], .int .i64 x.1.1, .int .i64 x.1.2, undef, undef, undef, undef, undef, undef, undef, undef], defers := [] }) ?assign ?body ?done ?stop
  case assign =>
    intro ll x Wx K hK
    dsimp only [encP]
    gi_wp2
    exact hK
  case body =>
    rintro ll pre x Wx ⟨⟨v, hv, hrow, _⟩, hK⟩ hlt
    have HK := Aside0.mk hK
    have HV := Aside0.mk hv
    have HROW := Aside0.mk hrow
    have hc := hv.cell
    have h8 : Wx.cell? ⟨g8, 0, none⟩ = some (.int .i64 want) := cell1 ((HK.out.block g8 (blk_lt H83.out) (by have := HLT8.out; omega)).trans H83.out)
    have hpl : Aside0 ((clsS want pre).length ≤ 1000001) := Aside0.mk (by have := cls_len want pre; have := HLEN.out; omega)
    have hsz : Aside0 (w3.heap.size ≤ Wx.heap.size) := Aside0.mk HK.out.size
    clear hK hv hrow
    by_cases hx : x.1.2 = want
    · have hxb : (x.1.2 == want) = true := beq_iff_eq.mpr hx
      have HHX := Aside0.mk hx
      clear hx
      gi_wp2_with (gi_at_builtin; refine wpListIn_append_own _ rfl _ _ 35 rfl w3.heap.size 3 i0 (.int .i64 0) 1 8 Try.underlying35 hi0 hz0 hz1 hz2 rfl (by decide) _ _ _ rfl (HROW.out.alloc _) ⟨Wx.heap.size, 0, none⟩ 1 1 [.int .i64 x.1.1] rfl rfl (cell_one_new _ _ _) (by simp [Value.oneCell']) (by have := hpl.out; unfold maxLen; omega) (by have := hpl.out; omega) (by have := hsz.out; simp; omega) ?_; intro v' w5 hown' hgrow _; obtain ⟨g', cap', rfl⟩ := ownsRow_succ hown'; obtain ⟨hv1, hv2, hr2, hk2, hb2⟩ := appended2 HV.out (by decide) HROW.out hown' hgrow; have hc1 := hv1.cell; have hf1 := hv1.frozen)
      have hs1 := HB3.out.size
      have hs2 := hsz.out
      have hs3 := HLT1.out
      have hs4 := HLT8.out
      have hs5 := HGE2.out
      have hs6 := HB31.out
      have hs7 := HB32.out
      have hs8 := HB33.out
      exact ⟨hk2.from _, ⟨kp_below hb2 (by omega) (fun k hk => by omega), hb2.block b1 (by omega) (by omega), hb2.block b2 (by omega) (by omega), hb2.block b3 (by omega) (by omega)⟩, ⟨_, hv2, by rw [cls_hit pre HHX.out]; simpa using hr2, trivial⟩, HK.out.then_ hb2 (fun k hk => hk)⟩
    · have hxb : (x.1.2 == want) = false := beq_eq_false_iff_ne.mpr hx
      have HHX := Aside0.mk hx
      clear hx
      gi_wp2
      exact ⟨KeepsFrom.refl _ _, ⟨Below.refl _ _, rfl, rfl, rfl⟩, ⟨v, HV.out, by rw [cls_miss pre HHX.out]; exact HROW.out, trivial⟩, HK.out⟩
  case done =>
    rintro Dq ys Wx hDq rfl ⟨⟨v, hv, hrow, _⟩, hK⟩ hKd
    have hc := hv.cell
    gi_wp2
    have hform : ∃ A' c', v = .slice A' (clsS want ys).length c' := by
      rcases hrow.2 with ⟨h1, h2⟩ | ⟨g, cap, cur, h1, _⟩
      · exact ⟨none, 0, by rw [h1, h2]⟩
      · exact ⟨_, _, h1⟩
    obtain ⟨A', c', rfl⟩ := hform
    refine ⟨by simp, .inl ⟨_, _, rfl, run_takeDeferred hKd, ?_⟩⟩
    have hown := ownsRow_putObj hrow (.deferred none) hKd rfl
    obtain ⟨hR, hcap⟩ := own_ints rfl hown
    exact ⟨_, results_tmp2 rfl _ _ _, A', c', rfl, hR, hcap, Kp.below_of HB3.out (hK.grown (grownBy_putObj' Wx Dq (.deferred none)) (fun k hk => .inr (by cases hk; exact hDq))) (fun k hk => by have h1 := HLT1.out; have h2 := HLT8.out; omega)⟩
  case stop =>
    rintro Dq cq pre Wx _ _ h _
    exact h.elim
end Go.Proofs.Ytndcnhbcconbcaa.G
