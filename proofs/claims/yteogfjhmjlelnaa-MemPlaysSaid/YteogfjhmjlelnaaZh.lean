/- Merged texts (by slim.py): what the law's proof names. -/
import Derived.Test.YteogfjhmjlelnaaZg
set_option linter.unusedVariables false
set_option linter.unusedSimpArgs false
namespace Go.Proofs.Yteogfjhmjlelnaa.G
open Go.RowKit Go.Proofs.Yteogfjhmjlelnaa.B Go.Proofs.YteogfjhmjlelnaaW.PrintWords Go.Proofs.YteogfjhmjlelnaaW.PrintLast Go.Proofs.YteogfjhmjlelnaaW.PrintMore
theorem q44 {W : World} {g t : Nat} {a b c d e f x y z u : Value} (h : W.heap[g]? = some (.cells #[a, b, c, d, e, f, x, y, z, u] t (0, 0))) : W.cell? ⟨g, 0, none⟩ = some a ∧ W.cell? ⟨g, 1, none⟩ = some b ∧ W.cell? ⟨g, 2, none⟩ = some c ∧ W.cell? ⟨g, 3, none⟩ = some d ∧ W.cell? ⟨g, 4, none⟩ = some e ∧ W.cell? ⟨g, 5, none⟩ = some f ∧ W.cell? ⟨g, 6, none⟩ = some x ∧ W.cell? ⟨g, 7, none⟩ = some y ∧ W.cell? ⟨g, 8, none⟩ = some z ∧ W.cell? ⟨g, 9, none⟩ = some u := by
 have k := q16 h
 exact ⟨(k 0).trans rfl, (k 1).trans rfl, (k 2).trans rfl, (k 3).trans rfl, (k 4).trans rfl, (k 5).trans rfl, (k 6).trans rfl, (k 7).trans rfl, (k 8).trans rfl, (k 9).trans rfl⟩
theorem find_at {s : List Mb} {j : Int} {m : Mb} (hf : findS s j = some m) : ∃ q : Nat, j = (q : Int) + 1 ∧ q < s.length ∧ s[q]? = some m := by
 unfold findS at hf
 split at hf
 ·rename_i h1
  have h2 := (List.getElem?_eq_some_iff.1 hf).1
  exact ⟨j.toNat - 1, by omega, h2, hf⟩
 ·cases hf
theorem refAt {W : World} {A : Option Addr} {s : List Mb} {q : Nat} {m : Mb} (h : Kd.C H.k69 W A (eR s).length (eR s)) (hm : s[q]? = some m) : ∃ ad A1 c1, A = some ad ∧ W.cell? (ad.add (q * 3)) = some (.int .i64 m.site) ∧ W.cell? ⟨(ad.add (q * 3)).block, (ad.add (q * 3)).off + 1, none⟩ = some (.slice A1 m.l.length c1) ∧ W.cell? ⟨(ad.add (q * 3)).block, (ad.add (q * 3)).off + 2, none⟩ = some (.bool (!m.there)) ∧ m.l.length ≤ c1 ∧ Kd.C H.k42 W A1 m.l.length (m.l.map e42) := by
 have hl := (List.getElem?_eq_some_iff.1 hm).1
 obtain ⟨ad, A1, c1, hA, h0, h1, h2, h3, h4⟩ := H.at_T69 h (q : Int) (Int.natCast_nonneg q) (by rw [eR_len]; omega)
 rw [rd_eR hm _ rfl] at h0 h1 h2 h3 h4
 rw [Int.toNat_natCast] at h0 h1 h2
 have he : (e69 m).f1.length = m.l.length := List.length_map ..
 rw [he] at h1 h3 h4
 exact ⟨ad, A1, c1, hA, h0, h1, h2, h3, h4⟩
theorem r_same' {W : World} {b c c2 n : Nat} {A A2 : Option Addr} {l : List Bt} (h : Row W b (.slice A n c) l) (hl : l.length ≤ 4096) (h2 : Kd.C H.k42 W A2 l.length (l.map e42)) (hc2 : l.length ≤ c2) :
  Calls Try.prog 22 #[.slice A n c, .slice A2 l.length c2] W fun e w' => e = .returned (.bool true) ∧ Below W.heap.size W w' := by
 have hm : (l.map e42).length = l.length := List.length_map ..
 rw [← hm] at h2 hc2 ⊢
 exact r_same h hl h2 hc2
set_option maxRecDepth 100000 in
set_option maxHeartbeats 16000000 in
theorem MemPlays_walk (ds : List Dd) (A0 : Option Addr) (c0 : Nat) (w : World) (hl0 : ds.length ≤ c0) (hC0 : Kd.C kD w A0 ds.length ds) (hw : ∀ d ∈ ds, wfD d) :
  Calls Try.prog 9 #[.slice A0 ds.length c0] w fun e w' => e = .returned (.bool true) ∧ Below w.heap.size w w' := by
 have HC := Aside0.mk hC0
 have HW := Aside0.mk hw
 clear hC0 hw
 go_enter Try.func9, Try.ntmps9
 go_upto_block 0 with (first | (go_at_call 10; refine (shown_calls _).mono ?_; rintro e w1 ⟨rfl, hk⟩; have HB := Aside0.mk hk; clear hk) | (go_at_call 11; refine (Live.new _ HB.out).mono ?_; rintro e wn ⟨rfl, hL, hk⟩; have HL := Aside0.mk hL; clear hL hk))
 clear HB
 go_wp2_with fail
 go_loopw [6, 5] (fun i r wx => ∃ (j : Nat) (s : List Mb) (gs : List Nat) (A : Option Addr) (c : Nat), j ≤ ds.length ∧ j ≤ 60 ∧ i = .int .i64 j ∧ r = .slice A (eR s).length c ∧ Hid (Live w wx w1.heap.size gs s) ∧ Hid (RV wx w1.heap.size gs [] (.slice A (eR s).length c) s) ∧ Hid (Inv s)) (fun i _ _ => 60 - (intOf i).toNat)
 case atStart => exact ⟨0, [], [], none, 0, Nat.zero_le _, Nat.zero_le _, rfl, rfl, HL.out, RV.nil _ _ _, Inv.nil⟩
 case round =>
  obtain ⟨j, s, gs, A, c, hj1, hj60, rfl, rfl, hL, hR, hI⟩ := hrel
  replace HL := Aside0.mk hL
  have HR := Aside0.mk hR
  have HI : Aside0 (Inv s) := Aside0.mk hI
  clear hL hR hI
  by_cases hlt : j < ds.length ∧ j < 60
  ·obtain ⟨hlt1, hlt2⟩ := hlt
   have hji : (j : Int) < (ds.length : Int) := by omega
   have hj6 : (j : Int) < 60 := by omega
   have hj0 : (0 : Int) ≤ (j : Int) := by omega
   have HJ := Aside0.mk (And.intro hlt1 hlt2)
   clear hj1 hj60 hlt1 hlt2
   obtain ⟨ad, rfl, hd0, hd⟩ := at_D (Kd.C_below HC.out HL.out.below) j hji
   have hwfd := HW.out (rd_D ds j) (by have h1 := HJ.out.1; unfold rd_D; rw [List.getD_eq_getElem?_getD, List.getElem?_eq_getElem h1]; exact List.getElem_mem h1)
   have HWD := Aside0.mk hwfd
   clear hwfd
   rcases hdd : rd_D ds j with ⟨kd, sz, zr, P, Q, N⟩
   rw [hdd] at hd0 hd HWD
   have hd1 := hd 1 _ rfl (by decide)
   have hd2 := hd 2 _ rfl (by decide)
   have hd3 := hd 3 _ rfl (by decide)
   have hd4 := hd 4 _ rfl (by decide)
   have hd5 := hd 5 _ rfl (by decide)
   have hd6 := hd 6 _ rfl (by decide)
   have hd7 := hd 7 _ rfl (by decide)
   have hd8 := hd 8 _ rfl (by decide)
   have hd9 := hd 9 _ rfl (by decide)
   clear hd hdd
   go_upto_region 8 with (fail)
   have hwj : IntKind.i64.wrap ((j : Int) + 1) = (j : Int) + 1 := by rw [IntKind.wrap_i64]; omega
   clear hd0 hd1 hd2 hd3 hd4 hd5 hd6 hd7 hd8 hd9 hji hj6 hj0
   have hk := q10 (Below.refl wr.heap.size wr) (.cells #[.int .i64 kd, .int .i64 sz, .bool zr, .int .i64 P.n, .int .i64 P.b, .int .i64 P.f, .int .i64 Q.n, .int .i64 Q.b, .int .i64 Q.f, .int .i64 N] 55)
   have HX := Aside0.mk (q33 wr (.cells #[.int .i64 kd, .int .i64 sz, .bool zr, .int .i64 P.n, .int .i64 P.b, .int .i64 P.f, .int .i64 Q.n, .int .i64 Q.b, .int .i64 Q.f, .int .i64 N] 55))
   replace HR := Aside0.mk (HR.out.below HL.out hk)
   have hsz := HL.out.size
   replace HL := Aside0.mk (HL.out.low hk)
   clear hk
   generalize wr.heap.size = g7 at HX HR hsz  ⊢
   generalize wr.alloc (.cells #[.int .i64 kd, .int .i64 sz, .bool zr, .int .i64 P.n, .int .i64 P.b, .int .i64 P.f, .int .i64 Q.n, .int .i64 Q.b, .int .i64 Q.f, .int .i64 N] 55) = wn at HL HR  HX ⊢
   have HG7 := Aside0.mk hsz
   clear hsz
   obtain ⟨hx0, hx1, hx2, hx3, hx4, hx5, hx6, hx7, hx8, hx9⟩ := q44 HX.out
   by_cases hP : Well P
   ·have HWP := Aside0.mk hP
    clear hP
    by_cases hQ : Well Q
    ·have HWQ := Aside0.mk hQ
     clear hQ
     go_upto_region 9 with (first | (go_at_call 13; with_reducible refine (well_yes P _ HWP.out).mono ?_; rintro e wn ⟨rfl, hk⟩; clear hx0 hx1 hx2 hx3 hx4 hx5 hx6 hx7 hx8 hx9; replace HX := Aside0.mk (q19 HX.out hk); replace HR := Aside0.mk (HR.out.below HL.out hk); replace HL := Aside0.mk (HL.out.low hk); clear hk; obtain ⟨hx0, hx1, hx2, hx3, hx4, hx5, hx6, hx7, hx8, hx9⟩ := q44 HX.out) | (go_at_call 13; with_reducible refine (well_yes Q _ HWQ.out).mono ?_; rintro e wn ⟨rfl, hk⟩; clear hx0 hx1 hx2 hx3 hx4 hx5 hx6 hx7 hx8 hx9; replace HX := Aside0.mk (q19 HX.out hk); replace HR := Aside0.mk (HR.out.below HL.out hk); replace HL := Aside0.mk (HL.out.low hk); clear hk; obtain ⟨hx0, hx1, hx2, hx3, hx4, hx5, hx6, hx7, hx8, hx9⟩ := q44 HX.out))
     go_upto_region 10 with (fail)
     clear hx0 hx1 hx2 hx3 hx4 hx5 hx6 hx7 hx8 hx9
     have hk := q10 (Below.refl wn.heap.size wn) (.cells #[.int .i64 0, .int .i64 0, .int .i64 0] 23)
     have hlt_HX := q30 HX.out
     replace HX := Aside0.mk (q19 HX.out hk)
     have HY8 := Aside0.mk (q33 wn (.cells #[.int .i64 0, .int .i64 0, .int .i64 0] 23))
     replace HR := Aside0.mk (HR.out.box HL.out (.cells #[.int .i64 0, .int .i64 0, .int .i64 0] 23))
     have hsz := HL.out.size
     replace HL := Aside0.mk (HL.out.low hk)
     clear hk
     generalize wn.heap.size = g8 at HY8 HR hsz hlt_HX ⊢
     generalize wn.alloc (.cells #[.int .i64 0, .int .i64 0, .int .i64 0] 23) = wn at HL HR HX HY8 ⊢
     have HG8 := Aside0.mk hlt_HX
     clear hsz hlt_HX
     go_upto_region 11 with (fail)
     have hk := q10 (Below.refl wn.heap.size wn) (.cells #[.int .i64 0, .int .i64 0, .int .i64 0] 23)
     have hlt_HX := q30 HX.out
     replace HX := Aside0.mk (q19 HX.out hk)
     have hlt_HY8 := q30 HY8.out
     replace HY8 := Aside0.mk (q19 HY8.out hk)
     have HY9 := Aside0.mk (q33 wn (.cells #[.int .i64 0, .int .i64 0, .int .i64 0] 23))
     replace HR := Aside0.mk (HR.out.box HL.out (.cells #[.int .i64 0, .int .i64 0, .int .i64 0] 23))
     have hsz := HL.out.size
     replace HL := Aside0.mk (HL.out.low hk)
     clear hk
     generalize wn.heap.size = g9 at HY9 HR hsz hlt_HX hlt_HY8 ⊢
     generalize wn.alloc (.cells #[.int .i64 0, .int .i64 0, .int .i64 0] 23) = wn at HL HR HX HY8 HY9 ⊢
     have HG9 := Aside0.mk hlt_HY8
     clear hsz hlt_HX hlt_HY8
     have HS : Aside0 (St w wn w1.heap.size gs (.slice A (eR s).length c) s s g7 g8 g9 #[.int .i64 kd, .int .i64 sz, .bool zr, .int .i64 P.n, .int .i64 P.b, .int .i64 P.f, .int .i64 Q.n, .int .i64 Q.b, .int .i64 Q.f, .int .i64 N] ⟨0, 0, 0⟩ ⟨0, 0, 0⟩) := Aside0.mk (St.mk HL.out HR.out HX.out HY8.out HY9.out HG7.out HG8.out HG9.out)
     clear HL HR HX HY8 HY9 HG7 HG8 HG9
     obtain ⟨-, hsz', hwp, hwq, hwn⟩ := HWD.out
     have HP : Aside0 (I64 P.b) := Aside0.mk (bounds_i64 hwp.2.1)
     have HPN : Aside0 (I64 P.n) := Aside0.mk (bounds_i64 hwp.1)
     have HQ : Aside0 (I64 Q.b) := Aside0.mk (bounds_i64 hwq.2.1)
     have HSZ : Aside0 (I64 sz) := Aside0.mk (bounds_i64 hsz')
     have HN : Aside0 (I64 N) := Aside0.mk (bounds_i64 hwn)
     clear hsz' hwp hwq hwn HWD
     obtain ⟨hx0, hx1, hx2, hx3, hx4, hx5, hx6, hx7, hx8, hx9⟩ := q44 HS.out.b7; obtain ⟨ha0, ha1, ha2⟩ := cell3 HS.out.b8; obtain ⟨hb0, hb1, hb2⟩ := cell3 HS.out.b9; have hf0 := q0 HS.out.b8 0; have hf1 := q0 HS.out.b8 1; have hf2 := q0 HS.out.b8 2; have hf3 := q0 HS.out.b9 0; have hf4 := q0 HS.out.b9 1; have hf5 := q0 HS.out.b9 2
     go_upto_block 2 with (fail)
     by_cases h0 : kd = 0
     ·subst h0
      as_aux_lemma =>
       go_upto_region 18 with (first | (go_at_call 12; with_reducible refine (HS.out.live.alloc' HI.out.len (j : Int) sz zr).mono ?_; rintro e wn ⟨rfl, gs', hL, hk, hg⟩; clear hx0 hx1 hx2 hx3 hx4 hx5 hx6 hx7 hx8 hx9; clear ha0 ha1 ha2 hb0 hb1 hb2 hf0 hf1 hf2 hf3 hf4 hf5; replace HS := Aside0.mk (HS.out.fr hL hk hg); clear hL hk hg; obtain ⟨hx0, hx1, hx2, hx3, hx4, hx5, hx6, hx7, hx8, hx9⟩ := q44 HS.out.b7; obtain ⟨ha0, ha1, ha2⟩ := cell3 HS.out.b8; obtain ⟨hb0, hb1, hb2⟩ := cell3 HS.out.b9; have hf0 := q0 HS.out.b8 0; have hf1 := q0 HS.out.b8 1; have hf2 := q0 HS.out.b8 2; have hf3 := q0 HS.out.b9 0; have hf4 := q0 HS.out.b9 1; have hf5 := q0 HS.out.b9 2))
       clear hx0 hx1 hx2 hx3 hx4 hx5 hx6 hx7 hx8 hx9; clear ha0 ha1 ha2 hb0 hb1 hb2 hf0 hf1 hf2 hf3 hf4 hf5
       replace HS := Aside0.mk (HS.out.at8 (allocS s (j : Int) sz zr).2.1)
       generalize (wn.setCell ⟨g8, 1, none⟩ (.int .i64 (allocS s (j : Int) sz zr).2.1)) = wn at HS ⊢
       obtain ⟨hx0, hx1, hx2, hx3, hx4, hx5, hx6, hx7, hx8, hx9⟩ := q44 HS.out.b7; obtain ⟨ha0, ha1, ha2⟩ := cell3 HS.out.b8; obtain ⟨hb0, hb1, hb2⟩ := cell3 HS.out.b9; have hf0 := q0 HS.out.b8 0; have hf1 := q0 HS.out.b8 1; have hf2 := q0 HS.out.b8 2; have hf3 := q0 HS.out.b9 0; have hf4 := q0 HS.out.b9 1; have hf5 := q0 HS.out.b9 2
       go_upto_region 21 with (first | (go_at_call 23; refine (r_alloc HS.out.live HI.out HS.out.rv HS.out.x (j : Int) sz zr).mono ?_; rintro e wn ⟨A1, c1, rfl, hr, hk⟩; clear hx0 hx1 hx2 hx3 hx4 hx5 hx6 hx7 hx8 hx9; clear ha0 ha1 ha2 hb0 hb1 hb2 hf0 hf1 hf2 hf3 hf4 hf5; replace HS := Aside0.mk (HS.out.ref hr hk); clear hr hk; obtain ⟨hx0, hx1, hx2, hx3, hx4, hx5, hx6, hx7, hx8, hx9⟩ := q44 HS.out.b7; obtain ⟨ha0, ha1, ha2⟩ := cell3 HS.out.b8; obtain ⟨hb0, hb1, hb2⟩ := cell3 HS.out.b9; have hf0 := q0 HS.out.b8 0; have hf1 := q0 HS.out.b8 1; have hf2 := q0 HS.out.b8 2; have hf3 := q0 HS.out.b9 0; have hf4 := q0 HS.out.b9 1; have hf5 := q0 HS.out.b9 2))
       clear hx0 hx1 hx2 hx3 hx4 hx5 hx6 hx7 hx8 hx9; clear ha0 ha1 ha2 hb0 hb1 hb2 hf0 hf1 hf2 hf3 hf4 hf5
       replace HS := Aside0.mk (HS.out.at9 (allocS s (j : Int) sz zr).2.1)
       generalize (wn.setCell ⟨g9, 1, none⟩ (.int .i64 (allocS s (j : Int) sz zr).2.1)) = wn at HS ⊢
       obtain ⟨hx0, hx1, hx2, hx3, hx4, hx5, hx6, hx7, hx8, hx9⟩ := q44 HS.out.b7; obtain ⟨ha0, ha1, ha2⟩ := cell3 HS.out.b8; obtain ⟨hb0, hb1, hb2⟩ := cell3 HS.out.b9; have hf0 := q0 HS.out.b8 0; have hf1 := q0 HS.out.b8 1; have hf2 := q0 HS.out.b8 2; have hf3 := q0 HS.out.b9 0; have hf4 := q0 HS.out.b9 1; have hf5 := q0 HS.out.b9 2
       go_wp2_with fail
       have ⟨hJ1, hJ2⟩ := HJ.out
       go_roundw
       case rel => exact ⟨j + 1, (allocS s (j : Int) sz zr).1, gs', _, _, hJ1, hJ2, by go_num, rfl, HS.out.out.1, HS.out.out.2, HI.out.alloc (j : Int) sz zr⟩
       case measure => simp [intOf]; omega
     have hk0 : (kd == 0) = false := beq_eq_false_iff_ne.mpr h0
     clear h0
     by_cases h1 : kd = 1
     ·subst h1
      as_aux_lemma =>
       go_upto_region 24 with (first | (go_at_call 21; with_reducible refine (HS.out.live.end_ P.b _ rfl).mono ?_; rintro e wn ⟨rfl, hL, hk⟩; clear hx0 hx1 hx2 hx3 hx4 hx5 hx6 hx7 hx8 hx9; clear ha0 ha1 ha2 hb0 hb1 hb2 hf0 hf1 hf2 hf3 hf4 hf5; replace HS := Aside0.mk (HS.out.fr hL hk (fun _ h => .inl h)); clear hL hk; obtain ⟨hx0, hx1, hx2, hx3, hx4, hx5, hx6, hx7, hx8, hx9⟩ := q44 HS.out.b7; obtain ⟨ha0, ha1, ha2⟩ := cell3 HS.out.b8; obtain ⟨hb0, hb1, hb2⟩ := cell3 HS.out.b9; have hf0 := q0 HS.out.b8 0; have hf1 := q0 HS.out.b8 1; have hf2 := q0 HS.out.b8 2; have hf3 := q0 HS.out.b9 0; have hf4 := q0 HS.out.b9 1; have hf5 := q0 HS.out.b9 2))
       go_upto_region 39 with (first | (go_at_call 24; refine (r_end HS.out.live HI.out HS.out.rv HS.out.x P.b HP.out).mono ?_; rintro e wn ⟨A1, c1, rfl, hr, hk⟩; clear hx0 hx1 hx2 hx3 hx4 hx5 hx6 hx7 hx8 hx9; clear ha0 ha1 ha2 hb0 hb1 hb2 hf0 hf1 hf2 hf3 hf4 hf5; replace HS := Aside0.mk (HS.out.ref hr hk); clear hr hk; obtain ⟨hx0, hx1, hx2, hx3, hx4, hx5, hx6, hx7, hx8, hx9⟩ := q44 HS.out.b7; obtain ⟨ha0, ha1, ha2⟩ := cell3 HS.out.b8; obtain ⟨hb0, hb1, hb2⟩ := cell3 HS.out.b9; have hf0 := q0 HS.out.b8 0; have hf1 := q0 HS.out.b8 1; have hf2 := q0 HS.out.b8 2; have hf3 := q0 HS.out.b9 0; have hf4 := q0 HS.out.b9 1; have hf5 := q0 HS.out.b9 2))
       go_wp2_with fail
       have ⟨hJ1, hJ2⟩ := HJ.out
       go_roundw
       case rel => exact ⟨j + 1, (endS s P.b).1, gs, _, _, hJ1, hJ2, by go_num, rfl, HS.out.out.1, HS.out.out.2, HI.out.end_ P.b⟩
       case measure => simp [intOf]; omega
     have hk1 : (kd == 1) = false := beq_eq_false_iff_ne.mpr h1
     clear h1
     by_cases h2 : kd = 2
     ·subst h2
      as_aux_lemma =>
       go_upto_region 27 with (first | (go_at_call 14; with_reducible refine (HS.out.live.load P sz _ rfl).mono ?_; rintro e wn ⟨rfl, hL, hk⟩; clear hx0 hx1 hx2 hx3 hx4 hx5 hx6 hx7 hx8 hx9; clear ha0 ha1 ha2 hb0 hb1 hb2 hf0 hf1 hf2 hf3 hf4 hf5; replace HS := Aside0.mk (HS.out.low hk); clear hL hk; obtain ⟨hx0, hx1, hx2, hx3, hx4, hx5, hx6, hx7, hx8, hx9⟩ := q44 HS.out.b7; obtain ⟨ha0, ha1, ha2⟩ := cell3 HS.out.b8; obtain ⟨hb0, hb1, hb2⟩ := cell3 HS.out.b9; have hf0 := q0 HS.out.b8 0; have hf1 := q0 HS.out.b8 1; have hf2 := q0 HS.out.b8 2; have hf3 := q0 HS.out.b9 0; have hf4 := q0 HS.out.b9 1; have hf5 := q0 HS.out.b9 2))
       clear hx0 hx1 hx2 hx3 hx4 hx5 hx6 hx7 hx8 hx9; clear ha0 ha1 ha2 hb0 hb1 hb2 hf0 hf1 hf2 hf3 hf4 hf5
       replace HS := Aside0.mk (HS.out.put8 (loadS s P sz).1)
       generalize (((wn.setCell ⟨g8, 0, none⟩ (.int .i64 (loadS s P sz).1.n)).setCell ⟨g8, 1, none⟩ (.int .i64 (loadS s P sz).1.b)).setCell ⟨g8, 2, none⟩ (.int .i64 (loadS s P sz).1.f)) = wn at HS ⊢
       obtain ⟨hx0, hx1, hx2, hx3, hx4, hx5, hx6, hx7, hx8, hx9⟩ := q44 HS.out.b7; obtain ⟨ha0, ha1, ha2⟩ := cell3 HS.out.b8; obtain ⟨hb0, hb1, hb2⟩ := cell3 HS.out.b9; have hf0 := q0 HS.out.b8 0; have hf1 := q0 HS.out.b8 1; have hf2 := q0 HS.out.b8 2; have hf3 := q0 HS.out.b9 0; have hf4 := q0 HS.out.b9 1; have hf5 := q0 HS.out.b9 2
       go_upto_region 39 with (first | (go_at_call 25; with_reducible refine (r_load HS.out.live HI.out HS.out.rv P HP.out sz).mono ?_; rintro e wn ⟨rfl, hk⟩; clear hx0 hx1 hx2 hx3 hx4 hx5 hx6 hx7 hx8 hx9; clear ha0 ha1 ha2 hb0 hb1 hb2 hf0 hf1 hf2 hf3 hf4 hf5; replace HS := Aside0.mk (HS.out.low hk); clear hk; obtain ⟨hx0, hx1, hx2, hx3, hx4, hx5, hx6, hx7, hx8, hx9⟩ := q44 HS.out.b7; obtain ⟨ha0, ha1, ha2⟩ := cell3 HS.out.b8; obtain ⟨hb0, hb1, hb2⟩ := cell3 HS.out.b9; have hf0 := q0 HS.out.b8 0; have hf1 := q0 HS.out.b8 1; have hf2 := q0 HS.out.b8 2; have hf3 := q0 HS.out.b9 0; have hf4 := q0 HS.out.b9 1; have hf5 := q0 HS.out.b9 2))
       clear hx0 hx1 hx2 hx3 hx4 hx5 hx6 hx7 hx8 hx9; clear ha0 ha1 ha2 hb0 hb1 hb2 hf0 hf1 hf2 hf3 hf4 hf5
       replace HS := Aside0.mk (HS.out.put9 (loadS s P sz).1)
       generalize (((wn.setCell ⟨g9, 0, none⟩ (.int .i64 (loadS s P sz).1.n)).setCell ⟨g9, 1, none⟩ (.int .i64 (loadS s P sz).1.b)).setCell ⟨g9, 2, none⟩ (.int .i64 (loadS s P sz).1.f)) = wn at HS ⊢
       obtain ⟨hx0, hx1, hx2, hx3, hx4, hx5, hx6, hx7, hx8, hx9⟩ := q44 HS.out.b7; obtain ⟨ha0, ha1, ha2⟩ := cell3 HS.out.b8; obtain ⟨hb0, hb1, hb2⟩ := cell3 HS.out.b9; have hf0 := q0 HS.out.b8 0; have hf1 := q0 HS.out.b8 1; have hf2 := q0 HS.out.b8 2; have hf3 := q0 HS.out.b9 0; have hf4 := q0 HS.out.b9 1; have hf5 := q0 HS.out.b9 2
       go_wp2_with fail
       have ⟨hJ1, hJ2⟩ := HJ.out
       go_roundw
       case rel => exact ⟨j + 1, s, gs, A, c, hJ1, hJ2, by go_num, rfl, HS.out.out.1, HS.out.out.2, HI.out⟩
       case measure => simp [intOf]; omega
     have hk2 : (kd == 2) = false := beq_eq_false_iff_ne.mpr h2
     clear h2
     by_cases h3 : kd = 3
     ·subst h3
      as_aux_lemma =>
       go_upto_region 30 with (first | (go_at_call 16; with_reducible refine (HS.out.live.store P sz Q _ rfl).mono ?_; rintro e wn ⟨rfl, hL, hk⟩; clear hx0 hx1 hx2 hx3 hx4 hx5 hx6 hx7 hx8 hx9; clear ha0 ha1 ha2 hb0 hb1 hb2 hf0 hf1 hf2 hf3 hf4 hf5; replace HS := Aside0.mk (HS.out.fr hL hk (fun _ h => .inl h)); clear hL hk; obtain ⟨hx0, hx1, hx2, hx3, hx4, hx5, hx6, hx7, hx8, hx9⟩ := q44 HS.out.b7; obtain ⟨ha0, ha1, ha2⟩ := cell3 HS.out.b8; obtain ⟨hb0, hb1, hb2⟩ := cell3 HS.out.b9; have hf0 := q0 HS.out.b8 0; have hf1 := q0 HS.out.b8 1; have hf2 := q0 HS.out.b8 2; have hf3 := q0 HS.out.b9 0; have hf4 := q0 HS.out.b9 1; have hf5 := q0 HS.out.b9 2))
       go_upto_region 39 with (first | (go_at_call 26; refine (r_store HS.out.live HI.out HS.out.rv HS.out.x P Q HP.out sz HWQ.out).mono ?_; rintro e wn ⟨A1, c1, rfl, hr, hk⟩; clear hx0 hx1 hx2 hx3 hx4 hx5 hx6 hx7 hx8 hx9; clear ha0 ha1 ha2 hb0 hb1 hb2 hf0 hf1 hf2 hf3 hf4 hf5; replace HS := Aside0.mk (HS.out.ref hr hk); clear hr hk; obtain ⟨hx0, hx1, hx2, hx3, hx4, hx5, hx6, hx7, hx8, hx9⟩ := q44 HS.out.b7; obtain ⟨ha0, ha1, ha2⟩ := cell3 HS.out.b8; obtain ⟨hb0, hb1, hb2⟩ := cell3 HS.out.b9; have hf0 := q0 HS.out.b8 0; have hf1 := q0 HS.out.b8 1; have hf2 := q0 HS.out.b8 2; have hf3 := q0 HS.out.b9 0; have hf4 := q0 HS.out.b9 1; have hf5 := q0 HS.out.b9 2))
       go_wp2_with fail
       have ⟨hJ1, hJ2⟩ := HJ.out
       go_roundw
       case rel => exact ⟨j + 1, (storeS s P sz Q).1, gs, _, _, hJ1, hJ2, by go_num, rfl, HS.out.out.1, HS.out.out.2, HI.out.store P sz Q⟩
       case measure => simp [intOf]; omega
     have hk3 : (kd == 3) = false := beq_eq_false_iff_ne.mpr h3
     clear h3
     by_cases h4 : kd = 4
     ·subst h4
      as_aux_lemma =>
       go_upto_region 33 with (first | (go_at_call 18; with_reducible refine (HS.out.live.copy P Q N _ rfl).mono ?_; rintro e wn ⟨rfl, hL, hk⟩; clear hx0 hx1 hx2 hx3 hx4 hx5 hx6 hx7 hx8 hx9; clear ha0 ha1 ha2 hb0 hb1 hb2 hf0 hf1 hf2 hf3 hf4 hf5; replace HS := Aside0.mk (HS.out.fr hL hk (fun _ h => .inl h)); clear hL hk; obtain ⟨hx0, hx1, hx2, hx3, hx4, hx5, hx6, hx7, hx8, hx9⟩ := q44 HS.out.b7; obtain ⟨ha0, ha1, ha2⟩ := cell3 HS.out.b8; obtain ⟨hb0, hb1, hb2⟩ := cell3 HS.out.b9; have hf0 := q0 HS.out.b8 0; have hf1 := q0 HS.out.b8 1; have hf2 := q0 HS.out.b8 2; have hf3 := q0 HS.out.b9 0; have hf4 := q0 HS.out.b9 1; have hf5 := q0 HS.out.b9 2))
       go_upto_region 39 with (first | (go_at_call 27; refine (r_copy HS.out.live HI.out HS.out.rv HS.out.x P Q HP.out HQ.out N).mono ?_; rintro e wn ⟨A1, c1, rfl, hr, hk⟩; clear hx0 hx1 hx2 hx3 hx4 hx5 hx6 hx7 hx8 hx9; clear ha0 ha1 ha2 hb0 hb1 hb2 hf0 hf1 hf2 hf3 hf4 hf5; replace HS := Aside0.mk (HS.out.ref hr hk); clear hr hk; obtain ⟨hx0, hx1, hx2, hx3, hx4, hx5, hx6, hx7, hx8, hx9⟩ := q44 HS.out.b7; obtain ⟨ha0, ha1, ha2⟩ := cell3 HS.out.b8; obtain ⟨hb0, hb1, hb2⟩ := cell3 HS.out.b9; have hf0 := q0 HS.out.b8 0; have hf1 := q0 HS.out.b8 1; have hf2 := q0 HS.out.b8 2; have hf3 := q0 HS.out.b9 0; have hf4 := q0 HS.out.b9 1; have hf5 := q0 HS.out.b9 2))
       go_wp2_with fail
       have ⟨hJ1, hJ2⟩ := HJ.out
       go_roundw
       case rel => exact ⟨j + 1, (copyS s P Q N).1, gs, _, _, hJ1, hJ2, by go_num, rfl, HS.out.out.1, HS.out.out.2, HI.out.copy P Q N⟩
       case measure => simp [intOf]; omega
     have hk4 : (kd == 4) = false := beq_eq_false_iff_ne.mpr h4
     clear h4
     by_cases h5 : kd = 5
     ·subst h5
      as_aux_lemma =>
       go_upto_region 36 with (fail)
       clear hx0 hx1 hx2 hx3 hx4 hx5 hx6 hx7 hx8 hx9; clear ha0 ha1 ha2 hb0 hb1 hb2 hf0 hf1 hf2 hf3 hf4 hf5
       have hk := q10 (Below.refl wn.heap.size wn) (.cells #[.int .i64 N, .int .i64 sz, .int .i64 0] 23)
       have HZ := Aside0.mk (q33 wn (.cells #[.int .i64 N, .int .i64 sz, .int .i64 0] 23))
       replace HS := Aside0.mk (HS.out.low hk)
       clear hk
       generalize wn.heap.size = g15 at HZ ⊢
       generalize wn.alloc (.cells #[.int .i64 N, .int .i64 sz, .int .i64 0] 23) = wn at HS HZ ⊢
       obtain ⟨hx0, hx1, hx2, hx3, hx4, hx5, hx6, hx7, hx8, hx9⟩ := q44 HS.out.b7; obtain ⟨ha0, ha1, ha2⟩ := cell3 HS.out.b8; obtain ⟨hb0, hb1, hb2⟩ := cell3 HS.out.b9; have hf0 := q0 HS.out.b8 0; have hf1 := q0 HS.out.b8 1; have hf2 := q0 HS.out.b8 2; have hf3 := q0 HS.out.b9 0; have hf4 := q0 HS.out.b9 1; have hf5 := q0 HS.out.b9 2
       obtain ⟨hz0, hz1, hz2⟩ := cell3 HZ.out
       by_cases hn : Well ⟨N, sz, 0⟩
       ·have HWN := Aside0.mk hn
        clear hn
        go_upto_region 37 with (first | (go_at_call 13; refine (well_yes ⟨N, sz, 0⟩ _ HWN.out).mono ?_; rintro e wn ⟨rfl, hk⟩; clear hx0 hx1 hx2 hx3 hx4 hx5 hx6 hx7 hx8 hx9; clear ha0 ha1 ha2 hb0 hb1 hb2 hf0 hf1 hf2 hf3 hf4 hf5; clear hz0 hz1 hz2; replace HZ := Aside0.mk (q19 HZ.out hk); replace HS := Aside0.mk (HS.out.low hk); clear hk; obtain ⟨hx0, hx1, hx2, hx3, hx4, hx5, hx6, hx7, hx8, hx9⟩ := q44 HS.out.b7; obtain ⟨ha0, ha1, ha2⟩ := cell3 HS.out.b8; obtain ⟨hb0, hb1, hb2⟩ := cell3 HS.out.b9; have hf0 := q0 HS.out.b8 0; have hf1 := q0 HS.out.b8 1; have hf2 := q0 HS.out.b8 2; have hf3 := q0 HS.out.b9 0; have hf4 := q0 HS.out.b9 1; have hf5 := q0 HS.out.b9 2; obtain ⟨hz0, hz1, hz2⟩ := cell3 HZ.out))
        go_upto_region 38 with (first | (go_at_call 19; with_reducible refine (HS.out.live.fill P Q ⟨N, sz, 0⟩ _ rfl).mono ?_; rintro e wn ⟨rfl, hL, hk⟩; clear hx0 hx1 hx2 hx3 hx4 hx5 hx6 hx7 hx8 hx9; clear ha0 ha1 ha2 hb0 hb1 hb2 hf0 hf1 hf2 hf3 hf4 hf5; clear hz0 hz1 hz2; replace HZ := Aside0.mk (HS.out.live.boxed HZ.out plain23 hk); replace HS := Aside0.mk (HS.out.fr hL hk (fun _ h => .inl h)); clear hL hk; obtain ⟨hx0, hx1, hx2, hx3, hx4, hx5, hx6, hx7, hx8, hx9⟩ := q44 HS.out.b7; obtain ⟨ha0, ha1, ha2⟩ := cell3 HS.out.b8; obtain ⟨hb0, hb1, hb2⟩ := cell3 HS.out.b9; have hf0 := q0 HS.out.b8 0; have hf1 := q0 HS.out.b8 1; have hf2 := q0 HS.out.b8 2; have hf3 := q0 HS.out.b9 0; have hf4 := q0 HS.out.b9 1; have hf5 := q0 HS.out.b9 2; obtain ⟨hz0, hz1, hz2⟩ := cell3 HZ.out))
        go_upto_region 39 with (first | (go_at_call 28; refine (r_fill HS.out.live HI.out HS.out.rv HS.out.x P Q ⟨N, sz, 0⟩ HP.out).mono ?_; rintro e wn ⟨A1, c1, rfl, hr, hk⟩; clear hx0 hx1 hx2 hx3 hx4 hx5 hx6 hx7 hx8 hx9; clear ha0 ha1 ha2 hb0 hb1 hb2 hf0 hf1 hf2 hf3 hf4 hf5; replace HS := Aside0.mk (HS.out.ref hr hk); clear hr hk; obtain ⟨hx0, hx1, hx2, hx3, hx4, hx5, hx6, hx7, hx8, hx9⟩ := q44 HS.out.b7; obtain ⟨ha0, ha1, ha2⟩ := cell3 HS.out.b8; obtain ⟨hb0, hb1, hb2⟩ := cell3 HS.out.b9; have hf0 := q0 HS.out.b8 0; have hf1 := q0 HS.out.b8 1; have hf2 := q0 HS.out.b8 2; have hf3 := q0 HS.out.b9 0; have hf4 := q0 HS.out.b9 1; have hf5 := q0 HS.out.b9 2))
        go_wp2_with fail
        have ⟨hJ1, hJ2⟩ := HJ.out
        go_roundw
        case rel => exact ⟨j + 1, (fillS s P Q ⟨N, sz, 0⟩).1, gs, _, _, hJ1, hJ2, by go_num, rfl, HS.out.out.1, HS.out.out.2, HI.out.fill P Q ⟨N, sz, 0⟩⟩
        case measure => simp [intOf]; omega
       ·have HWN := Aside0.mk hn
        clear hn
        go_wp2_with (first | (go_at_call 13; refine (well_no ⟨N, sz, 0⟩ _ HWN.out).mono ?_; rintro e wn ⟨rfl, hk⟩; clear hx0 hx1 hx2 hx3 hx4 hx5 hx6 hx7 hx8 hx9; clear ha0 ha1 ha2 hb0 hb1 hb2 hf0 hf1 hf2 hf3 hf4 hf5; clear hz0 hz1 hz2; replace HZ := Aside0.mk (q19 HZ.out hk); replace HS := Aside0.mk (HS.out.low hk); clear hk; obtain ⟨hx0, hx1, hx2, hx3, hx4, hx5, hx6, hx7, hx8, hx9⟩ := q44 HS.out.b7; obtain ⟨ha0, ha1, ha2⟩ := cell3 HS.out.b8; obtain ⟨hb0, hb1, hb2⟩ := cell3 HS.out.b9; have hf0 := q0 HS.out.b8 0; have hf1 := q0 HS.out.b8 1; have hf2 := q0 HS.out.b8 2; have hf3 := q0 HS.out.b9 0; have hf4 := q0 HS.out.b9 1; have hf5 := q0 HS.out.b9 2; obtain ⟨hz0, hz1, hz2⟩ := cell3 HZ.out))
        have ⟨hJ1, hJ2⟩ := HJ.out
        go_roundw
        case rel => exact ⟨j + 1, s, gs, A, c, hJ1, hJ2, by go_num, rfl, HS.out.out.1, HS.out.out.2, HI.out⟩
        case measure => simp [intOf]; omega
     have hk5 : (kd == 5) = false := beq_eq_false_iff_ne.mpr h5
     clear h5
     as_aux_lemma =>
      go_upto_region 15 with (first | (go_at_call 29; with_reducible refine (add_calls HS.out.live.mine.holds HI.out P N HN.out HPN.out).mono ?_; rintro e wn ⟨rfl, hk⟩; clear hx0 hx1 hx2 hx3 hx4 hx5 hx6 hx7 hx8 hx9; clear ha0 ha1 ha2 hb0 hb1 hb2 hf0 hf1 hf2 hf3 hf4 hf5; replace HS := Aside0.mk (HS.out.low hk); clear hk; obtain ⟨hx0, hx1, hx2, hx3, hx4, hx5, hx6, hx7, hx8, hx9⟩ := q44 HS.out.b7; obtain ⟨ha0, ha1, ha2⟩ := cell3 HS.out.b8; obtain ⟨hb0, hb1, hb2⟩ := cell3 HS.out.b9; have hf0 := q0 HS.out.b8 0; have hf1 := q0 HS.out.b8 1; have hf2 := q0 HS.out.b8 2; have hf3 := q0 HS.out.b9 0; have hf4 := q0 HS.out.b9 1; have hf5 := q0 HS.out.b9 2))
      clear hx0 hx1 hx2 hx3 hx4 hx5 hx6 hx7 hx8 hx9; clear ha0 ha1 ha2 hb0 hb1 hb2 hf0 hf1 hf2 hf3 hf4 hf5
      replace HS := Aside0.mk (HS.out.put8 (addS s P N).1)
      generalize (((wn.setCell ⟨g8, 0, none⟩ (.int .i64 (addS s P N).1.n)).setCell ⟨g8, 1, none⟩ (.int .i64 (addS s P N).1.b)).setCell ⟨g8, 2, none⟩ (.int .i64 (addS s P N).1.f)) = wn at HS ⊢
      obtain ⟨hx0, hx1, hx2, hx3, hx4, hx5, hx6, hx7, hx8, hx9⟩ := q44 HS.out.b7; obtain ⟨ha0, ha1, ha2⟩ := cell3 HS.out.b8; obtain ⟨hb0, hb1, hb2⟩ := cell3 HS.out.b9; have hf0 := q0 HS.out.b8 0; have hf1 := q0 HS.out.b8 1; have hf2 := q0 HS.out.b8 2; have hf3 := q0 HS.out.b9 0; have hf4 := q0 HS.out.b9 1; have hf5 := q0 HS.out.b9 2
      go_upto_region 39 with (first | (go_at_call 30; with_reducible refine (r_add HS.out.live HI.out HS.out.rv P HP.out N HN.out).mono ?_; rintro e wn ⟨rfl, hk⟩; clear hx0 hx1 hx2 hx3 hx4 hx5 hx6 hx7 hx8 hx9; clear ha0 ha1 ha2 hb0 hb1 hb2 hf0 hf1 hf2 hf3 hf4 hf5; replace HS := Aside0.mk (HS.out.low hk); clear hk; obtain ⟨hx0, hx1, hx2, hx3, hx4, hx5, hx6, hx7, hx8, hx9⟩ := q44 HS.out.b7; obtain ⟨ha0, ha1, ha2⟩ := cell3 HS.out.b8; obtain ⟨hb0, hb1, hb2⟩ := cell3 HS.out.b9; have hf0 := q0 HS.out.b8 0; have hf1 := q0 HS.out.b8 1; have hf2 := q0 HS.out.b8 2; have hf3 := q0 HS.out.b9 0; have hf4 := q0 HS.out.b9 1; have hf5 := q0 HS.out.b9 2))
      clear hx0 hx1 hx2 hx3 hx4 hx5 hx6 hx7 hx8 hx9; clear ha0 ha1 ha2 hb0 hb1 hb2 hf0 hf1 hf2 hf3 hf4 hf5
      replace HS := Aside0.mk (HS.out.put9 (addS s P N).1)
      generalize (((wn.setCell ⟨g9, 0, none⟩ (.int .i64 (addS s P N).1.n)).setCell ⟨g9, 1, none⟩ (.int .i64 (addS s P N).1.b)).setCell ⟨g9, 2, none⟩ (.int .i64 (addS s P N).1.f)) = wn at HS ⊢
      obtain ⟨hx0, hx1, hx2, hx3, hx4, hx5, hx6, hx7, hx8, hx9⟩ := q44 HS.out.b7; obtain ⟨ha0, ha1, ha2⟩ := cell3 HS.out.b8; obtain ⟨hb0, hb1, hb2⟩ := cell3 HS.out.b9; have hf0 := q0 HS.out.b8 0; have hf1 := q0 HS.out.b8 1; have hf2 := q0 HS.out.b8 2; have hf3 := q0 HS.out.b9 0; have hf4 := q0 HS.out.b9 1; have hf5 := q0 HS.out.b9 2
      go_wp2_with fail
      have ⟨hJ1, hJ2⟩ := HJ.out
      go_roundw
      case rel => exact ⟨j + 1, s, gs, A, c, hJ1, hJ2, by go_num, rfl, HS.out.out.1, HS.out.out.2, HI.out⟩
      case measure => simp [intOf]; omega
    ·have HWQ := Aside0.mk hQ
     clear hQ
     go_wp2_with (first | (go_at_call 13; with_reducible refine (well_yes P _ HWP.out).mono ?_; rintro e wn ⟨rfl, hk⟩; clear hx0 hx1 hx2 hx3 hx4 hx5 hx6 hx7 hx8 hx9; replace HX := Aside0.mk (q19 HX.out hk); replace HR := Aside0.mk (HR.out.below HL.out hk); replace HL := Aside0.mk (HL.out.low hk); clear hk; obtain ⟨hx0, hx1, hx2, hx3, hx4, hx5, hx6, hx7, hx8, hx9⟩ := q44 HX.out) | (go_at_call 13; with_reducible refine (well_no Q _ HWQ.out).mono ?_; rintro e wn ⟨rfl, hk⟩; clear hx0 hx1 hx2 hx3 hx4 hx5 hx6 hx7 hx8 hx9; replace HX := Aside0.mk (q19 HX.out hk); replace HR := Aside0.mk (HR.out.below HL.out hk); replace HL := Aside0.mk (HL.out.low hk); clear hk; obtain ⟨hx0, hx1, hx2, hx3, hx4, hx5, hx6, hx7, hx8, hx9⟩ := q44 HX.out))
     have ⟨hJ1, hJ2⟩ := HJ.out
     go_roundw
     case rel => exact ⟨j + 1, s, gs, A, c, HJ.out.1, HJ.out.2, by go_num, rfl, HL.out, HR.out, HI.out⟩
     case measure => simp [intOf]; omega
   ·have HWP := Aside0.mk hP
    clear hP
    go_wp2_with (first | (go_at_call 13; with_reducible refine (well_no P _ HWP.out).mono ?_; rintro e wn ⟨rfl, hk⟩; clear hx0 hx1 hx2 hx3 hx4 hx5 hx6 hx7 hx8 hx9; replace HX := Aside0.mk (q19 HX.out hk); replace HR := Aside0.mk (HR.out.below HL.out hk); replace HL := Aside0.mk (HL.out.low hk); clear hk; obtain ⟨hx0, hx1, hx2, hx3, hx4, hx5, hx6, hx7, hx8, hx9⟩ := q44 HX.out))
    have ⟨hJ1, hJ2⟩ := HJ.out
    go_roundw
    case rel => exact ⟨j + 1, s, gs, A, c, HJ.out.1, HJ.out.2, by go_num, rfl, HL.out, HR.out, HI.out⟩
    case measure => simp [intOf]; omega
  ·clear HC HW
   by_cases hge : j < ds.length
   ·have h60 : (60 : Int) ≤ (j : Int) := by omega
    have hji : (j : Int) < (ds.length : Int) := by omega
    clear hlt hge hj1 hj60
    as_aux_lemma =>
     go_upto_block 3 with (fail)
     go_wp2_with fail
     go_loopw [16] (fun n wx => ∃ j : Int, -1 ≤ j ∧ j ≤ s.length + 2 ∧ n = .int .i64 j ∧ Hid (Live w wx w1.heap.size gs s) ∧ Hid (RV wx w1.heap.size gs [] (.slice A (eR s).length c) s)) (fun n _ => ((s.length : Int) + 3 - intOf n).toNat)
     case atStart => exact ⟨-1, by omega, by omega, rfl, HL.out, HR.out⟩
     case round =>
      obtain ⟨j, hj0, hj, rfl, hL, hR⟩ := hrel
      replace HL : Aside0 (Live w wr w1.heap.size gs s) := Aside0.mk hL
      replace HR : Aside0 (RV wr w1.heap.size gs [] (.slice A (eR s).length c) s) := Aside0.mk hR
      have HJ2 := Aside0.mk (And.intro hj0 hj)
      clear hL hR hj hj0
      have hsl : s.length ≤ 2000 := HI.out.len
      have HSL := Aside0.mk hsl
      have hel : (eR s).length = s.length := eR_len s
      have hwl : IntKind.i64.wrap (((eR s).length : Int) + 1) = ((eR s).length : Int) + 1 := by rw [IntKind.wrap_i64]; omega
      by_cases hle : j ≤ ((eR s).length : Int) + 1
      ·have hwj : IntKind.i64.wrap (j + 1) = j + 1 := by have := HJ2.out; rw [IntKind.wrap_i64]; omega
       have HLE := Aside0.mk hle
       have HEL := Aside0.mk hel
       clear hsl hel
       cases hf : findS s (j) with
       | none =>
        have hbk : blockS s (j) = (0, 0, false) := by unfold blockS; rw [hf]
        have hby : bytesS s (j) = [] := by unfold bytesS; rw [hf]
        have HF := Aside0.mk hf
        have HBK := Aside0.mk hbk
        have HBY := Aside0.mk hby
        clear hf hbk hby
        go_wp2_with (first | (go_at_call 20; with_reducible refine (HL.out.block _ _ HBK.out).mono ?_; rintro e wn ⟨rfl, hL, hk⟩; replace HR := Aside0.mk (HR.out.below HL.out hk); replace HL := Aside0.mk hL; clear hL hk) | (go_at_call 17; with_reducible refine (HL.out.bytes _ _ HBY.out).mono ?_; rintro e wn ⟨A2, c2, rfl, hL, hK, hk⟩; have HK := Aside0.mk hK; replace HR := Aside0.mk (HR.out.below HL.out hk); replace HL := Aside0.mk hL; clear hL hk hK) | (go_at_call 31; refine (r_is HR.out _).mono ?_; rintro e wn ⟨rfl, hk⟩; rw [HF.out]; replace HK := Aside0.mk (HK.out.below hk); replace HR := Aside0.mk (HR.out.below HL.out hk); replace HL := Aside0.mk (HL.out.low hk); clear hk))
        have hj1 := HLE.out
        have hj2 := HEL.out
        have ⟨hj3, hj4⟩ := HJ2.out
        go_roundw
        case rel => exact ⟨j + 1, by omega, by omega, by go_num, HL.out, HR.out⟩
        case measure => simp [intOf]; omega
       | some m =>
        have hbk : blockS s (j) = (m.site, (m.l.length : Int), m.there) := by unfold blockS; rw [hf]
        have hby : bytesS s (j) = m.l := by unfold bytesS; rw [hf]
        have hml : m.l.length ≤ 4096 := by unfold findS at hf; split at hf; exact HI.out.small m (List.mem_of_getElem? hf); cases hf
        obtain ⟨q, rfl, hq, hm⟩ : ∃ q : Nat, j = (q : Int) + 1 ∧ q < s.length ∧ s[q]? = some m := by exact find_at hf
        have HF := Aside0.mk hf
        have HBK := Aside0.mk hbk
        have HBY := Aside0.mk hby
        have HM := Aside0.mk hm
        have HQ := Aside0.mk hq
        have HML := Aside0.mk hml
        clear hf hbk hby hm hml
        go_upto_region 49 with (first | (go_at_call 20; with_reducible refine (HL.out.block _ _ HBK.out).mono ?_; rintro e wn ⟨rfl, hL, hk⟩; replace HR := Aside0.mk (HR.out.below HL.out hk); replace HL := Aside0.mk hL; clear hL hk) | (go_at_call 17; with_reducible refine (HL.out.bytes _ _ HBY.out).mono ?_; rintro e wn ⟨A2, c2, rfl, hL, hK, hk⟩; have HK := Aside0.mk hK; replace HR := Aside0.mk (HR.out.below HL.out hk); replace HL := Aside0.mk hL; clear hL hk hK) | (go_at_call 31; refine (r_is HR.out _).mono ?_; rintro e wn ⟨rfl, hk⟩; rw [HF.out]; replace HK := Aside0.mk (HK.out.below hk); replace HR := Aside0.mk (HR.out.below HL.out hk); replace HL := Aside0.mk (HL.out.low hk); clear hk))
        obtain ⟨ad, A1, c1, rfl, hx0, hx1, hx2, hc1, hC1⟩ := refAt (Kd.V_reads' HR.out.val).2.2 HM.out
        have HC1 := Aside0.mk (And.intro hc1 hC1)
        have hqe : (q : Int) < ((eR s).length : Int) := by rw [HEL.out]; have := HQ.out; omega
        have hq0 : (0 : Int) ≤ (q : Int) := Int.natCast_nonneg q
        have hwq : IntKind.i64.wrap ((q : Int) + 1 - 1) = (q : Int) := by have := HJ2.out; have := HSL.out; rw [IntKind.wrap_i64]; omega
        have hwq2 : wrap64 (q : Int) = (q : Int) := by have := HJ2.out; have := HSL.out; unfold wrap64; omega
        clear hc1 hC1 hq hwl hle
        rcases m with ⟨site, bl, th⟩
        cases th
        ·simp only [Bool.not_false] at hx2
         go_wp2_with (first | (go_at_call 22; refine (r_same' HK.out.row HML.out HC1.out.2 HC1.out.1).mono ?_; rintro e wn ⟨rfl, hk⟩; replace HR := Aside0.mk (HR.out.below HL.out hk); replace HL := Aside0.mk (HL.out.low hk); clear hk))
         have hj1 := HLE.out
         have hj2 := HEL.out
         have ⟨hj3, hj4⟩ := HJ2.out
         go_roundw
         case rel => exact ⟨(q : Int) + 1 + 1, by omega, by omega, by go_num, HL.out, HR.out⟩
         case measure => simp [intOf]; omega
        ·simp only [Bool.not_true] at hx2
         go_wp2_with (first | (go_at_call 22; refine (r_same' HK.out.row HML.out HC1.out.2 HC1.out.1).mono ?_; rintro e wn ⟨rfl, hk⟩; replace HR := Aside0.mk (HR.out.below HL.out hk); replace HL := Aside0.mk (HL.out.low hk); clear hk))
         have hj1 := HLE.out
         have hj2 := HEL.out
         have ⟨hj3, hj4⟩ := HJ2.out
         go_roundw
         case rel => exact ⟨(q : Int) + 1 + 1, by omega, by omega, by go_num, HL.out, HR.out⟩
         case measure => simp [intOf]; omega
      ·have hjj : j = s.length + 2 := by have := HJ2.out; omega
       subst hjj
       go_wp2_with fail
       go_ret
       exact ⟨rfl, HL.out.below⟩
   ·have hji : (ds.length : Int) ≤ (j : Int) := by omega
    clear hlt hge hj1 hj60
    as_aux_lemma =>
     go_upto_block 3 with (fail)
     go_wp2_with fail
     go_loopw [16] (fun n wx => ∃ j : Int, -1 ≤ j ∧ j ≤ s.length + 2 ∧ n = .int .i64 j ∧ Hid (Live w wx w1.heap.size gs s) ∧ Hid (RV wx w1.heap.size gs [] (.slice A (eR s).length c) s)) (fun n _ => ((s.length : Int) + 3 - intOf n).toNat)
     case atStart => exact ⟨-1, by omega, by omega, rfl, HL.out, HR.out⟩
     case round =>
      obtain ⟨j, hj0, hj, rfl, hL, hR⟩ := hrel
      replace HL : Aside0 (Live w wr w1.heap.size gs s) := Aside0.mk hL
      replace HR : Aside0 (RV wr w1.heap.size gs [] (.slice A (eR s).length c) s) := Aside0.mk hR
      have HJ2 := Aside0.mk (And.intro hj0 hj)
      clear hL hR hj hj0
      have hsl : s.length ≤ 2000 := HI.out.len
      have HSL := Aside0.mk hsl
      have hel : (eR s).length = s.length := eR_len s
      have hwl : IntKind.i64.wrap (((eR s).length : Int) + 1) = ((eR s).length : Int) + 1 := by rw [IntKind.wrap_i64]; omega
      by_cases hle : j ≤ ((eR s).length : Int) + 1
      ·have hwj : IntKind.i64.wrap (j + 1) = j + 1 := by have := HJ2.out; rw [IntKind.wrap_i64]; omega
       have HLE := Aside0.mk hle
       have HEL := Aside0.mk hel
       clear hsl hel
       cases hf : findS s (j) with
       | none =>
        have hbk : blockS s (j) = (0, 0, false) := by unfold blockS; rw [hf]
        have hby : bytesS s (j) = [] := by unfold bytesS; rw [hf]
        have HF := Aside0.mk hf
        have HBK := Aside0.mk hbk
        have HBY := Aside0.mk hby
        clear hf hbk hby
        go_wp2_with (first | (go_at_call 20; with_reducible refine (HL.out.block _ _ HBK.out).mono ?_; rintro e wn ⟨rfl, hL, hk⟩; replace HR := Aside0.mk (HR.out.below HL.out hk); replace HL := Aside0.mk hL; clear hL hk) | (go_at_call 17; with_reducible refine (HL.out.bytes _ _ HBY.out).mono ?_; rintro e wn ⟨A2, c2, rfl, hL, hK, hk⟩; have HK := Aside0.mk hK; replace HR := Aside0.mk (HR.out.below HL.out hk); replace HL := Aside0.mk hL; clear hL hk hK) | (go_at_call 31; refine (r_is HR.out _).mono ?_; rintro e wn ⟨rfl, hk⟩; rw [HF.out]; replace HK := Aside0.mk (HK.out.below hk); replace HR := Aside0.mk (HR.out.below HL.out hk); replace HL := Aside0.mk (HL.out.low hk); clear hk))
        have hj1 := HLE.out
        have hj2 := HEL.out
        have ⟨hj3, hj4⟩ := HJ2.out
        go_roundw
        case rel => exact ⟨j + 1, by omega, by omega, by go_num, HL.out, HR.out⟩
        case measure => simp [intOf]; omega
       | some m =>
        have hbk : blockS s (j) = (m.site, (m.l.length : Int), m.there) := by unfold blockS; rw [hf]
        have hby : bytesS s (j) = m.l := by unfold bytesS; rw [hf]
        have hml : m.l.length ≤ 4096 := by unfold findS at hf; split at hf; exact HI.out.small m (List.mem_of_getElem? hf); cases hf
        obtain ⟨q, rfl, hq, hm⟩ : ∃ q : Nat, j = (q : Int) + 1 ∧ q < s.length ∧ s[q]? = some m := by exact find_at hf
        have HF := Aside0.mk hf
        have HBK := Aside0.mk hbk
        have HBY := Aside0.mk hby
        have HM := Aside0.mk hm
        have HQ := Aside0.mk hq
        have HML := Aside0.mk hml
        clear hf hbk hby hm hml
        go_upto_region 49 with (first | (go_at_call 20; with_reducible refine (HL.out.block _ _ HBK.out).mono ?_; rintro e wn ⟨rfl, hL, hk⟩; replace HR := Aside0.mk (HR.out.below HL.out hk); replace HL := Aside0.mk hL; clear hL hk) | (go_at_call 17; with_reducible refine (HL.out.bytes _ _ HBY.out).mono ?_; rintro e wn ⟨A2, c2, rfl, hL, hK, hk⟩; have HK := Aside0.mk hK; replace HR := Aside0.mk (HR.out.below HL.out hk); replace HL := Aside0.mk hL; clear hL hk hK) | (go_at_call 31; refine (r_is HR.out _).mono ?_; rintro e wn ⟨rfl, hk⟩; rw [HF.out]; replace HK := Aside0.mk (HK.out.below hk); replace HR := Aside0.mk (HR.out.below HL.out hk); replace HL := Aside0.mk (HL.out.low hk); clear hk))
        obtain ⟨ad, A1, c1, rfl, hx0, hx1, hx2, hc1, hC1⟩ := refAt (Kd.V_reads' HR.out.val).2.2 HM.out
        have HC1 := Aside0.mk (And.intro hc1 hC1)
        have hqe : (q : Int) < ((eR s).length : Int) := by rw [HEL.out]; have := HQ.out; omega
        have hq0 : (0 : Int) ≤ (q : Int) := Int.natCast_nonneg q
        have hwq : IntKind.i64.wrap ((q : Int) + 1 - 1) = (q : Int) := by have := HJ2.out; have := HSL.out; rw [IntKind.wrap_i64]; omega
        have hwq2 : wrap64 (q : Int) = (q : Int) := by have := HJ2.out; have := HSL.out; unfold wrap64; omega
        clear hc1 hC1 hq hwl hle
        rcases m with ⟨site, bl, th⟩
        cases th
        ·simp only [Bool.not_false] at hx2
         go_wp2_with (first | (go_at_call 22; refine (r_same' HK.out.row HML.out HC1.out.2 HC1.out.1).mono ?_; rintro e wn ⟨rfl, hk⟩; replace HR := Aside0.mk (HR.out.below HL.out hk); replace HL := Aside0.mk (HL.out.low hk); clear hk))
         have hj1 := HLE.out
         have hj2 := HEL.out
         have ⟨hj3, hj4⟩ := HJ2.out
         go_roundw
         case rel => exact ⟨(q : Int) + 1 + 1, by omega, by omega, by go_num, HL.out, HR.out⟩
         case measure => simp [intOf]; omega
        ·simp only [Bool.not_true] at hx2
         go_wp2_with (first | (go_at_call 22; refine (r_same' HK.out.row HML.out HC1.out.2 HC1.out.1).mono ?_; rintro e wn ⟨rfl, hk⟩; replace HR := Aside0.mk (HR.out.below HL.out hk); replace HL := Aside0.mk (HL.out.low hk); clear hk))
         have hj1 := HLE.out
         have hj2 := HEL.out
         have ⟨hj3, hj4⟩ := HJ2.out
         go_roundw
         case rel => exact ⟨(q : Int) + 1 + 1, by omega, by omega, by go_num, HL.out, HR.out⟩
         case measure => simp [intOf]; omega
      ·have hjj : j = s.length + 2 := by have := HJ2.out; omega
       subst hjj
       go_wp2_with fail
       go_ret
       exact ⟨rfl, HL.out.below⟩
end Go.Proofs.Yteogfjhmjlelnaa.G
