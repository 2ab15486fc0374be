/- What calls' functions and laws call: each answer is a list of numbers that is read. No condition but sizes. -/
import Derived.Test.YtjbgealnnlmchaaNd
import Derived.Test.YtjbgealnnlmchaaTc
import Derived.Test.YtjbgealnnlmchaaGx1
import Derived.Test.YtjbgealnnlmchaaGx11
import Derived.BigRegion
set_option linter.unusedVariables false
set_option linter.unusedSimpArgs false
namespace Go.Proofs.Ytjbgealnnlmchaa.G
open Go.RowKit Go.Proofs.Ytjbgealnnlmchaa.B Go.Proofs.YtjbgealnnlmchaaW.PrintWords Go.Proofs.YtjbgealnnlmchaaW.PrintLast Go.Proofs.YtjbgealnnlmchaaW.PrintMore

/-- A list of edges that lies there. -/
structure Edg (W : World) (A : Option Addr) (l : List S41) (c : Nat) : Prop where
  C : Kd.C k41 W A l.length l
  cap : l.length ≤ c
  len : l.length ≤ 1000000
theorem Edg.below {W W' : World} {A : Option Addr} {l : List S41} {c : Nat} (h : Edg W A l c) (hb : Below W.heap.size W W') : Edg W' A l c := ⟨Kd.C_below h.C hb, h.cap, h.len⟩
/-- A list of numbers that lies there. -/
structure Nts (W : World) (A : Option Addr) (r : List Int) (c : Nat) : Prop where
  C : Kd.C (Kd.int .i64) W A r.length r
  cap : r.length ≤ c
theorem Nts.below {W W' : World} {A : Option Addr} {r : List Int} {c : Nat} (h : Nts W A r c) (hb : Below W.heap.size W W') : Nts W' A r c := ⟨Kd.C_below h.C hb, h.cap⟩
theorem Nts.at_ {W : World} {A : Option Addr} {r : List Int} {c : Nat} (h : Nts W A r c) (i : Nat) (hi : i < r.length) : ∃ ad, A = some ad ∧ W.cell? (ad.add i) = some (.int .i64 (r.getD i 0)) := by
  obtain ⟨ad, e, q⟩ := Kd.at_int h.C (i : Int) (Int.natCast_nonneg i) (by omega)
  unfold rd at q
  rw [Int.toNat_natCast] at q
  exact ⟨ad, e, q⟩
theorem ROk.exists_ (N : Nat) (hN : N ≤ 20000) (l : List S41) (hl : l.length ≤ 1000000) (fr : List Int) (hfr : fr.length ≤ 1000000000) : ∃ s, ROk N l fr s := by
  obtain ⟨r, hr, hrn, hrm⟩ := bfs_ok (fr.length + pot (graphS N l) (List.replicate N false) + 1) fr (List.replicate N false) [] (bfs_start N l fr) (by omega)
  obtain ⟨s, _, hs⟩ := sorted_ok hrn hrm
  exact ⟨s, hs⟩
theorem reach_d (n : Int) (l : List S41) (A : Option Addr) (c : Nat) (fr : List Int) (A2 : Option Addr) (c2 : Nat) (w : World) (h : Edg w A l c) (hf : Kd.C (Kd.int .i64) w A2 fr.length fr) (hfl : fr.length ≤ 1000000000) (s : List Nat) (hs : ROk (sizeN n) l fr s) (t : List Int) (ht : t = ints s) :
    Calls Try.prog 22 #[.int .i64 n, .slice A l.length c, .slice A2 fr.length c2] w fun e w' => ∃ A c, e = .returned (.slice A t.length c) ∧ Nts w' A t c ∧ Below w.heap.size w w' := by
  subst ht
  rw [ints_len]
  refine (reach_c n l A c fr A2 c2 w h.C h.cap hf h.len hfl).mono ?_
  rintro e w' ⟨s', A', c', rfl, h1, h2, h3, h4⟩
  have := h1.unique hs
  subst this
  exact ⟨A', c', rfl, ⟨by rw [ints_len]; exact h3, by rw [ints_len]; exact h2⟩, h4⟩
theorem c_new (W : World) (x : List Int) (hr : x.length ≤ 1000000) : Kd.C (Kd.int .i64) (W.alloc (.cells (x.map (Value.int .i64)).toArray 3)) (some ⟨W.heap.size, 0, none⟩) x.length x := by
  refine ⟨rfl, by omega, fun _ => ⟨_, rfl, fun j p hj => ⟨[.int .i64 p], rfl, rfl, fun i u hu => ?_⟩⟩⟩
  match i, hu with
  | 0, hu =>
    obtain rfl : Value.int .i64 p = u := by simpa using hu
    show (W.alloc _).cell? ((⟨W.heap.size, 0, none⟩ : Addr).add (j * 1 + 0)) = _
    rw [add_plain, blk_cell (blk_new W _)]
    simp [hj]
theorem reach1 (m : Int) (l : List S41) (A : Option Addr) (c : Nat) (W : World) (h : Edg W A l c) (a : Int) (s : List Nat) (hs : ROk (sizeN m) l [a] s) (t : List Int) (ht : t = ints s) :
    Calls Try.prog 22 #[.int .i64 m, .slice A l.length c, .slice (some ⟨W.heap.size, 0, none⟩) 1 1] (W.alloc (.cells #[.int .i64 a] 3)) fun e w' => ∃ A c, e = .returned (.slice A t.length c) ∧ Nts w' A t c ∧ Below W.heap.size W w' := by
  have hb := below_alloc (Below.refl W.heap.size W) (.cells #[.int .i64 a] 3)
  refine (reach_d m l A c [a] (some ⟨W.heap.size, 0, none⟩) 1 _ (h.below hb) (c_new W [a] (by simp)) (by simp) s hs t ht).mono ?_
  rintro e W6 ⟨A6, c6, rfl, h6, hb6⟩
  exact ⟨A6, c6, rfl, h6, below_step hb hb6⟩
theorem ints_l0 (a : List Int) (ha : a.length ≤ 1000000) : ∀ (d i : Nat), a.length - i = d → i ≤ a.length → crosstreeref06_Ints.l0 (d + 1) a a (i : Int) = some true := by
  intro d
  induction d with
  | zero =>
    intro i h1 h2
    unfold crosstreeref06_Ints.l0
    rw [if_neg (by omega)]
  | succ d ih =>
    intro i h1 h2
    unfold crosstreeref06_Ints.l0
    rw [if_pos (by omega), if_pos (by omega), if_pos (by omega), if_pos rfl, w64 (by omega) (by omega), show (i : Int) + 1 = ((i + 1 : Nat) : Int) by omega]
    exact ih (i + 1) (by omega) (by omega)
theorem ints_f (a : List Int) (ha : a.length ≤ 1000000) : ∃ k, crosstreeref06_Ints.f k a a = some true := by
  refine ⟨a.length + 1, ?_⟩
  unfold crosstreeref06_Ints.f
  rw [if_pos rfl]
  exact ints_l0 a ha a.length 0 rfl (Nat.zero_le _)
theorem ints_d (r : List Int) (A : Option Addr) (c : Nat) (B : Option Addr) (d : Nat) (w : World) (hA : Nts w A r c) (hB : Nts w B r d) (hr : r.length ≤ 1000000) :
    Calls Try.prog 11 #[.slice A r.length c, .slice B r.length d] w fun e w' => e = .returned (.bool true) ∧ Below w.heap.size w w' := by
  obtain ⟨k, hk⟩ := ints_f r hr
  exact (crosstreeref06_Ints.calls k A c r B d r true w hA.C hA.cap hB.C hB.cap hk).mono (fun e w' ⟨he, hd⟩ => ⟨he, hd.below⟩)
theorem has_l0 (l : List Int) (x : Int) (hl : l.length ≤ 1000000) : ∀ (d i : Nat), l.length - i = d → i ≤ l.length → crosstreelaw19_has.l0 (d + 1) l x (i : Int) = some (decide (x ∈ l.drop i)) := by
  intro d
  induction d with
  | zero =>
    intro i h1 h2
    unfold crosstreelaw19_has.l0
    rw [if_neg (by omega), List.drop_eq_nil_of_le (by omega)]
    simp
  | succ d ih =>
    intro i h1 h2
    have hi : i < l.length := by omega
    unfold crosstreelaw19_has.l0
    rw [if_pos (by omega), if_pos (by omega), rd_at l i hi, List.drop_eq_getElem_cons hi]
    by_cases he : l[i] = x
    · rw [if_pos he, decide_eq_true (by rw [he]; exact List.mem_cons_self)]
    · rw [if_neg he, w64 (by omega) (by omega), show (i : Int) + 1 = ((i + 1 : Nat) : Int) by omega, ih (i + 1) (by omega) (by omega)]
      congr 1
      rw [decide_eq_decide, List.mem_cons]
      exact ⟨.inr, fun h => h.elim (fun e => absurd e.symm he) id⟩
theorem has_d (r : List Int) (A : Option Addr) (c : Nat) (x : Int) (b : Bool) (w : World) (hA : Nts w A r c) (hr : r.length ≤ 1000000) (hb : decide (x ∈ r) = b) :
    Calls Try.prog 18 #[.slice A r.length c, .int .i64 x] w fun e w' => e = .returned (.bool b) ∧ Below w.heap.size w w' := by
  subst hb
  have h := has_l0 r x hr r.length 0 (by omega) (Nat.zero_le _)
  rw [List.drop_zero] at h
  exact (crosstreelaw19_has.calls (r.length + 1) A c r x _ w hA.C hA.cap (by unfold crosstreelaw19_has.f; exact h)).mono (fun e w' ⟨he, hd⟩ => ⟨he, hd.below⟩)
/-- A program that is read: so many functions, and its main one. -/
def Prg (W : World) (v : Value) (k : Nat) (mn : Int) : Prop :=
  ∃ (A0 : Option Addr) (c0 : Nat) (l0 : List S105) (A1 : Option Addr) (c1 : Nat) (l1 : List S108), v = .agg #[.slice A0 l0.length c0, .slice A1 l1.length c1, .int .i64 mn] ∧ l0.length ≤ c0 ∧ l1.length ≤ c1 ∧ l1.length = k ∧ Kd.C k105 W A0 l0.length l0 ∧ Kd.C k108 W A1 l1.length l1
theorem Prg.below {W W' : World} {v : Value} {k : Nat} {mn : Int} (h : Prg W v k mn) (hb : Below W.heap.size W W') : Prg W' v k mn := by
  obtain ⟨A0, c0, l0, A1, c1, l1, h1, h2, h3, h4, h5, h6⟩ := h
  exact ⟨A0, c0, l0, A1, c1, l1, h1, h2, h3, h4, Kd.C_below h5 hb, Kd.C_below h6 hb⟩
theorem prog_d (n : Nat) (mn : Int) (w : World) (hn : n ≤ 1000) : Calls Try.prog 10 #[.int .i64 (n : Int), .int .i64 mn] w fun e w' => ∃ v, e = .returned v ∧ Prg w' v n mn ∧ Below w.heap.size w w' := by
  have hf : crosstreelaw19_prog.f (n : Int) mn = some ([], List.replicate n z108, mn) := by
    unfold crosstreelaw19_prog.f
    simp
    omega
  refine (crosstreelaw19_prog.calls (n : Int) mn _ _ _ w hf).mono ?_
  rintro e w' ⟨v0, v1, rfl, h0, h1, hb⟩
  obtain ⟨A0, c0, e0, a1, a2⟩ := Kd.R_reads h0
  obtain ⟨A1, c1, e1, b1, b2⟩ := Kd.R_reads h1
  subst e0 e1
  exact ⟨_, rfl, ⟨A0, c0, [], A1, c1, _, rfl, a1, b1, List.length_replicate, a2, b2⟩, hb⟩
/-- The solution that a law builds: its calls alone. -/
def solV (A : Option Addr) (n c : Nat) : Value := .agg #[.slice none 0 0, .slice none 0 0, .slice A n c, .int .i64 0]
set_option maxRecDepth 100000 in
set_option maxHeartbeats 2000000 in
theorem reached_c (k : Nat) (mn : Int) (v : Value) (l : List S41) (A : Option Addr) (c : Nat) (w : World) (hp : Prg w v k mn) (h : Edg w A l c) (s : List Nat) (hs : ROk (sizeN (k : Int)) l [mn] s) (t : List Int) (ht : t = ints s) :
    Calls Try.prog 14 #[v, .agg #[.slice none 0 0, .slice none 0 0, .slice A l.length c, .int .i64 0]] w fun e w' => ∃ A c, e = .returned (.slice A t.length c) ∧ Nts w' A t c ∧ Below w.heap.size w w' := by
  obtain ⟨A0, c0, l0, A1, c1, l1, rfl, _, _, h4, _, _⟩ := hp
  have HE := Aside0.mk h
  have HS := Aside0.mk hs
  have HT := Aside0.mk ht
  have H4 := Aside0.mk h4
  clear h hs ht h4
  go_enter Try.func14, Try.ntmps14
  go_upto_region 1 with (fail)
  have hb0 := blk_new w (.cells #[.slice A0 l0.length c0, .slice A1 l1.length c1, .int .i64 mn] 32)
  have hb1 := blk_alloc hb0 (.cells #[.slice none 0 0, .slice none 0 0, .slice A l.length c, .int .i64 0] 28)
  have hb2 := blk_at_ (W := w.alloc (.cells #[.slice A0 l0.length c0, .slice A1 l1.length c1, .int .i64 mn] 32)) (n := w.heap.size + 1) (.cells #[.slice none 0 0, .slice none 0 0, .slice A l.length c, .int .i64 0] 28) (by simp)
  have HB := Aside0.mk (below_alloc (below_alloc (Below.refl w.heap.size w) (.cells #[.slice A0 l0.length c0, .slice A1 l1.length c1, .int .i64 mn] 32)) (.cells #[.slice none 0 0, .slice none 0 0, .slice A l.length c, .int .i64 0] 28))
  have q0 := (blk_cell hb1 1).trans rfl
  have q1 := (blk_cell hb1 2).trans rfl
  have q2 := (blk_cell hb2 2).trans rfl
  clear hb0 hb1 hb2
  generalize (w.alloc (.cells #[.slice A0 l0.length c0, .slice A1 l1.length c1, .int .i64 mn] 32)).alloc (.cells #[.slice none 0 0, .slice none 0 0, .slice A l.length c, .int .i64 0] 28) = W1 at q0 q1 q2 HB ⊢
  generalize w.heap.size + 1 = z1 at q2 ⊢
  generalize w.heap.size = z0 at q0 q1 ⊢
  rw [H4.out] at q0 ⊢
  go_wp2_with (go_at_call 22; with_reducible refine (reach1 _ _ _ _ _ (HE.out.below HB.out) mn s HS.out t HT.out).mono ?_; rintro e w2 ⟨A2, c2, rfl, h2, hb2⟩; have HA2 := Aside0.mk h2; have HB2 := Aside0.mk (below_step HB.out hb2); clear h2 hb2)
  go_ret
  exact ⟨_, _, rfl, HA2.out, HB2.out⟩
end Go.Proofs.Ytjbgealnnlmchaa.G
