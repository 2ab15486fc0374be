/- lex.Text. Each contract names its state. -/
import Derived.Test.YtikfgdkplgfiiaaL2
import Derived.Test.YtikfgdkplgfiiaaPm
set_option linter.unusedVariables false
set_option linter.unusedSimpArgs false
namespace Go.Proofs.Ytikfgdkplgfiiaa.G
open Go.RowKit Go.Proofs.Ytikfgdkplgfiiaa.B Go.Proofs.YtikfgdkplgfiiaaW.PrintWords Go.Proofs.YtikfgdkplgfiiaaW.PrintLast Go.Proofs.YtikfgdkplgfiiaaW.PrintMore

theorem joinS_lib : ∀ xs : List L8, Lib.join xs [32] = joinS xs := by
  intro xs
  induction xs with
  | nil => rfl
  | cons x xs ih =>
    cases xs with
    | nil => simp [Lib.join, List.intercalate, joinS]
    | cons y r =>
      rw [joinS, ← ih]
      simp [Lib.join, List.intercalate]
/-- Texts of tokens. -/
def textsS (L : List S32) : List ByteArray := L.map (fun x => x.f2)
def RowB (W : World) (b : Nat) (v : Value) (l : List ByteArray) : Prop := Kd.string.R 9 W b (fun _ => True) v l
theorem RowB.form {W : World} {b : Nat} {v : Value} {l : List ByteArray} (h : RowB W b v l) (hp : 0 < l.length) : ∃ g c, v = .slice (some ⟨g, 0, none⟩) l.length c ∧ g < W.heap.size := by
  obtain ⟨g, c, h1, _, h2, _⟩ := Kd.R_form h hp
  exact ⟨g, c, h1, h2⟩
theorem RowB.below {W W' : World} {b : Nat} {v : Value} {l : List ByteArray} (h : RowB W b v l) (hb : Below W.heap.size W W') : RowB W' b v l := Kd.R_below h hb
theorem RowB.cells {W : World} {b g n c : Nat} {l : List ByteArray} (h : RowB W b (.slice (some ⟨g, 0, none⟩) n c) l) : l.length ≤ c ∧ ∀ (j : Nat) x, l[j]? = some x → W.cell? ⟨g, 0 + j, none⟩ = some (.string x) := by
  obtain ⟨A, c', he, hc, hC⟩ := Kd.R_reads h
  injection he with h1 h2 h3
  subst h1 h3
  refine ⟨hc, fun j x hx => ?_⟩
  have hj := (List.getElem?_eq_some_iff.1 hx).1
  have := Kd.foot_string hC (j : Int) (Int.natCast_nonneg j) (by omega)
  rw [Int.toNat_natCast] at this
  have ha : (⟨g, 0, none⟩ : Addr).add j = ⟨g, 0 + j, none⟩ := by unfold Addr.add; split <;> simp_all
  rw [ha] at this
  rw [this, rdOf, Int.toNat_natCast, List.getD_eq_getElem?_getD, hx]
  rfl
theorem join_row {W : World} {b n c : Nat} {A : Option Addr} {l : List ByteArray} (h : RowB W b (.slice A n c) l) (hn : l.length ≤ 1000000000) (hj : (joinS (l.map (·.toList))).length ≤ 140737488355328) :
    Calls Try.prog 28 #[.slice A n c, .string ⟨#[32]⟩] W fun e w' => e = .returned (.string (toB (joinS (l.map (·.toList))))) ∧ Below W.heap.size W w' := by
  have hm : l.map (·.data.toList) = l.map (·.toList) := List.map_congr_left (fun x _ => (bytes_toList x).symm)
  cases l with
  | nil =>
    obtain ⟨A', c', he, _⟩ := Kd.R_reads h
    injection he with h1 h2 h3
    subst h2
    exact (Try.strings_Join_none A c ⟨#[32]⟩ W).mono fun e w' ⟨h1, h2⟩ => ⟨h1, by rw [h2]; exact Below.refl _ _⟩
  | cons x l =>
    obtain ⟨g, c', he, hg⟩ := h.form (by simp)
    injection he with h1 h2 h3
    subst h1 h2 h3
    obtain ⟨hc, hcs⟩ := h.cells
    have := Try.strings_Join g 0 c (x :: l) ⟨#[32]⟩ W hcs hg (by omega) hc (by rw [hm]; exact Nat.le_trans (Nat.le_of_eq (congrArg List.length (joinS_lib _))) hj)
    refine this.mono fun e w' ⟨h1, h2⟩ => ⟨?_, h2⟩
    rw [h1, hm]
    exact congrArg (fun z => Ending.returned (.string (⟨List.toArray z⟩ : ByteArray))) (joinS_lib _)
set_option maxRecDepth 100000 in
set_option maxHeartbeats 8000000 in
theorem text_calls {A : Option Addr} {n c : Nat} {L : List S32} (w : World) (hR : RdT w (.slice A n c) L) (hL : L.length ≤ 1000000000) (hj : (joinS ((textsS L).map (·.toList))).length ≤ 140737488355328) :
    Calls Try.prog 17 #[.slice A n c] w fun e w' => e = .returned (.string (toB (joinS ((textsS L).map (·.toList))))) ∧ Below w.heap.size w w' := by
  have HR := Aside0.mk hR
  have HJ := Aside0.mk hj
  obtain ⟨hn, hlc, hC⟩ := hR.C
  subst hn
  clear hR hj hC
  go_enter Try.func17, Try.ntmps17
  go_upto_block 0 with (fail)
  go_wp2_with fail
  go_loopw [8, 3] (fun iv lv wx => ∃ (i : Nat) (B : Option Addr) (m d : Nat) (q : List ByteArray), i ≤ L.length ∧ iv = .int .i64 (i : Int) ∧ lv = .slice B m d ∧ m = q.length ∧ q = (textsS L).take i ∧ Hid (RowB wx w.heap.size (.slice B m d) q) ∧ Hid (Below w.heap.size w wx)) (fun iv _ _ => L.length - (intOf iv).toNat)
  case atStart => exact ⟨0, none, 0, 0, [], Nat.zero_le _, rfl, rfl, rfl, rfl, Kd.R_nil _ _ _ _ _, Below.refl _ _⟩
  case round =>
    obtain ⟨i, B, m, d, q, hi, rfl, rfl, rfl, hq, hR, hB⟩ := hrel
    have HRB := Aside0.mk (show RowB wr w.heap.size (.slice B q.length d) q from hR)
    have HB : Aside0 (Below w.heap.size w wr) := Aside0.mk hB
    have HQ := Aside0.mk hq
    clear hR hB hq
    by_cases hlt : (i : Int) < (L.length : Int)
    · have hi1 : i < L.length := by omega
      obtain ⟨_, _, hC⟩ := (HR.out.below HB.out).C
      obtain ⟨ad, hA, c0, c1, c2, c3⟩ := at_T32 hC (i : Int) (Int.natCast_nonneg i) hlt
      subst hA
      obtain ⟨x, hx⟩ : ∃ x, L[i]? = some x := ⟨_, List.getElem?_eq_getElem hi1⟩
      have hr : rd_T32 L (i : Int) = x := by
        unfold rd_T32
        rw [Int.toNat_natCast, List.getD_eq_getElem?_getD, hx]
        rfl
      rw [hr, Int.toNat_natCast] at c0 c1 c2 c3
      have HX := Aside0.mk hx
      have hwi : IntKind.i64.wrap ((i : Int) + 1) = (i : Int) + 1 := by rw [IntKind.wrap_i64]; omega
      clear hC hr hx
      go_upto_region 5 with (fail)
      have HX9 := Aside0.mk (blk_new wr (.cells #[.int .i64 x.f0, .int .i64 x.f1, .string x.f2, .int .i64 x.f3] 32))
      replace HRB := Aside0.mk (HRB.out.below (below_alloc (Below.refl _ _) (.cells #[.int .i64 x.f0, .int .i64 x.f1, .string x.f2, .int .i64 x.f3] 32)))
      replace HB := Aside0.mk (below_alloc HB.out (.cells #[.int .i64 x.f0, .int .i64 x.f1, .string x.f2, .int .i64 x.f3] 32))
      clear c0 c1 c2 c3
      generalize wr.alloc (.cells #[.int .i64 x.f0, .int .i64 x.f1, .string x.f2, .int .i64 x.f3] 32) = w9 at HX9 HRB HB ⊢
      generalize wr.heap.size = g9 at HX9 ⊢
      obtain ⟨z0, z1, z2, z3⟩ := cell4 HX9.out
      have hq9 : q.length ≤ 1000000000 := by rw [HQ.out, List.length_take]; omega
      have hl16 : (q.length + 1) * 16 ≤ 140737488355328 := by omega
      obtain ⟨tx, htx⟩ : ∃ tx, x.f2 = tx := ⟨_, rfl⟩
      rw [htx] at z2
      have HTX := Aside0.mk htx
      clear htx
      go_wp2_with (at_builtin; refine Kd.R_append Kd.string (w0 := w) w.heap.size rfl _ _ 48 9 (.string ⟨#[]⟩) 16 rfl Try.underlying48 info9 rfl (by decide) (by decide) (.slice B q.length d) q tx [.string tx] (fun _ => True) (fun _ => False) rfl rfl rfl (fun _ h => h.elim) (fun _ _ => trivial) HRB.out HB.out HB.out.size hl16 ?_; intro v1 w1 hR1 hB1 hg1 hat1; obtain ⟨A1, d1, rfl⟩ := Kd.R_slice hR1; obtain ⟨n1, hn1⟩ : ∃ n, n = (q ++ [tx]).length := ⟨_, rfl⟩; rw [← hn1] at hR1 ⊢; have HN1 := Aside0.mk hn1; have HR1 := Aside0.mk hR1; have HB1 := Aside0.mk hB1; clear z0 z1 z2 z3 hn1 hR1 hB1 hg1 hat1)
      have HQ1 : Aside0 (q ++ [tx] = (textsS L).take (i + 1)) := Aside0.mk (by
        rw [HQ.out, List.take_add_one]
        unfold textsS
        rw [List.getElem?_map, HX.out, ← HTX.out]
        rfl)
      go_roundw
      case rel => exact ⟨i + 1, A1, n1, d1, q ++ [tx], by omega, by go_num, rfl, HN1.out, HQ1.out, HR1.out, HB1.out⟩
      case measure => simp [intOf]; omega
    · have hie : i = L.length := by omega
      have hql : Aside0 (q = textsS L) := Aside0.mk (by rw [HQ.out, hie]; exact List.take_of_length_le (by unfold textsS; rw [List.length_map]; exact Nat.le_refl _))
      have HQL := Aside0.mk (show q.length ≤ 1000000000 by rw [hql.out]; unfold textsS; rw [List.length_map]; exact hL)
      have HJ2 : Aside0 ((joinS (q.map (·.toList))).length ≤ 140737488355328) := Aside0.mk (by rw [hql.out]; exact HJ.out)
      clear hie hi
      go_wp2_with (go_at_call 28; with_reducible refine (join_row HRB.out HQL.out HJ2.out).mono ?_; rintro e w3 ⟨rfl, hk⟩; replace HB := Aside0.mk (below_step HB.out hk); clear hk)
      go_ret
      refine ⟨?_, HB.out⟩
      rw [← hql.out]
      rfl
end Go.Proofs.Ytikfgdkplgfiiaa.G
