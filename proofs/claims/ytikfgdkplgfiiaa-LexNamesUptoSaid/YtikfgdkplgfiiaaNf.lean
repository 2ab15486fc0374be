/- shown; Same; words and names. Each contract names its state. -/
import Derived.Test.YtikfgdkplgfiiaaNe
import Derived.Test.YtikfgdkplgfiiaaGx6
set_option linter.unusedVariables false
set_option linter.unusedSimpArgs false
namespace Go.Proofs.Ytikfgdkplgfiiaa.G
open Go.RowKit Go.Proofs.Ytikfgdkplgfiiaa.B Go.Proofs.YtikfgdkplgfiiaaW.PrintWords Go.Proofs.YtikfgdkplgfiiaaW.PrintLast Go.Proofs.YtikfgdkplgfiiaaW.PrintMore

/-- A row of tokens that is read. -/
def RdT (W : World) (v : Value) (l : List S32) : Prop := ∃ A c, v = .slice A l.length c ∧ l.length ≤ c ∧ Kd.C k32 W A l.length l
theorem RowT.rd {W : World} {b : Nat} {v : Value} {l : List S32} (h : RowT W b v l) : RdT W v l := Kd.R_reads h
theorem RdT.below {W W' : World} {v : Value} {l : List S32} (h : RdT W v l) (hb : Below W.heap.size W W') : RdT W' v l := by
  obtain ⟨A, c, h1, h2, h3⟩ := h
  exact ⟨A, c, h1, h2, Kd.C_below h3 hb⟩
theorem RowT.form {W : World} {b : Nat} {v : Value} {l : List S32} (h : RowT W b v l) (hp : 0 < l.length) : ∃ g c, v = .slice (some ⟨g, 0, none⟩) l.length c := by
  obtain ⟨g, c, h1, _⟩ := Kd.R_form h hp
  exact ⟨g, c, h1⟩
theorem RowT.cells {W : World} {b g n c : Nat} {l : List S32} (h : RowT W b (.slice (some ⟨g, 0, none⟩) n c) l) (i : Nat) (x : S32) (hx : l[i]? = some x) :
    W.cell? ⟨g, i * 4, none⟩ = some (.int .i64 x.f0) ∧ W.cell? ⟨g, i * 4 + 1, none⟩ = some (.int .i64 x.f1) ∧ W.cell? ⟨g, i * 4 + 2, none⟩ = some (.string x.f2) ∧ W.cell? ⟨g, i * 4 + 3, none⟩ = some (.int .i64 x.f3) := by
  obtain ⟨A, c', he, _, hC⟩ := Kd.R_reads h
  injection he with h1 h2 h3
  subst h1
  have hi := (List.getElem?_eq_some_iff.1 hx).1
  obtain ⟨ad, hA, c0, c1, c2, c3⟩ := at_T32 hC (i : Int) (Int.natCast_nonneg i) (by omega)
  injection hA with hA
  subst hA
  have hr : rd_T32 l (i : Int) = x := by
    unfold rd_T32
    rw [Int.toNat_natCast, List.getD_eq_getElem?_getD, hx]
    rfl
  rw [hr, Int.toNat_natCast] at c0 c1 c2 c3
  have ha : (⟨g, 0, none⟩ : Addr).add (i * 4) = ⟨g, i * 4, none⟩ := by unfold Addr.add; split <;> simp_all
  rw [ha] at c0 c1 c2 c3
  exact ⟨c0, c1, c2, c3⟩
theorem lex1 : lexS [97, 45, 62, 98, 49, 43, 48, 120, 49, 70, 47, 47, 110] = ([⟨1, 0, toB [97], 0⟩, ⟨4, 1, toB [45, 62], 0⟩, ⟨1, 3, toB [98, 49], 0⟩, ⟨4, 5, toB [43], 0⟩, ⟨3, 6, toB [48, 120, 49, 70], 31⟩], 0, 0) := by rfl
theorem lex2 : lexS [48, 56] = ([], 0, 2) := by rfl
theorem lex3 : lexS [120, 32, 47, 42, 32, 121] = ([], 2, 2) := by rfl
theorem toks_const {l : L8} {b : ByteArray} (w : World) (hg : Glob w) (hb : b.toList = l) : Calls Try.prog 12 #[.string b] w fun e w' => ∃ A c, e = .returned (.tuple #[.slice A (lexS l).1.length c, .int .i64 (lexS l).2.1, .int .i64 (lexS l).2.2]) ∧ RowT w' w.heap.size (.slice A (lexS l).1.length c) (lexS l).1 ∧ Below w.heap.size w w' := by
  subst hb
  exact tokens_calls b w hg
theorem rtoks_const {l : L8} {b : ByteArray} (w : World) (hb : b.toList = l) : Calls Try.prog 13 #[.string b] w fun e w' => ∃ A c, e = .returned (.tuple #[.slice A (lexS l).1.length c, .int .i64 (lexS l).2.1, .int .i64 (lexS l).2.2]) ∧ RowT w' w.heap.size (.slice A (lexS l).1.length c) (lexS l).1 ∧ Below w.heap.size w w' := by
  subst hb
  exact rtokens_calls b w
set_option maxHeartbeats 4000000 in
theorem shown_calls (w : World) (hg : Glob w) : Calls Try.prog 11 #[] w fun e w' => e = .returned (.bool true) ∧ Below w.heap.size w w' := by
  have HG := Aside0.mk hg
  have HB := Aside0.mk (Below.refl w.heap.size w)
  have H1 : Aside0 ((⟨#[97, 45, 62, 98, 49, 43, 48, 120, 49, 70, 47, 47, 110]⟩ : ByteArray).toList = [97, 45, 62, 98, 49, 43, 48, 120, 49, 70, 47, 47, 110]) := Aside0.mk (bytes_toList _)
  have H2 : Aside0 ((⟨#[48, 56]⟩ : ByteArray).toList = [48, 56]) := Aside0.mk (bytes_toList _)
  have H3 : Aside0 ((⟨#[120, 32, 47, 42, 32, 121]⟩ : ByteArray).toList = [120, 32, 47, 42, 32, 121]) := Aside0.mk (bytes_toList _)
  clear hg
  go_enter Try.func11, Try.ntmps11
  go_upto_region 2 with (go_at_call 12; with_reducible refine (toks_const _ HG.out H1.out).mono ?_; rintro e w1 ⟨A1, c1, rfl, hR, hk⟩; rw [lex1] at hR ⊢; have HR := Aside0.mk hR; replace HB := Aside0.mk (below_step HB.out hk); clear hR hk)
  obtain ⟨g, c, hf⟩ := HR.out.form (by simp)
  injection hf with hA _ hc
  subst hA hc
  go_upto_region 3 with (go_at_call 12; with_reducible refine (toks_const _ (HG.out.below HB.out) H2.out).mono ?_; rintro e w2 ⟨A2, c2, rfl, hR, hk⟩; rw [lex2] at hR ⊢; replace HB := Aside0.mk (below_step HB.out hk); replace HR := Aside0.mk (HR.out.below hk); clear hR hk)
  go_upto_region 4 with (go_at_call 12; with_reducible refine (toks_const _ (HG.out.below HB.out) H3.out).mono ?_; rintro e w3 ⟨A3, c3, rfl, hR, hk⟩; rw [lex3] at hR ⊢; replace HB := Aside0.mk (below_step HB.out hk); replace HR := Aside0.mk (HR.out.below hk); clear hR hk)
  obtain ⟨_, _, z12, _⟩ := HR.out.cells 1 _ rfl
  obtain ⟨_, z41, _, z43⟩ := HR.out.cells 4 _ rfl
  have k12 : w3.cell? ⟨g, 6, none⟩ = some (.string ⟨#[45, 62]⟩) := z12
  have k41 : w3.cell? ⟨g, 17, none⟩ = some (.int .i64 6) := z41
  have k43 : w3.cell? ⟨g, 19, none⟩ = some (.int .i64 31) := z43
  clear z12 z41 z43
  go_wp2_with fail
  go_ret
  exact ⟨rfl, HB.out⟩
end Go.Proofs.Ytikfgdkplgfiiaa.G
