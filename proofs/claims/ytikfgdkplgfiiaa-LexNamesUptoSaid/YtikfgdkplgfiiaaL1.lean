/- The law LexTokens of lex is true: its walk. No condition. -/
import Derived.Test.YtikfgdkplgfiiaaNf
import Derived.Test.YtikfgdkplgfiiaaPh
set_option linter.unusedVariables false
set_option linter.unusedSimpArgs false
namespace Go.Proofs.Ytikfgdkplgfiiaa.G
open Go.RowKit Go.Proofs.Ytikfgdkplgfiiaa.B Go.Proofs.YtikfgdkplgfiiaaW.PrintWords Go.Proofs.YtikfgdkplgfiiaaW.PrintLast Go.Proofs.YtikfgdkplgfiiaaW.PrintMore

theorem same_rd {W : World} {v1 v2 : Value} {l m : List S32} {p : Bool} (h1 : RdT W v1 l) (h2 : RdT W v2 m) (hl : l.length = m.length) (h9 : l.length ≤ 1000000) (h : ∀ (i : Nat) x y, l[i]? = some x → m[i]? = some y → Alike p x y) :
    Calls Try.prog 14 #[v1, v2, .bool p] W fun e w' => e = .returned (.bool true) ∧ Below W.heap.size W w' := by
  obtain ⟨A, c, rfl, hc, hC⟩ := h1
  obtain ⟨A2, c2, rfl, hc2, hC2⟩ := h2
  exact (crosstreeref01_Same.calls 2000000 A c l A2 c2 m p true W hC hc hC2 hc2 (same_f hl h9 h)).mono fun e w' ⟨he, hd⟩ => ⟨he, hd.below⟩
set_option maxRecDepth 100000 in
set_option maxHeartbeats 4000000 in
theorem LexTokens_walk (s : ByteArray) (w : World) (hg : Glob w) :
    Calls Try.prog 3 #[.string s] w fun e w' => e = .returned (.bool true) ∧ Below w.heap.size w w' := by
  have HG := Aside0.mk hg
  have HN := Aside0.mk (lexS_len s.toList)
  clear hg
  go_enter Try.func3, Try.ntmps3
  go_upto_region 5 with (first | (go_at_call 11; with_reducible refine (shown_calls _ HG.out).mono ?_; rintro e w1 ⟨rfl, hk⟩; have HB := Aside0.mk hk; clear hk) | (go_at_call 12; with_reducible refine (toks_const _ (HG.out.below HB.out) rfl).mono ?_; rintro e w2 ⟨A1, c1, rfl, hR, hk⟩; have HR := Aside0.mk hR.rd; replace HB := Aside0.mk (below_step HB.out hk); clear hR hk) | (go_at_call 13; with_reducible refine (rtoks_const _ rfl).mono ?_; rintro e w3 ⟨A2, c2, rfl, hR, hk⟩; replace HR := Aside0.mk (HR.out.below hk); have HR2 := Aside0.mk hR.rd; replace HB := Aside0.mk (below_step HB.out hk); clear hR hk) | (go_at_call 14; with_reducible refine (same_rd HR.out HR2.out rfl (Nat.le_trans HN.out (by decide)) (alike_refl _ _)).mono ?_; rintro e w4 ⟨rfl, hk⟩; replace HB := Aside0.mk (below_step HB.out hk); clear hk))
  go_wp2_with fail
  go_ret
  exact ⟨by simp, HB.out⟩
end Go.Proofs.Ytikfgdkplgfiiaa.G
