/- scc.Groups as the laws of calls read it. No condition but sizes. -/
import Derived.Test.YtjbgealnnlmchaaRa
import Derived.Test.YtjbgealnnlmchaaNc
set_option linter.unusedVariables false
set_option linter.unusedSimpArgs false
namespace Go.Proofs.Ytjbgealnnlmchaa.G
open Go.RowKit Go.Proofs.Ytjbgealnnlmchaa.B Go.Proofs.YtjbgealnnlmchaaW.PrintWords Go.Proofs.YtjbgealnnlmchaaW.PrintLast Go.Proofs.YtjbgealnnlmchaaW.PrintMore

theorem groups_d (n : Int) (l : List S41) (A : Option Addr) (c : Nat) (w : World) (h : Edg w A l c) (r : List Nat) (hr : GrpOk (sizeN n) l r) (t : List Int) (ht : t = ints r) :
    Calls Try.prog 24 #[.int .i64 n, .slice A l.length c] w fun e w' => ∃ A c, e = .returned (.slice A t.length c) ∧ Nts w' A t c ∧ Below w.heap.size w w' := by
  subst ht
  rw [ints_len]
  obtain ⟨kg, hf⟩ := graph_f n l h.len
  obtain ⟨sE, hs, hgr⟩ := groups_ok (sizeN n) l (sizeN_le n)
  have hgc := groups_c n A c l w (graphS (sizeN n) l) kg h.C h.cap hf (by rw [graphS_len]; exact sizeN_le n) (fun v x hx => by rw [graphS_len]; exact (EE_lt ((graphS_mem _ _ v x).1 hx)).2) (fun v => Nat.le_trans (graphS_row _ _ v) h.len) sE hs
  rw [graphS_len, hgr.unique hr, ← hr.1] at hgc
  refine hgc.mono ?_
  rintro e w' ⟨A', c', rfl, h1, h2, h3⟩
  exact ⟨A', c', rfl, ⟨by rw [ints_len]; exact h2, by rw [ints_len]; exact h1⟩, h3⟩
end Go.Proofs.Ytjbgealnnlmchaa.G
