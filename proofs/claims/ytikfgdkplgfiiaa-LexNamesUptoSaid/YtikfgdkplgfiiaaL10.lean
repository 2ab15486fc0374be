/- The law LexNames of lex is true where what it reads is of bulk at most 1048576: its walk. -/
import Derived.Test.YtikfgdkplgfiiaaPp
import Derived.Test.YtikfgdkplgfiiaaOp
set_option linter.unusedVariables false
set_option linter.unusedSimpArgs false
namespace Go.Proofs.Ytikfgdkplgfiiaa.G
open Go.RowKit Go.Proofs.Ytikfgdkplgfiiaa.B Go.Proofs.YtikfgdkplgfiiaaW.PrintWords Go.Proofs.YtikfgdkplgfiiaaW.PrintLast Go.Proofs.YtikfgdkplgfiiaaW.PrintMore

theorem wordb {s : ByteArray} {b : Bool} (h : isWordS s.toList = b) (W : World) : Calls Try.prog 16 #[.string s] W fun e w' => e = .returned (.bool b) ∧ Below W.heap.size W w' := by
  rw [← h]; exact word_c rfl W
theorem namec {s : ByteArray} {b : Bool} (h : nameS s.toList = b) (hs : s.size ≤ 1048576) (W : World) : Calls Try.prog 15 #[.string s] W fun e w' => e = .returned (.bool b) ∧ Below W.heap.size W w' :=
  lex_Name.calls 2000000 s _ W (by rw [← h]; exact name_f s (by omega) 2000000 (by omega) (by decide))
theorem rnamec {s : ByteArray} {b : Bool} (h : nameS s.toList = b) (hs : s.size ≤ 1048576) (W : World) : Calls Try.prog 18 #[.string s] W fun e w' => e = .returned (.bool b) ∧ Below W.heap.size W w' :=
  crosstreeref01_Name.calls 2000000 s _ W (by rw [← h]; exact rname_f s (by omega) 2000000 (by omega) (by decide))
theorem rwordc {s : ByteArray} {b : Bool} (h : isWordS s.toList = b) (W : World) : Calls Try.prog 19 #[.string s] W fun e w' => e = .returned (.bool b) ∧ Below W.heap.size W w' :=
  crosstreeref01_Word.calls 30 s _ W (by rw [← h]; exact word_f s 30 (by decide))
theorem rtextc {A : Option Addr} {c : Nat} {L : List S32} (w : World) (hC : Kd.C k32 w A L.length L) (hlc : L.length ≤ c) (hb : sumS L ≤ 1048576) :
    Calls Try.prog 20 #[.slice A L.length c] w fun e w' => e = .returned (.string (toB (joinS ((textsS L).map (·.toList))))) ∧ Below w.heap.size w w' :=
  (crosstreeref01_Text.calls 2000000 A c L _ w hC hlc (rtext_f L (Nat.le_trans (sum_len L) (by omega)) (Nat.le_trans (sum_join L) (by omega)) 2000000 (by have := sum_len L; omega))).mono fun e w' ⟨he, hd⟩ => ⟨he, hd.below⟩
set_option maxRecDepth 100000 in
set_option maxHeartbeats 8000000 in
theorem LexNames_walk (s : ByteArray) (L : List S32) (A : Option Addr) (c : Nat) (w : World) (hs : s.size ≤ 1048576) (hlc : L.length ≤ c) (hC : Kd.C k32 w A L.length L) (hb : sumS L ≤ 1048576) (hg : Glob w) :
    Calls Try.prog 10 #[.string s, .slice A L.length c] w fun e w' => e = .returned (.bool true) ∧ Below w.heap.size w w' := by
  have HG := Aside0.mk hg
  have HS := Aside0.mk hs
  have HC := Aside0.mk (And.intro hC (And.intro hlc hb))
  obtain ⟨b1, hb1⟩ : ∃ b, nameS s.toList = b := ⟨_, rfl⟩
  obtain ⟨b2, hb2⟩ : ∃ b, isWordS s.toList = b := ⟨_, rfl⟩
  obtain ⟨tx, htx⟩ : ∃ tx, toB (joinS ((textsS L).map (·.toList))) = tx := ⟨_, rfl⟩
  have HN := Aside0.mk hb1
  have HW := Aside0.mk hb2
  have HT : Aside0 (∀ W, Below w.heap.size w W → (Calls Try.prog 17 #[.slice A L.length c] W fun e w' => e = .returned (.string tx) ∧ Below W.heap.size W w') ∧ (Calls Try.prog 20 #[.slice A L.length c] W fun e w' => e = .returned (.string tx) ∧ Below W.heap.size W w')) := Aside0.mk (fun W hB => by
    rw [← htx]
    have hC2 := Kd.C_below hC hB
    have hl := sum_len L
    exact ⟨text_calls W ⟨A, c, rfl, hlc, hC2⟩ (by omega) (Nat.le_trans (sum_join L) (by omega)), rtextc W hC2 hlc hb⟩)
  have e1 : (b1 == b1) = true := beq_self_eq_true _
  have e2 : (b2 == b2) = true := beq_self_eq_true _
  have e3 : (tx.toList == tx.toList) = true := beq_self_eq_true _
  clear hg hs hlc hC hb hb1 hb2 htx
  go_enter Try.func10, Try.ntmps10
  go_wp2_with (first | (go_at_call 11; with_reducible refine (shown_calls _ HG.out).mono ?_; rintro e w1 ⟨rfl, hk⟩; have HB := Aside0.mk hk; clear hk) | (go_at_call 15; with_reducible refine (namec HN.out HS.out _).mono ?_; rintro e w2 ⟨rfl, hk⟩; replace HB := Aside0.mk (below_step HB.out hk); clear hk) | (go_at_call 18; with_reducible refine (rnamec HN.out HS.out _).mono ?_; rintro e w2 ⟨rfl, hk⟩; replace HB := Aside0.mk (below_step HB.out hk); clear hk) | (go_at_call 16; with_reducible refine (wordb HW.out _).mono ?_; rintro e w2 ⟨rfl, hk⟩; replace HB := Aside0.mk (below_step HB.out hk); clear hk) | (go_at_call 19; with_reducible refine (rwordc HW.out _).mono ?_; rintro e w2 ⟨rfl, hk⟩; replace HB := Aside0.mk (below_step HB.out hk); clear hk) | (go_at_call 17; with_reducible refine (HT.out _ HB.out).1.mono ?_; rintro e w2 ⟨rfl, hk⟩; replace HB := Aside0.mk (below_step HB.out hk); clear hk) | (go_at_call 20; with_reducible refine (HT.out _ HB.out).2.mono ?_; rintro e w2 ⟨rfl, hk⟩; replace HB := Aside0.mk (below_step HB.out hk); clear hk))
  go_ret
  exact ⟨rfl, HB.out⟩
end Go.Proofs.Ytikfgdkplgfiiaa.G
