/- The law LexNames, plain: the reference's Name and Text. Plain Lean, no program. -/
import Derived.Test.YtikfgdkplgfiiaaNg
namespace Go.Proofs.Ytikfgdkplgfiiaa.G
open Go.RowKit Go.Proofs.Ytikfgdkplgfiiaa.B Go.Proofs.YtikfgdkplgfiiaaW.PrintWords Go.Proofs.YtikfgdkplgfiiaaW.PrintLast Go.Proofs.YtikfgdkplgfiiaaW.PrintMore

theorem rname_f (s : ByteArray) (hs : s.size ≤ 1000000000) (k : Nat) (hk : s.size < k) (h20 : 20 ≤ k) : crosstreeref01_Name.f k s = some (nameS s.toList) := by
  unfold crosstreeref01_Name.f
  have h9 := tl_len s
  cases hl : s.toList with
  | nil => rw [if_pos rfl]; rfl
  | cons c t =>
    rw [hl] at h9
    rw [if_neg (by simp)]
    unfold nameS
    simp only []
    rw [h9]
    by_cases h24 : s.size ≤ 24
    · rw [if_pos (by omega), run_f s hs k hk, hl, Option.bind_some, decide_eq_true h24]
      by_cases hw : wordLen (c :: t) = s.size
      · have hb : bt s 0 = (c.toNat : Int) := bt_get (i := 0) (by rw [hl]; rfl)
        rw [if_pos (by omega), if_pos (by rw [← h9]; simp), hb, letter_f c, Option.bind_some, decide_eq_true hw]
        have hwd : isWd c = true := by
          cases hc : isWd c with
          | true => rfl
          | false =>
            rw [wordLen_cons, if_neg (by rw [hc]; simp)] at hw
            rw [← hw] at h9
            simp at h9
        cases hlc : isLet c with
        | true => rw [if_pos rfl, word_f s k h20, Option.bind_some, hl, let_dig hlc]; simp
        | false =>
          have hd : isDig c = true := by
            rw [isWd_iff, hlc] at hwd
            exact hwd.resolve_left (by simp)
          rw [if_neg (by simp), hd]
          rfl
      · rw [if_neg (by omega), decide_eq_false hw]
        rfl
    · rw [if_neg (by omega), decide_eq_false h24]
      rfl
def tailS : List L8 → L8
  | [] => []
  | x :: r => 32 :: x ++ tailS r
theorem joinS_tail : ∀ (r : List L8) (x : L8), joinS (x :: r) = x ++ tailS r := by
  intro r
  induction r with
  | nil => intro x; simp [joinS, tailS]
  | cons y r ih =>
    intro x
    rw [joinS, ih y, tailS]
    simp
theorem texts_drop {L : List S32} {i : Nat} {x : S32} (h : L[i]? = some x) : ((textsS L).map (·.toList)).drop i = x.f2.toList :: ((textsS L).map (·.toList)).drop (i + 1) := by
  obtain ⟨hi, hx⟩ := List.getElem?_eq_some_iff.1 h
  rw [List.drop_eq_getElem_cons (by unfold textsS; simp only [List.length_map]; exact hi)]
  simp [textsS, hx]
theorem rtext_l0 (L : List S32) (hL : L.length ≤ 1000000000) : ∀ (k i : Nat) (s : ByteArray), 1 ≤ i → i ≤ L.length → L.length - i < k → s.size + (tailS (((textsS L).map (·.toList)).drop i)).length ≤ 1000000000000 →
    ∃ r, crosstreeref01_Text.l0 k L s (i : Int) = some r ∧ r.toList = s.toList ++ tailS (((textsS L).map (·.toList)).drop i) := by
  intro k
  induction k with
  | zero => intro i s _ _ h _; omega
  | succ k ih =>
    intro i s h1 hi hk hs
    unfold crosstreeref01_Text.l0
    by_cases hlt : i < L.length
    · obtain ⟨x, hx⟩ : ∃ x, L[i]? = some x := ⟨_, List.getElem?_eq_getElem hlt⟩
      have hr : rd_T32 L (i : Int) = x := by
        unfold rd_T32
        rw [Int.toNat_natCast, List.getD_eq_getElem?_getD, hx]
        rfl
      have hd := texts_drop hx
      rw [hd] at hs ⊢
      rw [tailS] at hs ⊢
      simp only [List.length_append, List.length_cons] at hs
      have hxl : x.f2.toList.length = x.f2.size := tl_len _
      have hs1 : (s ++ (⟨#[32]⟩ : ByteArray)).size = s.size + 1 := by rw [ByteArray.size_append]; rfl
      rw [if_pos (by omega), if_pos (by omega), if_pos (by omega), if_pos (by omega), hr, hs1, if_pos (by omega), w64 (x := (i : Int) + 1) (by omega) (by omega), show (i : Int) + 1 = ((i + 1 : Nat) : Int) by omega]
      obtain ⟨r, e1, e2⟩ := ih (i + 1) ((s ++ (⟨#[32]⟩ : ByteArray)) ++ x.f2) (by omega) (by omega) (by omega) (by rw [ByteArray.size_append, hs1]; omega)
      refine ⟨r, e1, ?_⟩
      rw [e2, tl_append, tl_append, bytes_toList ⟨#[32]⟩]
      simp
    · rw [if_neg (by omega), List.drop_eq_nil_of_le (by unfold textsS; simp only [List.length_map]; omega)]
      exact ⟨s, rfl, by simp [tailS]⟩
theorem rtext_f (L : List S32) (hL : L.length ≤ 1000000000) (hj : (joinS ((textsS L).map (·.toList))).length ≤ 1000000000000) (k : Nat) (hk : L.length + 1 < k) : crosstreeref01_Text.f k L = some (toB (joinS ((textsS L).map (·.toList)))) := by
  unfold crosstreeref01_Text.f
  obtain ⟨m, rfl⟩ : ∃ m, k = m + 1 := ⟨k - 1, by omega⟩
  unfold crosstreeref01_Text.l0
  cases L with
  | nil => rfl
  | cons x L =>
    have hr : rd_T32 (x :: L) 0 = x := rfl
    have hc : (textsS (x :: L)).map (·.toList) = x.f2.toList :: (textsS L).map (·.toList) := rfl
    rw [hc, joinS_tail, List.length_append, tl_len] at hj
    have e0 : (⟨#[]⟩ : ByteArray).size = 0 := rfl
    rw [if_pos (by simp only [List.length_cons]; omega), if_neg (by omega), if_pos (by omega), hr, e0, if_pos (by omega), w64 (x := (0 : Int) + 1) (by omega) (by omega)]
    have e1 : ((⟨#[]⟩ : ByteArray) ++ x.f2) = x.f2 := by
      apply bytes_eq
      rw [tl_append, bytes_toList ⟨#[]⟩]
      rfl
    rw [e1]
    obtain ⟨r, h1, h2⟩ := rtext_l0 (x :: L) hL m 1 x.f2 (by omega) (by simp) (by omega) (by rw [hc]; simpa using hj)
    rw [show (0 : Int) + 1 = ((1 : Nat) : Int) from rfl, h1]
    congr 1
    apply bytes_eq
    rw [h2, toB_list, hc, joinS_tail]
    rfl
end Go.Proofs.Ytikfgdkplgfiiaa.G
