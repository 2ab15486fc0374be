/- The reference's token is the plain one. Plain Lean, no program. -/
import Derived.Test.YtikfgdkplgfiiaaPe
namespace Go.Proofs.Ytikfgdkplgfiiaa.G
open Go.RowKit Go.Proofs.Ytikfgdkplgfiiaa.B Go.Proofs.YtikfgdkplgfiiaaW.PrintWords Go.Proofs.YtikfgdkplgfiiaaW.PrintLast Go.Proofs.YtikfgdkplgfiiaaW.PrintMore

def tokI (t : Tk) : Int × Int × ByteArray × Int × Int := ((t.kind : Int), 0, toB t.text, (t.n : Int), (t.err : Int))
theorem ext_toB (s : ByteArray) (n : Nat) : s.extract 0 n = toB (s.toList.take n) := by
  apply bytes_eq
  rw [toB_list, tl_head]
theorem ext_toB_tail (s : ByteArray) (n : Nat) : s.extract n s.size = toB (s.toList.drop n) := by
  apply bytes_eq
  rw [toB_list, tl_tail]
def signsB : List ByteArray := [(⟨#[45, 62]⟩ : ByteArray), (⟨#[61, 61]⟩ : ByteArray), (⟨#[33, 61]⟩ : ByteArray), (⟨#[60, 61]⟩ : ByteArray), (⟨#[62, 61]⟩ : ByteArray), (⟨#[60, 60]⟩ : ByteArray), (⟨#[62, 62]⟩ : ByteArray), (⟨#[40]⟩ : ByteArray), (⟨#[41]⟩ : ByteArray), (⟨#[91]⟩ : ByteArray), (⟨#[93]⟩ : ByteArray), (⟨#[123]⟩ : ByteArray), (⟨#[125]⟩ : ByteArray), (⟨#[59]⟩ : ByteArray), (⟨#[44]⟩ : ByteArray), (⟨#[46]⟩ : ByteArray), (⟨#[43]⟩ : ByteArray), (⟨#[45]⟩ : ByteArray), (⟨#[42]⟩ : ByteArray), (⟨#[47]⟩ : ByteArray), (⟨#[37]⟩ : ByteArray), (⟨#[38]⟩ : ByteArray), (⟨#[124]⟩ : ByteArray), (⟨#[94]⟩ : ByteArray), (⟨#[33]⟩ : ByteArray), (⟨#[126]⟩ : ByteArray), (⟨#[60]⟩ : ByteArray), (⟨#[62]⟩ : ByteArray), (⟨#[61]⟩ : ByteArray)]
theorem signs_map : signsB = signsL.map toB := rfl
theorem sign_l0 (s : ByteArray) (hs : s.size ≤ 1000000000) (q : List L8) (hq : ∀ x ∈ q, x.length ≤ 2) (hl : q.length ≤ 100) : ∀ (k i : Nat), i ≤ q.length → q.length - i < k → crosstreeref01_token.l0 k s (q.map toB) (i : Int) = some (match (q.drop i).find? (fun x => x.isPrefixOf s.toList) with | some x => (4, 0, toB x, 0, 0) | none => (0, 0, ⟨#[]⟩, 0, 2)) := by
  intro k
  induction k with
  | zero => intro i h1 h2; omega
  | succ k ih =>
    intro i h1 h2
    rw [crosstreeref01_token.l0, List.length_map]
    by_cases hlt : i < q.length
    · have hr : rdOf ByteArray.empty (q.map toB) (i : Int) = toB q[i] := by
        unfold rdOf
        rw [Int.toNat_natCast, List.getD_eq_getElem?_getD, List.getElem?_map, List.getElem?_eq_getElem hlt]
        rfl
      have hx := hq q[i] (List.getElem_mem hlt)
      have hst := starts_f s (toB q[i]) 0 hs (Nat.zero_le _) (by rw [toB_size]; omega)
      rw [List.drop_zero, toB_list, show ((0 : Nat) : Int) = 0 from rfl] at hst
      rw [if_pos (by omega), if_pos (by omega), hr, hst, Option.bind_some, List.drop_eq_getElem_cons hlt, List.find?_cons, w64 (x := (i : Int) + 1) (by omega) (by omega), show (i : Int) + 1 = ((i + 1 : Nat) : Int) by omega]
      cases hp : q[i].isPrefixOf s.toList with
      | true => rw [if_pos rfl]
      | false => rw [if_neg (by simp), ih (i + 1) (by omega) (by omega)]
    · rw [if_neg (by omega), List.drop_eq_nil_of_le (by omega)]
      rfl
theorem charS_eq {s : ByteArray} {c : UInt8} {t : L8} (e : s.toList = c :: t) (hs : 2 < s.size) : ∃ d f : UInt8, bt s 1 = (d.toNat : Int) ∧ bt s 2 = (f.toNat : Int) ∧ charS s.toList = if f.toNat = 39 ∧ 32 ≤ d.toNat ∧ d.toNat ≤ 126 ∧ d.toNat ≠ 39 ∧ d.toNat ≠ 92 then some d else none := by
  obtain ⟨d, t1, e1, e2⟩ := drop_cons (s := s) (i := 1) (by omega)
  obtain ⟨f, t2, e3, e4⟩ := drop_cons (s := s) (i := 2) (by omega)
  refine ⟨d, f, (bt_drop e1).1, (bt_drop e3).1, ?_⟩
  rw [show 1 + 1 = 2 from rfl, e3] at e2
  rw [e, List.drop_succ_cons, List.drop_zero] at e1
  rw [e, e1, ← e2]
  rfl
theorem charS_short {s : ByteArray} (hs : ¬ 2 < s.size) : charS s.toList = none := by
  rw [← tl_len] at hs
  unfold charS
  split
  · rename_i e
    rw [e] at hs
    simp at hs
  · rfl
theorem token_f (s : ByteArray) (hs : s.size ≤ 1000000000) (h0 : 0 < s.size) (k : Nat) (hk : 2 * s.size + 100 < k) : crosstreeref01_token.f k s = some (tokI (tokS s.toList)) := by
  obtain ⟨c, t, e1, e2⟩ := drop_cons (s := s) (i := 0) h0
  have hb0 : bt s 0 = (c.toNat : Int) := (bt_drop e1).1
  rw [List.drop_zero] at e1
  have hwl := wordLen_le s.toList
  rw [tl_len] at hwl
  unfold crosstreeref01_token.f
  rw [if_pos (by omega), hb0, letter_f, Option.bind_some, run_f s hs k (by omega), Option.bind_some, digit_f, Option.bind_some, number_f s hs h0 k (by omega), Option.bind_some]
  have ht : tokS s.toList = if isLet c = true then (if 24 < wordLen s.toList then ⟨0, [], 0, 5⟩ else ⟨if isWordS (s.toList.take (wordLen s.toList)) = true then 2 else 1, s.toList.take (wordLen s.toList), 0, 0⟩)
    else if isDig c = true then ⟨3, s.toList.take (numS s.toList).2.1, (numS s.toList).1, (numS s.toList).2.2⟩
    else if c.toNat = 39 then (match charS s.toList with | some d => ⟨3, s.toList.take 3, d.toNat, 0⟩ | none => ⟨0, [], 0, 2⟩)
    else match signS s.toList with | some x => ⟨4, x, 0, 0⟩ | none => ⟨0, [], 0, 2⟩ := by
    rw [e1]; rfl
  rw [ht]
  by_cases hl : isLet c = true
  · rw [if_pos hl, if_pos hl]
    by_cases h24 : 24 < wordLen s.toList
    · rw [if_pos (by omega), if_pos h24]
      rfl
    · rw [if_neg (by omega), if_neg h24, if_pos (by omega), if_pos (by omega), Int.toNat_natCast, word_f _ k (by omega), Option.bind_some, tl_head, ext_toB]
      by_cases hw : isWordS (s.toList.take (wordLen s.toList)) = true
      · rw [if_pos hw, if_pos hw]; rfl
      · rw [if_neg hw, if_neg hw]; rfl
  · rw [if_neg hl, if_neg hl]
    by_cases hd : isDig c = true
    · rw [if_pos hd, if_pos hd]
      obtain ⟨n1, n2, n3⟩ := numS_len s.toList
      rw [show (numI (numS s.toList)).1 = ((numS s.toList).2.1 : Int) from rfl, if_pos (by omega), if_pos (by omega), Int.toNat_natCast, ext_toB]
      rfl
    · rw [if_neg hd, if_neg hd]
      by_cases hq : c.toNat = 39
      · rw [if_pos (by omega), if_pos hq]
        by_cases h2 : 2 < s.size
        · obtain ⟨d, f, b1, b2, hc⟩ := charS_eq e1 h2
          rw [if_pos (by omega), if_pos (by omega), hc, b1, b2]
          by_cases c1 : f.toNat = 39
          · rw [if_pos (by omega), if_pos (by omega)]
            by_cases c2 : 32 ≤ d.toNat
            · rw [if_pos (by omega)]
              by_cases c3 : d.toNat ≤ 126
              · rw [if_pos (by omega)]
                by_cases c4 : d.toNat = 39
                · rw [if_pos (by omega), if_neg (by omega)]
                  rfl
                · rw [if_neg (by omega)]
                  by_cases c5 : d.toNat = 92
                  · rw [if_pos (by omega), if_neg (by omega)]
                    rfl
                  · rw [if_neg (by omega), if_pos (by omega), if_pos (by omega), if_pos ⟨c1, c2, c3, c4, c5⟩, ext_toB, w64 (by omega) (by omega)]
                    rfl
              · rw [if_neg (by omega), if_neg (by omega)]
                rfl
            · rw [if_neg (by omega), if_neg (by omega)]
              rfl
          · rw [if_neg (by omega), if_neg (by omega)]
            rfl
        · rw [if_neg (by omega), charS_short h2]
          rfl
      · rw [if_neg (by omega), if_neg hq]
        unfold crosstreeref01_signs.f
        rw [Option.bind_some]
        have := sign_l0 s hs signsL (fun x hx => (sign_len hx).2) (by decide) k 0 (Nat.zero_le _) (by simp [signsL]; omega)
        rw [← signs_map, List.drop_zero] at this
        refine (show _ = _ from this).trans ?_
        unfold signS
        cases signsL.find? (fun x => x.isPrefixOf s.toList) <;> rfl
end Go.Proofs.Ytikfgdkplgfiiaa.G
