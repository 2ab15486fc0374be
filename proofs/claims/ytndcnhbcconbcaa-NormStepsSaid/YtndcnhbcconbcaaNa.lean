/- ctype.Width and layout.record as plain functions. The arguments read as types and records. -/
import Derived.Test.YtndcnhbcconbcaaGx1
import Derived.Test.YtndcnhbcconbcaaArgs
set_option linter.unusedVariables false
set_option linter.unusedSimpArgs false
namespace Go.Proofs.Ytndcnhbcconbcaa.G
open Go.RowKit Go.Proofs.Ytndcnhbcconbcaa.B Go.Proofs.YtndcnhbcconbcaaW.PrintWords Go.Proofs.YtndcnhbcconbcaaW.PrintLast Go.Proofs.YtndcnhbcconbcaaW.PrintMore

def widthT (a : Int) : Int := if a = 2 then 1 else if a = 3 then 4 else if a = 4 then 8 else if a = 5 then 8 else 0
theorem width_c (a b : Int) (s : ByteArray) (A : Option Addr) (n c : Nat) (w : World) :
    Calls Try.prog 28 #[.agg #[.int .i64 a, .int .i64 b, .string s, .slice A n c]] w fun e w' => e = .returned (.int .i64 (widthT a)) ∧ Below w.heap.size w w' := by
  by_cases h0 : a < 0
  · have e0 : widthT a = 0 := by unfold widthT; repeat (first | rw [if_neg (by omega)])
    rw [e0]
    go_enter Try.func28, Try.ntmps28
    go_wp2
    go_ret
    exact ⟨rfl, ((Below.refl _ _).alloc (Nat.le_refl _) _).alloc (by simp) _⟩
  by_cases h6 : 6 ≤ a
  · have e0 : widthT a = 0 := by unfold widthT; repeat (first | rw [if_neg (by omega)])
    rw [e0]
    go_enter Try.func28, Try.ntmps28
    go_wp2
    go_ret
    exact ⟨rfl, ((Below.refl _ _).alloc (Nat.le_refl _) _).alloc (by simp) _⟩
  have : a = 0 ∨ a = 1 ∨ a = 2 ∨ a = 3 ∨ a = 4 ∨ a = 5 := by omega
  rcases this with rfl | rfl | rfl | rfl | rfl | rfl
  all_goals
    go_enter Try.func28, Try.ntmps28
    go_wp2
    go_ret
    exact ⟨rfl, ((Below.refl _ _).alloc (Nat.le_refl _) _).alloc (by simp) _⟩

theorem results_row_tmp {P : Program} {fn : Func} {p u : Tmp} {ty : TypeId} (h : fn.results = #[.cell p ty, .tmp u]) (tmps : Array Value) (w : World) (g : Nat) (t : TypeId) (cs : Array Value) (fr : Nat × Nat) (d : TypeDesc)
    (hp : tmps.getD p undef = .pointer (some ⟨g, 0, none⟩)) (hg : w.heap[g]? = some (.cells cs t fr))
    (hu : P.underlying ty = some d) (hd : (match d with | .struct _ | .array _ _ => true | _ => false) = true) (hi : (P.info? ty).map (·.size) = some cs.size) :
    (results fn tmps).run P w = .ok (.tuple #[.agg cs, tmps.getD u undef]) w := by
  have hp' : tmps[p]?.getD undef = .pointer (some ⟨g, 0, none⟩) := by simpa using hp
  simp [results, h, hp', asAddr, run_loadVar_row w g t ty cs fr d hg hu hd hi]
theorem blk_put7 {W : World} {g t : Nat} {a0 a1 a2 a3 a4 a5 a6 : Value} (h : W.heap[g]? = some (.cells #[a0, a1, a2, a3, a4, a5, a6] t (0, 0))) (b0 b1 b2 b3 b4 b5 b6 : Value) :
    (((((((W.setCell ⟨g, 0, none⟩ b0).setCell ⟨g, 1, none⟩ b1).setCell ⟨g, 2, none⟩ b2).setCell ⟨g, 3, none⟩ b3).setCell ⟨g, 4, none⟩ b4).setCell ⟨g, 5, none⟩ b5).setCell ⟨g, 6, none⟩ b6).heap[g]? = some (.cells #[b0, b1, b2, b3, b4, b5, b6] t (0, 0)) := by
  have h0 := blk_put h 0 b0 (cs' := #[b0, a1, a2, a3, a4, a5, a6]) rfl
  have h1 := blk_put h0 1 b1 (cs' := #[b0, b1, a2, a3, a4, a5, a6]) rfl
  have h2 := blk_put h1 2 b2 (cs' := #[b0, b1, b2, a3, a4, a5, a6]) rfl
  have h3 := blk_put h2 3 b3 (cs' := #[b0, b1, b2, b3, a4, a5, a6]) rfl
  have h4 := blk_put h3 4 b4 (cs' := #[b0, b1, b2, b3, b4, a5, a6]) rfl
  have h5 := blk_put h4 5 b5 (cs' := #[b0, b1, b2, b3, b4, b5, a6]) rfl
  exact blk_put h5 6 b6 rfl
theorem below_put7 {w W : World} {g : Nat} (h : Below w.heap.size w W) (hg : w.heap.size ≤ g) (b0 b1 b2 b3 b4 b5 b6 : Value) :
    Below w.heap.size w (((((((W.setCell ⟨g, 0, none⟩ b0).setCell ⟨g, 1, none⟩ b1).setCell ⟨g, 2, none⟩ b2).setCell ⟨g, 3, none⟩ b3).setCell ⟨g, 4, none⟩ b4).setCell ⟨g, 5, none⟩ b5).setCell ⟨g, 6, none⟩ b6) :=
  below_set (below_set (below_set (below_set (below_set (below_set (below_set h hg) hg) hg) hg) hg) hg) hg

/-- Is this the record of a kind and a name? -/
def isRec (k : Int) (nm : ByteArray) (r : S51) : Bool := (r.f0.f0 == k) && (r.f0.f2.toList == nm.toList)
/-- The first record of a type. -/
def findR (l : List S51) (k : Int) (nm : ByteArray) : Option S51 := if k = 7 ∨ k = 8 then l.find? (isRec k nm) else none
theorem find_next {l : List S51} {k : Int} {nm : ByteArray} {i : Nat} (hi : i < l.length) : (l.drop i).find? (isRec k nm) = if isRec k nm (rd_T51 l i) then some (rd_T51 l i) else (l.drop (i + 1)).find? (isRec k nm) := by
  have e : rd_T51 l i = l[i] := by
    unfold rd_T51
    rw [Int.toNat_natCast, List.getD_eq_getElem?_getD, List.getElem?_eq_getElem hi]
    rfl
  rw [e, List.drop_eq_getElem_cons hi, List.find?_cons]
  cases isRec k nm l[i] <;> rfl
set_option maxRecDepth 100000 in
set_option maxHeartbeats 2000000 in
theorem record_c (l : List S51) (A : Option Addr) (c : Nat) (k n : Int) (nm : ByteArray) (B : Option Addr) (m d : Nat) (w : World) (hl : l.length ≤ c) (hC : k51.C w A l.length l) (r : Option S51) (hr : findR l k nm = r) :
    Calls Try.prog 26 #[.slice A l.length c, .agg #[.int .i64 k, .int .i64 n, .string nm, .slice B m d]] w fun e w' => ∃ (x0 x1 : Int) (x2 : ByteArray) (A3 : Option Addr) (n3 c3 : Nat) (A6 : Option Addr) (n6 c6 : Nat), e = .returned (.tuple #[.agg #[.int .i64 x0, .int .i64 x1, .string x2, .slice A3 n3 c3, .int .i64 (r.getD z51).f1, .int .i64 (r.getD z51).f2, .slice A6 n6 c6], .bool r.isSome]) ∧ Below w.heap.size w w' := by
  have HC := Aside0.mk hC
  have HL := Aside0.mk hl
  have HM : Aside0 (l.length ≤ maxLen) := Aside0.mk hC.2.1
  have HR := Aside0.mk hr
  clear hC hl hr
  by_cases hk : k = 7 ∨ k = 8
  · have hf : findR l k nm = l.find? (isRec k nm) := by unfold findR; rw [if_pos hk]
    have HF := Aside0.mk (hf.symm.trans HR.out)
    clear hf HR
    have hk2 : (k == 7) = true ∨ ((k == 7) = false ∧ (k == 8) = true) := by
      rcases hk with rfl | rfl
      · exact .inl rfl
      · exact .inr ⟨rfl, rfl⟩
    have hB : ∀ (g : Nat) (W : World), W.heap[g]? = some (.cells #[.int .i64 k, .int .i64 n, .string nm, .slice B m d] 24 (0, 0)) → W.cell? ⟨g, 0, none⟩ = some (.int .i64 k) ∧ W.cell? ⟨g, 1, none⟩ = some (.int .i64 n) ∧ W.cell? ⟨g, 2, none⟩ = some (.string nm) ∧ W.cell? ⟨g, 3, none⟩ = some (.slice B m d) := fun g W h => cell4 h
    have HCB := Aside0.mk hB
    clear hB hk
    have main : ∀ b7 b8, (k == 7) = b7 → (k == 8) = b8 → (b7 || b8) = true → Calls Try.prog 26 #[.slice A l.length c, .agg #[.int .i64 k, .int .i64 n, .string nm, .slice B m d]] w fun e w' => ∃ (x0 x1 : Int) (x2 : ByteArray) (A3 : Option Addr) (n3 c3 : Nat) (A6 : Option Addr) (n6 c6 : Nat), e = .returned (.tuple #[.agg #[.int .i64 x0, .int .i64 x1, .string x2, .slice A3 n3 c3, .int .i64 (r.getD z51).f1, .int .i64 (r.getD z51).f2, .slice A6 n6 c6], .bool r.isSome]) ∧ Below w.heap.size w w' := by
      intro b7 b8 hb7 hb8 hbb
      go_enter Try.func26, Try.ntmps26
      have : ¬ (b7 = true ∧ b8 = true) := by rintro ⟨rfl, rfl⟩; have h1 := eq_of_beq hb7; have h2 := eq_of_beq hb8; omega
      cases b7 <;> cases b8 <;> first | (exact absurd hbb (by decide)) | (exact absurd ⟨rfl, rfl⟩ this) | clear this
      all_goals
        clear hbb hk2
        go_upto_region 3 with (fail)
        have HX3 := Aside0.mk (blk_alloc (blk_new w (.cells #[.int .i64 k, .int .i64 n, .string nm, .slice B m d] 24)) (.cells #[.int .i64 0, .int .i64 0, .string ⟨#[]⟩, .slice none 0 0, .int .i64 0, .int .i64 0, .slice none 0 0] 51))
        have HX4 := Aside0.mk (blk_at_ (W := w.alloc (.cells #[.int .i64 k, .int .i64 n, .string nm, .slice B m d] 24)) (n := w.heap.size + 1) (.cells #[.int .i64 0, .int .i64 0, .string ⟨#[]⟩, .slice none 0 0, .int .i64 0, .int .i64 0, .slice none 0 0] 51) (by simp))
        have HB0 := Aside0.mk (below_alloc (below_alloc (Below.refl w.heap.size w) (.cells #[.int .i64 k, .int .i64 n, .string nm, .slice B m d] 24)) (.cells #[.int .i64 0, .int .i64 0, .string ⟨#[]⟩, .slice none 0 0, .int .i64 0, .int .i64 0, .slice none 0 0] 51))
        have HG4 : Aside0 (w.heap.size ≤ w.heap.size + 1) := Aside0.mk (by omega)
        generalize (w.alloc (.cells #[.int .i64 k, .int .i64 n, .string nm, .slice B m d] 24)).alloc (.cells #[.int .i64 0, .int .i64 0, .string ⟨#[]⟩, .slice none 0 0, .int .i64 0, .int .i64 0, .slice none 0 0] 51) = W0 at HX3 HX4 HB0 ⊢
        generalize hg4 : w.heap.size + 1 = g4 at HX4 HG4 ⊢
        generalize hg3 : w.heap.size = g3 at HX3 ⊢
        clear hg3 hg4
        go_loopw [18] (fun iv wx => ∃ (i : Nat), i ≤ l.length ∧ iv = .int .i64 (i : Int) ∧ Hid (Below W0.heap.size W0 wx) ∧ Hid ((l.drop i).find? (isRec k nm) = r)) (fun iv _ => l.length - (intOf iv).toNat)
        case atStart => exact ⟨0, Nat.zero_le _, rfl, Below.refl _ _, HF.out⟩
        case round =>
          obtain ⟨i, hi, rfl, h1, h2⟩ := hrel
          have HW := Aside0.mk (show Below W0.heap.size W0 wr from h1)
          have HI := Aside0.mk (show (l.drop i).find? (isRec k nm) = r from h2)
          clear h1 h2
          by_cases hlt : (i : Int) < (l.length : Int)
          · have hi1 : i < l.length := by omega
            have hi0 : (0 : Int) ≤ (i : Int) := Int.natCast_nonneg i
            have hwi : IntKind.i64.wrap ((i : Int) + 1) = (i : Int) + 1 := by have := HM.out; unfold maxLen at this; rw [IntKind.wrap_i64]; omega
            obtain ⟨ad, A3, c3, A6, c6, eA, q0, q1, q2, q3, q4, q5, q6, l3, f3, l6, f6⟩ := at_T51 (Kd.C_below (Kd.C_below HC.out HB0.out) HW.out) (i : Int) hi0 hlt
            have hn := find_next (k := k) (nm := nm) hi1
            have HN := Aside0.mk (hn.symm.trans HI.out)
            have HRD := Aside0.mk (show rd_T51 l i = rd_T51 l i from rfl)
            clear hn HI l3 f3 l6 f6
            obtain ⟨x, hx⟩ : ∃ x, rd_T51 l (i : Int) = x := ⟨_, rfl⟩
            rw [hx] at q0 q1 q2 q3 q4 q5 q6
            rw [Int.toNat_natCast] at q0 q1 q2 q3 q4 q5 q6
            have HN2 := Aside0.mk (by have := HN.out; rw [hx] at this; exact this)
            clear HN HRD hx
            subst eA
            obtain ⟨z0, z1, z2, z3⟩ := HCB.out _ _ (blk_below HX3.out HW.out)
            have HBW := Aside0.mk (below_step HB0.out HW.out)
            obtain ⟨b0, hb0⟩ : ∃ b, (x.f0.f0 == k) = b := ⟨_, rfl⟩
            obtain ⟨b2, hb2⟩ : ∃ b, (x.f0.f2.toList == nm.toList) = b := ⟨_, rfl⟩
            have hrec : isRec k nm x = (b0 && b2) := by unfold isRec; rw [hb0, hb2]
            have HREC := Aside0.mk hrec
            clear hrec
            have y4 := blk_below HX4.out HW.out
            obtain ⟨v0, v1, v2, v3, v4, v5, v6⟩ : wr.cell? ⟨g4, 0, none⟩ = some (.int .i64 0) ∧ wr.cell? ⟨g4, 1, none⟩ = some (.int .i64 0) ∧ wr.cell? ⟨g4, 2, none⟩ = some (.string ⟨#[]⟩) ∧ wr.cell? ⟨g4, 3, none⟩ = some (.slice none 0 0) ∧ wr.cell? ⟨g4, 4, none⟩ = some (.int .i64 0) ∧ wr.cell? ⟨g4, 5, none⟩ = some (.int .i64 0) ∧ wr.cell? ⟨g4, 6, none⟩ = some (.slice none 0 0) := ⟨(blk_cell y4 0).trans rfl, (blk_cell y4 1).trans rfl, (blk_cell y4 2).trans rfl, (blk_cell y4 3).trans rfl, (blk_cell y4 4).trans rfl, (blk_cell y4 5).trans rfl, (blk_cell y4 6).trans rfl⟩
            have f0 := blk_frozen y4 0
            have f1 := blk_frozen y4 1
            have f2 := blk_frozen y4 2
            have f3 := blk_frozen y4 3
            have f4 := blk_frozen y4 4
            have f5 := blk_frozen y4 5
            have f6 := blk_frozen y4 6
            have lt4 : g4 < wr.heap.size := blk_lt y4
            have lt3 : g3 < wr.heap.size := blk_lt (blk_below HX3.out HW.out)
            clear y4
            cases b0 with
            | true =>
              cases b2 with
              | true =>
                have hN := HN2.out
                rw [if_pos (by rw [HREC.out]; rfl)] at hN
                have HNN := Aside0.mk hN
                clear hN HN2 HREC
                have HY4 := Aside0.mk (blk_below HX4.out HW.out)
                go_wp2
                rw [← HNN.out]
                refine bodyPost_ret (results_row_tmp rfl _ _ g4 51 _ (0, 0) _ rfl (blk_alloc (blk_put7 HY4.out _ _ _ _ _ _ _) _) Try.underlying51 rfl (by kernel_rfl)) rfl ⟨_, _, _, _, _, _, _, _, _, rfl, below_alloc (below_put7 HBW.out HG4.out _ _ _ _ _ _ _) _⟩
              | false =>
                have hN := HN2.out
                rw [if_neg (by rw [HREC.out]; decide)] at hN
                have HNN := Aside0.mk hN
                clear hN HN2 HREC
                go_wp2
                go_roundw
                case rel => exact ⟨i + 1, by omega, by go_num, HW.out.alloc HW.out.size _, HNN.out⟩
                case measure => simp [intOf]; omega
            | false =>
              have hN := HN2.out
              rw [if_neg (by rw [HREC.out]; simp)] at hN
              have HNN := Aside0.mk hN
              clear hN HN2 HREC
              go_wp2
              go_roundw
              case rel => exact ⟨i + 1, by omega, by go_num, HW.out.alloc HW.out.size _, HNN.out⟩
              case measure => simp [intOf]; omega
          · have hN := HI.out
            rw [List.drop_eq_nil_of_le (by omega)] at hN
            have HNN := Aside0.mk (show none = r from hN)
            clear hN HI
            have y4 := blk_below HX4.out HW.out
            obtain ⟨v0, v1, v2, v3, v4, v5, v6⟩ : wr.cell? ⟨g4, 0, none⟩ = some (.int .i64 0) ∧ wr.cell? ⟨g4, 1, none⟩ = some (.int .i64 0) ∧ wr.cell? ⟨g4, 2, none⟩ = some (.string ⟨#[]⟩) ∧ wr.cell? ⟨g4, 3, none⟩ = some (.slice none 0 0) ∧ wr.cell? ⟨g4, 4, none⟩ = some (.int .i64 0) ∧ wr.cell? ⟨g4, 5, none⟩ = some (.int .i64 0) ∧ wr.cell? ⟨g4, 6, none⟩ = some (.slice none 0 0) := ⟨(blk_cell y4 0).trans rfl, (blk_cell y4 1).trans rfl, (blk_cell y4 2).trans rfl, (blk_cell y4 3).trans rfl, (blk_cell y4 4).trans rfl, (blk_cell y4 5).trans rfl, (blk_cell y4 6).trans rfl⟩
            have f0 := blk_frozen y4 0
            have f1 := blk_frozen y4 1
            have f2 := blk_frozen y4 2
            have f3 := blk_frozen y4 3
            have f4 := blk_frozen y4 4
            have f5 := blk_frozen y4 5
            have f6 := blk_frozen y4 6
            have lt4 : g4 < wr.heap.size := blk_lt y4
            clear y4
            have HY4 := Aside0.mk (blk_below HX4.out HW.out)
            go_wp2
            rw [← HNN.out]
            have hres := fun (tm : Array Value) (h4 : tm.getD 4 undef = .pointer (some ⟨g4, 0, none⟩)) => results_row_tmp (P := Try.prog) (fn := Try.f26) rfl tm _ g4 51 _ (0, 0) _ h4 (blk_put7 HY4.out (.int .i64 0) (.int .i64 0) (.string ⟨#[]⟩) (.slice none 0 0) (.int .i64 0) (.int .i64 0) (.slice none 0 0)) Try.underlying51 rfl (by kernel_rfl)
            exact bodyPost_ret (hres _ rfl) rfl ⟨⟨_, _, _, _, _, _, _, _, _, rfl⟩, below_put7 (below_step HB0.out HW.out) HG4.out _ _ _ _ _ _ _⟩
    exact main _ _ rfl rfl (by rcases hk2 with h | ⟨h, h'⟩ <;> simp [h, *])
  · have hf : findR l k nm = none := by unfold findR; rw [if_neg hk]
    have hR := HR.out
    rw [hf] at hR
    subst hR
    have b7 : (k == 7) = false := beq_eq_false_iff_ne.mpr (fun h => hk (.inl h))
    have b8 : (k == 8) = false := beq_eq_false_iff_ne.mpr (fun h => hk (.inr h))
    clear hk hf HR
    go_enter Try.func26, Try.ntmps26
    have HY4 := Aside0.mk (blk_at_ (W := w.alloc (.cells #[.int .i64 k, .int .i64 n, .string nm, .slice B m d] 24)) (n := w.heap.size + 1) (.cells #[.int .i64 0, .int .i64 0, .string ⟨#[]⟩, .slice none 0 0, .int .i64 0, .int .i64 0, .slice none 0 0] 51) (by simp))
    have HB0 := Aside0.mk (below_alloc (below_alloc (Below.refl w.heap.size w) (.cells #[.int .i64 k, .int .i64 n, .string nm, .slice B m d] 24)) (.cells #[.int .i64 0, .int .i64 0, .string ⟨#[]⟩, .slice none 0 0, .int .i64 0, .int .i64 0, .slice none 0 0] 51))
    go_wp2
    exact bodyPost_ret (results_row_tmp (P := Try.prog) (fn := Try.f26) rfl _ _ (w.heap.size + 1) 51 _ (0, 0) _ rfl HY4.out Try.underlying51 rfl (by kernel_rfl)) rfl ⟨_, _, _, _, _, _, _, _, _, rfl, HB0.out⟩
end Go.Proofs.Ytndcnhbcconbcaa.G
