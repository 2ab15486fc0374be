/- lex.sign. Each contract names its state. -/
import Derived.Test.YtikfgdkplgfiiaaNb
import Derived.Laws.Tables
import Derived.Great.Walk
import Derived.Outline
set_option linter.unusedVariables false
set_option linter.unusedSimpArgs false
namespace Go.Proofs.Ytikfgdkplgfiiaa.G
open Go.RowKit Go.Proofs.Ytikfgdkplgfiiaa.B Go.Proofs.YtikfgdkplgfiiaaW.PrintWords Go.Proofs.YtikfgdkplgfiiaaW.PrintLast Go.Proofs.YtikfgdkplgfiiaaW.PrintMore

def signTab : Array Value := (signsB.map Value.string).toArray
def signZero : Array Value := (signsB.map (fun _ => Value.string ⟨#[]⟩)).toArray
theorem setRow_alloc (w : World) (a b : Array Value) (t : TypeId) : (w.alloc (.cells a t)).setRow w.heap.size b = w.alloc (.cells b t) := by
  unfold World.setRow World.alloc
  congr 1
  apply Array.ext
  · simp
  · intro i h1 h2
    simp only [Array.getElem_modify]
    split
    · rename_i h; subst h; simp
    · rename_i h
      rw [Array.getElem_push_lt (by simp at h1; omega), Array.getElem_push_lt (by simp at h1; omega)]
theorem index_sign (i : Nat) (x : ByteArray) (hx : signsB[i]? = some x) (w : World) :
    (Instr.index 72 (.agg signTab) (.int .i64 (i : Int))).run Try.prog w = .ok (.string x) w := by
  have hi : i < 29 := (List.getElem?_eq_some_iff.1 hx).1
  have hv : signTab[i]? = some (.string x) := by
    unfold signTab
    rw [List.getElem?_toArray, List.getElem?_map, hx]
    rfl
  have hn : (0 : Int) ≤ (i : Int) ∧ (i : Int) < 29 := by omega
  simp [Instr.index, run_underlying Try.underlying72, asIntOf, hi, hv, Try.sizeOf9, Try.isAgg9, part]
def signR (l : L8) : L8 := match signS l with | some x => x | none => []
set_option maxHeartbeats 4000000 in
theorem sign_calls (s : ByteArray) (w : World) (hs : s.size ≤ 20000) :
    Calls Try.prog 37 #[.string s] w fun e w' => e = .returned (.string (toB (signR s.toList))) ∧ Below w.heap.size w w' := by
  have HB := Aside0.mk (below_alloc (Below.refl w.heap.size w) (.cells signTab 72))
  have HC := Aside0.mk (blk_new w (.cells signTab 72))
  go_enter Try.func37, Try.ntmps37
  go_upto_region 1 with (fail)
  refine wp_region_lit ?_
  refine Go.Great.wpList_runTo rfl (some 6) rfl (.agg signTab) w ?b0 (Go.Great.wpList_runTo rfl (some 3) rfl (.pointer (some ⟨w.heap.size, 0, none⟩)) (w.alloc (.cells signZero 72)) ?c0 (wpList_store_row rfl 72 _ _ rfl w.heap.size signTab rfl rfl 72 signZero (blk_new w _) (by kernel_rfl) (by kernel_rfl) (by kernel_rfl) (wpList_nil ?_)))
  case b0 => kernel_rfl
  case c0 => kernel_rfl
  rw [setRow_alloc]
  simp only [Act.put, List.setIfInBounds_toArray, List.set_cons_zero, List.set_cons_succ]
  generalize w.alloc (.cells signTab 72) = W at HB HC ⊢
  generalize w.heap.size = gb at HC ⊢
  go_upto_block 0 with (refine wpList_load_row rfl 72 _ rfl gb rfl 72 signTab (0, 0) _ HC.out Try.underlying72 rfl (by kernel_rfl) ?_)
  clear HC
  go_wp2_with fail
  go_loopw [8] (fun iv wx => ∃ j : Nat, j ≤ 29 ∧ iv = .int .i64 (j : Int) ∧ Hid ((signsL.drop j).find? (fun x => x.isPrefixOf s.toList) = signS s.toList) ∧ Hid (Below w.heap.size w wx)) (fun iv _ => 29 - (intOf iv).toNat)
  case atStart => exact ⟨0, by omega, rfl, rfl, HB.out⟩
  case round =>
    clear HB
    obtain ⟨j, hj, rfl, hf, hB⟩ := hrel
    have HF := Aside0.mk (show (signsL.drop j).find? (fun x => x.isPrefixOf s.toList) = signS s.toList from hf)
    have HB : Aside0 (Below w.heap.size w wr) := Aside0.mk hB
    clear hf hB
    have hl : signsL.length = 29 := rfl
    by_cases hlt : (j : Int) < 29
    · have hj1 : j < signsL.length := by omega
      obtain ⟨x, hx⟩ : ∃ x, signsL[j]? = some x := ⟨_, List.getElem?_eq_getElem hj1⟩
      have hxb : signsB[j]? = some (toB x) := by rw [signs_map, List.getElem?_map, hx]; rfl
      have hix := index_sign j (toB x) hxb
      have hdr : signsL.drop j = x :: signsL.drop (j + 1) := by
        obtain ⟨h1, h2⟩ := List.getElem?_eq_some_iff.1 hx
        rw [List.drop_eq_getElem_cons h1, h2]
      rw [hdr, List.find?_cons] at HF
      clear hx hxb hdr hj1 hl
      cases hp : x.isPrefixOf s.toList with
      | true =>
        rw [hp] at HF
        have HP : Aside0 ((toB x).toList.isPrefixOf s.toList = true) := Aside0.mk (by rw [toB_list]; exact hp)
        clear hp
        go_wp2_with (go_at_call 33; with_reducible refine (hasPre (s := s) (t := toB x)).mono ?_; rintro e wn ⟨rfl, hk⟩; rw [HP.out]; replace HB := Aside0.mk (below_step HB.out hk); clear hk)
        go_ret
        refine ⟨?_, HB.out⟩
        have := HF.out
        unfold signR
        rw [← this]
        rfl
      | false =>
        rw [hp] at HF
        have HP : Aside0 ((toB x).toList.isPrefixOf s.toList = false) := Aside0.mk (by rw [toB_list]; exact hp)
        clear hp
        go_wp2_with (go_at_call 33; with_reducible refine (hasPre (s := s) (t := toB x)).mono ?_; rintro e wn ⟨rfl, hk⟩; rw [HP.out]; replace HB := Aside0.mk (below_step HB.out hk); clear hk)
        go_roundw
        case rel => exact ⟨j + 1, by omega, by go_num, HF.out, HB.out⟩
        case measure => simp [intOf]; omega
    · have hje : j = 29 := by omega
      have HN : Aside0 (signS s.toList = none) := Aside0.mk (by
        have h9 := HF.out
        rw [List.drop_eq_nil_of_le (by omega)] at h9
        exact h9.symm)
      clear hl
      go_wp2_with fail
      go_ret
      refine ⟨?_, HB.out⟩
      unfold signR
      rw [HN.out]
      rfl
end Go.Proofs.Ytikfgdkplgfiiaa.G
