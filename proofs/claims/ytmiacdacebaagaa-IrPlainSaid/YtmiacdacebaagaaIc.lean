/- ir.Reads tells what the letters of the row name, in their order. The argument reads as an instruction, of a list no longer than a slice argument can be. -/
import Derived.Test.YtmiacdacebaagaaIb
import Derived.Lib.OthersKept
import Derived.WalkSmall
set_option linter.unusedVariables false
set_option linter.unusedSimpArgs false
namespace Go.Proofs.Ytmiacdacebaagaa.G
open Go.RowKit Go.Proofs.Ytmiacdacebaagaa.B Go.Proofs.YtmiacdacebaagaaW.PrintWords Go.Proofs.YtmiacdacebaagaaW.PrintLast Go.Proofs.YtmiacdacebaagaaW.PrintMore

def stepR (a b c : Int) (args : List Int) (xs : List Int) (ch : UInt8) : List Int :=
  if ch = 65 then xs ++ [a] else if ch = 66 then xs ++ [b] else if ch = 67 then xs ++ [c] else if ch = 42 then xs ++ args else if ch = 63 then (if a = -1 then xs else xs ++ [a]) else xs
def readsS (a b c : Int) (args : List Int) (bs : List UInt8) : List Int := bs.foldl (stepR a b c args) []
theorem reads_step {a b c : Int} {args : List Int} {s : ByteArray} {pos : Nat} (h : pos < s.size) :
    readsS a b c args (s.data.toList.take (pos + 1)) = stepR a b c args (readsS a b c args (s.data.toList.take pos)) (s[pos]'h) := by
  have h' : pos < s.data.toList.length := by rw [Array.length_toList]; exact h
  rw [List.take_succ_eq_append_getElem h', readsS, List.foldl_append]
  rfl
def Good (s : ByteArray) : Prop := s.size ≤ 3 ∧ ∀ i, (h : i < s.size) → ((s[i]'h) = 61 ∨ (s[i]'h) = 65 ∨ (s[i]'h) = 66 ∨ (s[i]'h) = 67 ∨ (s[i]'h) = 63) ∨ ((s[i]'h) = 42 ∧ i + 1 = s.size)
instance (s : ByteArray) : Decidable (Good s) := by unfold Good; infer_instance
theorem good_row (op : Int) : Good (rowS op) := by
  by_cases h : 1 ≤ op ∧ op ≤ 20
  · rcases ops_cases h.1 h.2 with rfl | rfl | rfl | rfl | rfl | rfl | rfl | rfl | rfl | rfl | rfl | rfl | rfl | rfl | rfl | rfl | rfl | rfl | rfl | rfl <;> decide +kernel
  · have hs : rowS op = ⟨#[]⟩ := by unfold rowS; rw [if_pos (by omega)]
    rw [hs]
    decide +kernel
theorem R_iterAt {w : World} {it base : Nat} {v : Value} {xs : List Int} (h : Kd.R (Kd.int .i64) 3 w base (fun k => it < k) v xs) (s : ByteArray) (pos : Nat) : Kd.R (Kd.int .i64) 3 (w.iterAt it s pos) base (fun k => it < k) v xs :=
  Kd.R_move h (fun k hk => Lib.iterAt_other w it k s pos (by omega))
set_option maxRecDepth 100000 in
set_option maxHeartbeats 8000000 in
theorem reads_calls (a0 a1 a2 a3 a4 a5 : Int) (s6 : ByteArray) (A : Option Addr) (c : Nat) (l : List Int) (w : World) (hC : Kd.C (Kd.int .i64) w A l.length l) (hl : l.length * 8 ≤ 140737488351232) :
    Calls Try.prog 7 #[.agg #[.int .i64 a0, .int .i64 a1, .int .i64 a2, .int .i64 a3, .int .i64 a4, .int .i64 a5, .string s6, .slice A l.length c]] w fun e w' => ∃ v, e = .returned v ∧ Kd.R (Kd.int .i64) 3 w' w.heap.size (fun _ => True) v (readsS a1 a2 a3 l (rowS a0).data.toList) ∧ Below w.heap.size w w' := by
  have HL := Aside0.mk hl
  have HC := Aside0.mk hC
  clear hl hC
  have HB := Aside0.mk (below_alloc (Below.refl w.heap.size w) (.cells #[.int .i64 a0, .int .i64 a1, .int .i64 a2, .int .i64 a3, .int .i64 a4, .int .i64 a5, .string s6, .slice A l.length c] 24))
  have HX := Aside0.mk (blk_new w (.cells #[.int .i64 a0, .int .i64 a1, .int .i64 a2, .int .i64 a3, .int .i64 a4, .int .i64 a5, .string s6, .slice A l.length c] 24))
  go_enter Try.func7, Try.ntmps7
  go_upto_region 1 with (fail)
  generalize w.alloc (.cells #[.int .i64 a0, .int .i64 a1, .int .i64 a2, .int .i64 a3, .int .i64 a4, .int .i64 a5, .string s6, .slice A l.length c] 24) = W at HB HX ⊢
  have h0 : W.cell? ⟨w.heap.size, 0, none⟩ = some (.int .i64 a0) := (blk_cell HX.out 0).trans rfl
  go_upto_region 2 with (first | (go_at_call 13; refine (row_calls a0 _).mono ?_; rintro e w1 ⟨rfl, hb1⟩))
  have HG := Aside0.mk (good_row a0)
  generalize hs : rowS a0 = s at HG ⊢
  have HS := Aside0.mk hs
  clear h0 hs
  go_upto_block 0 with (fail)
  have HIT := Aside0.mk (World.iter_heap w1 s 0)
  have HXI := Aside0.mk (show (w1.iter s 0).heap[w.heap.size]? = some (.cells #[.int .i64 a0, .int .i64 a1, .int .i64 a2, .int .i64 a3, .int .i64 a4, .int .i64 a5, .string s6, .slice A l.length c] 24 (0, 0)) from blk_alloc (blk_below HX.out hb1) _)
  have HBI := Aside0.mk (show Below w.heap.size w (w1.iter s 0) from below_alloc (below_step HB.out hb1) _)
  have HSZ := Aside0.mk (show w1.heap.size + 1 ≤ (w1.iter s 0).heap.size by simp [World.iter])
  have HLO := Aside0.mk (show w.heap.size < w1.heap.size from Nat.lt_of_lt_of_le (blk_lt HX.out) hb1.size)
  clear HX HB hb1
  generalize w1.iter s 0 = wi at HIT HXI HBI HSZ ⊢
  generalize w1.heap.size = it at HIT HSZ HLO ⊢
  go_wp2_with fail
  go_loopw [5] (fun v wx => ∃ (pos : Nat) (xs : List Int), pos ≤ s.size ∧ Hid (Kd.R (Kd.int .i64) 3 wx (it + 1) (fun k => it < k) v xs) ∧ Hid (wx.heap[it]? = some (.stringIter s pos)) ∧ Hid (wx.heap[w.heap.size]? = some (.cells #[.int .i64 a0, .int .i64 a1, .int .i64 a2, .int .i64 a3, .int .i64 a4, .int .i64 a5, .string s6, .slice A l.length c] 24 (0, 0))) ∧ Hid (Below w.heap.size w wx) ∧ Hid (it + 1 ≤ wx.heap.size) ∧ Hid (xs = readsS a1 a2 a3 l (s.data.toList.take pos)) ∧ Hid (pos < s.size → xs.length ≤ pos)) (fun _ wx => s.size - wx.iterPos it)
  case atStart => exact ⟨0, [], Nat.zero_le _, Kd.R_nil _ _ _ _ _, HIT.out, HXI.out, HBI.out, HSZ.out, rfl, fun _ => Nat.le_refl _⟩
  case round =>
    clear HIT HXI HBI HSZ
    obtain ⟨pos, xs, hp, hR, hit, hx, hb, hsz, hxs, hxl⟩ := hrel
    have HHIT := Aside0.mk hit.out
    by_cases hlt : pos < s.size
    · have hs3 := HG.out.1
      have hnx0 := HG.out.2 pos hlt
      have HPOS := Aside0.mk (Go.iterPos_of hit.out)
      rcases hnx0 with (hch | hch | hch | hch | hch) | ⟨hch, hend⟩
      · have hnx := fun ty => Lib.run_next_ascii_at (P := Try.prog) _ it s pos ty hit.out hlt (by rw [hch]; decide)
        have hchn : (s[pos]'hlt).toNat = 61 := by rw [hch]; rfl
        rw [hchn] at hnx
        clear hchn
        go_wp2_with fail
        have hits := Lib.iterAt_heap wr it s pos (pos + 1) HHIT.out
        go_roundw
        case rel => exact ⟨pos + 1, xs, by omega, R_iterAt hR.out s (pos + 1), hits, (Lib.iterAt_other wr it w.heap.size s (pos + 1) (by have := HLO.out; omega)).trans hx.out, Lib.below_iterAt hb.out (by have := HLO.out; omega) s (pos + 1), by rw [Lib.iterAt_size]; exact hsz.out, (show xs = readsS a1 a2 a3 l (s.data.toList.take (pos + 1)) by rw [reads_step hlt, ← hxs.out, hch]; rfl), fun h => by have := hxl.out hlt; omega⟩
        case measure => rw [HPOS.out, Go.iterPos_of hits]; omega
      · have hnx := fun ty => Lib.run_next_ascii_at (P := Try.prog) _ it s pos ty hit.out hlt (by rw [hch]; decide)
        have hchn : (s[pos]'hlt).toNat = 65 := by rw [hch]; rfl
        rw [hchn] at hnx
        clear hchn
        have hcx : (World.iterAt wr it s (pos + 1)).cell? ⟨w.heap.size, 1, none⟩ = some (.int .i64 a1) := (blk_cell ((Lib.iterAt_other wr it w.heap.size s (pos + 1) (by have := HLO.out; omega)).trans hx.out) 1).trans rfl
        have hxl3 : xs.length ≤ 3 := by have := hxl.out hlt; omega
        go_wp2_with (first | (at_builtin; refine Kd.R_append (Kd.int .i64) (w0 := World.iterAt wr it s (pos + 1)) (it + 1) rfl _ _ 22 3 (.int .i64 0) 8 rfl Try.underlying22 info3 rfl (by decide) (by decide) _ xs a1 [.int .i64 a1] (fun k => it < k) (fun _ => False) rfl rfl rfl (fun _ h => h.elim) ?aF ?aO ?aB ?aS ?aL ?_; (case aF => intro k hk; rw [Lib.iterAt_size] at hk; have := hsz.out; omega); (case aO => exact R_iterAt hR.out s (pos + 1)); (case aB => exact Below.refl _ _); (case aS => rw [Lib.iterAt_size]; exact hsz.out); (case aL => omega); intro v1 w1 hR1 hB1 hg1 hat1; have HR1 := Aside0.mk hR1; have HB1 := Aside0.mk hB1; clear hR1 hB1 hg1 hat1))
        have hits : w1.heap[it]? = some (.stringIter s (pos + 1)) := (HB1.out.block it (by omega)).trans (Lib.iterAt_heap wr it s pos (pos + 1) HHIT.out)
        go_roundw
        case rel => exact ⟨pos + 1, xs ++ [a1], by omega, HR1.out, hits, (HB1.out.block _ (by have := HLO.out; omega)).trans ((Lib.iterAt_other wr it w.heap.size s (pos + 1) (by have := HLO.out; omega)).trans hx.out), (Lib.below_iterAt hb.out (by have := HLO.out; omega) s (pos + 1)).trans (HB1.out.mono (by have := HLO.out; omega)), Nat.le_trans (by rw [Lib.iterAt_size]; exact hsz.out) HB1.out.size, (show xs ++ [a1] = readsS a1 a2 a3 l (s.data.toList.take (pos + 1)) by rw [reads_step hlt, ← hxs.out, hch]; rfl), fun h => by have := hxl.out hlt; rw [List.length_append, List.length_singleton]; omega⟩
        case measure => rw [HPOS.out, Go.iterPos_of hits]; omega
      · have hnx := fun ty => Lib.run_next_ascii_at (P := Try.prog) _ it s pos ty hit.out hlt (by rw [hch]; decide)
        have hchn : (s[pos]'hlt).toNat = 66 := by rw [hch]; rfl
        rw [hchn] at hnx
        clear hchn
        have hcx : (World.iterAt wr it s (pos + 1)).cell? ⟨w.heap.size, 2, none⟩ = some (.int .i64 a2) := (blk_cell ((Lib.iterAt_other wr it w.heap.size s (pos + 1) (by have := HLO.out; omega)).trans hx.out) 2).trans rfl
        have hxl3 : xs.length ≤ 3 := by have := hxl.out hlt; omega
        go_wp2_with (first | (at_builtin; refine Kd.R_append (Kd.int .i64) (w0 := World.iterAt wr it s (pos + 1)) (it + 1) rfl _ _ 22 3 (.int .i64 0) 8 rfl Try.underlying22 info3 rfl (by decide) (by decide) _ xs a2 [.int .i64 a2] (fun k => it < k) (fun _ => False) rfl rfl rfl (fun _ h => h.elim) ?aF ?aO ?aB ?aS ?aL ?_; (case aF => intro k hk; rw [Lib.iterAt_size] at hk; have := hsz.out; omega); (case aO => exact R_iterAt hR.out s (pos + 1)); (case aB => exact Below.refl _ _); (case aS => rw [Lib.iterAt_size]; exact hsz.out); (case aL => omega); intro v1 w1 hR1 hB1 hg1 hat1; have HR1 := Aside0.mk hR1; have HB1 := Aside0.mk hB1; clear hR1 hB1 hg1 hat1))
        have hits : w1.heap[it]? = some (.stringIter s (pos + 1)) := (HB1.out.block it (by omega)).trans (Lib.iterAt_heap wr it s pos (pos + 1) HHIT.out)
        go_roundw
        case rel => exact ⟨pos + 1, xs ++ [a2], by omega, HR1.out, hits, (HB1.out.block _ (by have := HLO.out; omega)).trans ((Lib.iterAt_other wr it w.heap.size s (pos + 1) (by have := HLO.out; omega)).trans hx.out), (Lib.below_iterAt hb.out (by have := HLO.out; omega) s (pos + 1)).trans (HB1.out.mono (by have := HLO.out; omega)), Nat.le_trans (by rw [Lib.iterAt_size]; exact hsz.out) HB1.out.size, (show xs ++ [a2] = readsS a1 a2 a3 l (s.data.toList.take (pos + 1)) by rw [reads_step hlt, ← hxs.out, hch]; rfl), fun h => by have := hxl.out hlt; rw [List.length_append, List.length_singleton]; omega⟩
        case measure => rw [HPOS.out, Go.iterPos_of hits]; omega
      · have hnx := fun ty => Lib.run_next_ascii_at (P := Try.prog) _ it s pos ty hit.out hlt (by rw [hch]; decide)
        have hchn : (s[pos]'hlt).toNat = 67 := by rw [hch]; rfl
        rw [hchn] at hnx
        clear hchn
        have hcx : (World.iterAt wr it s (pos + 1)).cell? ⟨w.heap.size, 3, none⟩ = some (.int .i64 a3) := (blk_cell ((Lib.iterAt_other wr it w.heap.size s (pos + 1) (by have := HLO.out; omega)).trans hx.out) 3).trans rfl
        have hxl3 : xs.length ≤ 3 := by have := hxl.out hlt; omega
        go_wp2_with (first | (at_builtin; refine Kd.R_append (Kd.int .i64) (w0 := World.iterAt wr it s (pos + 1)) (it + 1) rfl _ _ 22 3 (.int .i64 0) 8 rfl Try.underlying22 info3 rfl (by decide) (by decide) _ xs a3 [.int .i64 a3] (fun k => it < k) (fun _ => False) rfl rfl rfl (fun _ h => h.elim) ?aF ?aO ?aB ?aS ?aL ?_; (case aF => intro k hk; rw [Lib.iterAt_size] at hk; have := hsz.out; omega); (case aO => exact R_iterAt hR.out s (pos + 1)); (case aB => exact Below.refl _ _); (case aS => rw [Lib.iterAt_size]; exact hsz.out); (case aL => omega); intro v1 w1 hR1 hB1 hg1 hat1; have HR1 := Aside0.mk hR1; have HB1 := Aside0.mk hB1; clear hR1 hB1 hg1 hat1))
        have hits : w1.heap[it]? = some (.stringIter s (pos + 1)) := (HB1.out.block it (by omega)).trans (Lib.iterAt_heap wr it s pos (pos + 1) HHIT.out)
        go_roundw
        case rel => exact ⟨pos + 1, xs ++ [a3], by omega, HR1.out, hits, (HB1.out.block _ (by have := HLO.out; omega)).trans ((Lib.iterAt_other wr it w.heap.size s (pos + 1) (by have := HLO.out; omega)).trans hx.out), (Lib.below_iterAt hb.out (by have := HLO.out; omega) s (pos + 1)).trans (HB1.out.mono (by have := HLO.out; omega)), Nat.le_trans (by rw [Lib.iterAt_size]; exact hsz.out) HB1.out.size, (show xs ++ [a3] = readsS a1 a2 a3 l (s.data.toList.take (pos + 1)) by rw [reads_step hlt, ← hxs.out, hch]; rfl), fun h => by have := hxl.out hlt; rw [List.length_append, List.length_singleton]; omega⟩
        case measure => rw [HPOS.out, Go.iterPos_of hits]; omega
      · have hnx := fun ty => Lib.run_next_ascii_at (P := Try.prog) _ it s pos ty hit.out hlt (by rw [hch]; decide)
        have hchn : (s[pos]'hlt).toNat = 63 := by rw [hch]; rfl
        rw [hchn] at hnx
        clear hchn
        have hcx : (World.iterAt wr it s (pos + 1)).cell? ⟨w.heap.size, 1, none⟩ = some (.int .i64 a1) := (blk_cell ((Lib.iterAt_other wr it w.heap.size s (pos + 1) (by have := HLO.out; omega)).trans hx.out) 1).trans rfl
        by_cases hm1 : a1 = -1
        case pos =>
          have hm1b : (a1 != -1) = false := bne_eq_false_iff_eq.mpr hm1
          go_wp2_with fail
          have hits := Lib.iterAt_heap wr it s pos (pos + 1) HHIT.out
          go_roundw
          case rel => exact ⟨pos + 1, xs, by omega, R_iterAt hR.out s (pos + 1), hits, (Lib.iterAt_other wr it w.heap.size s (pos + 1) (by have := HLO.out; omega)).trans hx.out, Lib.below_iterAt hb.out (by have := HLO.out; omega) s (pos + 1), by rw [Lib.iterAt_size]; exact hsz.out, (show xs = readsS a1 a2 a3 l (s.data.toList.take (pos + 1)) by rw [reads_step hlt, ← hxs.out, hch]; simp [stepR, hm1]), fun h => by have := hxl.out hlt; omega⟩
          case measure => rw [HPOS.out, Go.iterPos_of hits]; omega
        have hm1b : (a1 != -1) = true := bne_iff_ne.mpr hm1
        have hcx : (World.iterAt wr it s (pos + 1)).cell? ⟨w.heap.size, 1, none⟩ = some (.int .i64 a1) := (blk_cell ((Lib.iterAt_other wr it w.heap.size s (pos + 1) (by have := HLO.out; omega)).trans hx.out) 1).trans rfl
        have hxl3 : xs.length ≤ 3 := by have := hxl.out hlt; omega
        go_wp2_with (first | (at_builtin; refine Kd.R_append (Kd.int .i64) (w0 := World.iterAt wr it s (pos + 1)) (it + 1) rfl _ _ 22 3 (.int .i64 0) 8 rfl Try.underlying22 info3 rfl (by decide) (by decide) _ xs a1 [.int .i64 a1] (fun k => it < k) (fun _ => False) rfl rfl rfl (fun _ h => h.elim) ?aF ?aO ?aB ?aS ?aL ?_; (case aF => intro k hk; rw [Lib.iterAt_size] at hk; have := hsz.out; omega); (case aO => exact R_iterAt hR.out s (pos + 1)); (case aB => exact Below.refl _ _); (case aS => rw [Lib.iterAt_size]; exact hsz.out); (case aL => omega); intro v1 w1 hR1 hB1 hg1 hat1; have HR1 := Aside0.mk hR1; have HB1 := Aside0.mk hB1; clear hR1 hB1 hg1 hat1))
        have hits : w1.heap[it]? = some (.stringIter s (pos + 1)) := (HB1.out.block it (by omega)).trans (Lib.iterAt_heap wr it s pos (pos + 1) HHIT.out)
        go_roundw
        case rel => exact ⟨pos + 1, xs ++ [a1], by omega, HR1.out, hits, (HB1.out.block _ (by have := HLO.out; omega)).trans ((Lib.iterAt_other wr it w.heap.size s (pos + 1) (by have := HLO.out; omega)).trans hx.out), (Lib.below_iterAt hb.out (by have := HLO.out; omega) s (pos + 1)).trans (HB1.out.mono (by have := HLO.out; omega)), Nat.le_trans (by rw [Lib.iterAt_size]; exact hsz.out) HB1.out.size, (show xs ++ [a1] = readsS a1 a2 a3 l (s.data.toList.take (pos + 1)) by rw [reads_step hlt, ← hxs.out, hch]; simp [stepR, hm1]), fun h => by have := hxl.out hlt; rw [List.length_append, List.length_singleton]; omega⟩
        case measure => rw [HPOS.out, Go.iterPos_of hits]; omega
      · have hnx := fun ty => Lib.run_next_ascii_at (P := Try.prog) _ it s pos ty hit.out hlt (by rw [hch]; decide)
        have hchn : (s[pos]'hlt).toNat = 42 := by rw [hch]; rfl
        rw [hchn] at hnx
        clear hchn
        have HEND := Aside0.mk hend
        clear hend
        have hcx : (World.iterAt wr it s (pos + 1)).cell? ⟨w.heap.size, 7, none⟩ = some (.slice A l.length c) := (blk_cell ((Lib.iterAt_other wr it w.heap.size s (pos + 1) (by have := HLO.out; omega)).trans hx.out) 7).trans rfl
        have hxl3 : xs.length ≤ 3 := by have := hxl.out hlt; omega
        go_wp2_with (first | (at_builtin; refine Kd.R_append_row (Value.int .i64) 0 (h1 := fun _ => rfl) (w0 := World.iterAt wr it s (pos + 1)) (it + 1) rfl _ _ 22 3 (.int .i64 0) 8 rfl Try.underlying22 info3 rfl (by decide) _ xs l A l.length c (fun k => it < k) rfl rfl ?aF ?aO ?aR ?aB ?aS ?aL ?_; (case aF => intro k hk; rw [Lib.iterAt_size] at hk; have := hsz.out; omega); (case aO => exact R_iterAt hR.out s (pos + 1)); (case aR => exact Kd.C_below HC.out (Lib.below_iterAt hb.out (by have := HLO.out; omega) s (pos + 1))); (case aB => exact Below.refl _ _); (case aS => rw [Lib.iterAt_size]; exact hsz.out); (case aL => have := HL.out; omega); intro v1 w1 hR1 hB1 hg1 hat1; have HR1 := Aside0.mk hR1; have HB1 := Aside0.mk hB1; clear hR1 hB1 hg1 hat1))
        have hits : w1.heap[it]? = some (.stringIter s (pos + 1)) := (HB1.out.block it (by omega)).trans (Lib.iterAt_heap wr it s pos (pos + 1) HHIT.out)
        go_roundw
        case rel => exact ⟨pos + 1, xs ++ l, by omega, HR1.out, hits, (HB1.out.block _ (by have := HLO.out; omega)).trans ((Lib.iterAt_other wr it w.heap.size s (pos + 1) (by have := HLO.out; omega)).trans hx.out), (Lib.below_iterAt hb.out (by have := HLO.out; omega) s (pos + 1)).trans (HB1.out.mono (by have := HLO.out; omega)), Nat.le_trans (by rw [Lib.iterAt_size]; exact hsz.out) HB1.out.size, by rw [reads_step hlt, ← hxs.out, hch]; rfl, fun h => by have := HEND.out; omega⟩
        case measure => rw [HPOS.out, Go.iterPos_of hits]; omega
    · obtain rfl : pos = s.size := by omega
      have hnx := fun ty => Lib.run_next_end_at (P := Try.prog) _ it s s.size ty hit.out (by omega)
      go_wp2_with fail
      go_ret
      refine ⟨_, rfl, ?_, hb.out⟩
      have e : xs = readsS a1 a2 a3 l (rowS a0).data.toList := by
        rw [hxs.out, HS.out, List.take_of_length_le (by rw [Array.length_toList]; exact Nat.le_refl _)]
      rw [← e]
      exact Kd.R_lower (Kd.R_mono hR.out (fun _ _ => trivial)) (by have := HLO.out; omega)
end Go.Proofs.Ytmiacdacebaagaa.G
