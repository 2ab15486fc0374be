/- slices.Clone, Insert, Replace of spans. Each contract names its state. -/
import Derived.Test.YtmcecmcnbhhniaaNa
import Derived.Lib.LazyBuf
import Derived.Lib.Overlaps
import Derived.Lib.AppendZerosOnto
import Derived.Laws.CopyOwn
import Derived.Laws.Externs
set_option linter.unusedVariables false
set_option linter.unusedSimpArgs false
namespace Go.Proofs.Ytmcecmcnbhhniaa.G
open Go.RowKit Go.Proofs.Ytmcecmcnbhhniaa.B Go.Proofs.YtmcecmcnbhhniaaW.PrintWords Go.Proofs.YtmcecmcnbhhniaaW.PrintLast Go.Proofs.YtmcecmcnbhhniaaW.PrintMore

theorem encP_one (l : List Sp) : ∀ u ∈ encP l, u.oneCell' = true := by
  intro u hu
  unfold encP at hu
  rw [List.mem_flatMap] at hu
  obtain ⟨x, _, hx⟩ := hu
  simp only [spc, List.mem_cons, List.not_mem_nil, or_false] at hx
  rcases hx with rfl | rfl <;> rfl
/-- Cells written over a row at o. -/
def wr {α : Type} (L : List α) (o : Nat) (cs : List α) : List α := L.take o ++ cs ++ L.drop (o + cs.length)
theorem wr_length {α : Type} {L : List α} {o : Nat} {cs : List α} (h : o + cs.length ≤ L.length) : (wr L o cs).length = L.length := by
  unfold wr
  simp only [List.length_append, List.length_take, List.length_drop]
  omega
theorem run_copy2 {P : Program} (w : World) (dT sT ty elem : TypeId) (g o nd ns n dCap sCap : Nat) (a : Addr) (L : List Value) (t : TypeId) (cs : List Value) (i : TypeInfo)
    (hu : P.underlying dT = some (.slice elem)) (hq : P.info? elem = some i) (hi : i.size = 2)
    (hg : w.heap[g]? = some (.cells L.toArray t (0, 0))) (hm : min nd ns = n) (hn : cs.length = n * 2)
    (hsrc : ∀ j v, cs[j]? = some v → w.cell? (a.add j) = some v) (hfit : o + cs.length ≤ L.length) (h1 : ∀ v ∈ cs, v.oneCell' = true) :
    (Builtin.copy_ #[dT, sT] ty #[.slice (some ⟨g, o, none⟩) nd dCap, .slice (some a) ns sCap]).run P w = .ok (goInt n) (w.setRow g (wr L o cs).toArray) := by
  have hl := run_loadCells_list (P := P) w a cs hsrc
  have hst := run_storeCells_at P g o t cs 0 L.toArray w hg (by simpa using hfit) h1
  have hm' : Nat.min ns nd = n := (Nat.min_comm ns nd).trans hm
  simp [Builtin.copy_, run_underlying hu, Builtin.lenOf, Builtin.firstCells, sizeOf, typeInfo, hq, hi, hm', ← hn, hl, hst, wr]
theorem run_copy0 {P : Program} (w : World) (dT sT ty elem : TypeId) (nd ns : Nat) (d a : Option Addr) (dCap sCap : Nat) (i : TypeInfo) (hu : P.underlying dT = some (.slice elem)) (hq : P.info? elem = some i) (hm : min nd ns = 0) :
    (Builtin.copy_ #[dT, sT] ty #[.slice d nd dCap, .slice a ns sCap]).run P w = .ok (goInt 0) w := by
  have hl : ∀ a, (loadCells a 0).run P w = .ok #[] w := fun a => run_loadCells_list (P := P) w a [] (by simp)
  have hm' : Nat.min ns nd = 0 := (Nat.min_comm ns nd).trans hm
  cases d <;> cases a <;> simp [Builtin.copy_, run_underlying hu, Builtin.lenOf, Builtin.firstCells, sizeOf, typeInfo, hq, storeCells, hl, hm']
theorem copy_step {P : Program} {ops : Array Oper} {rest : List Oper} {o : Oper} {a : Act} {Q : Exit → Act → World → Prop} {w : World} (hgd : o.guard = none) (d s : Operand) (t : TypeId) (e : TypeId)
    (ho : o.op = .call { callee := .builtin .copy, args := #[d, s], argTypes := #[t, t] }) (ht : P.underlying t = some (.slice e)) (hsz : (P.info? e).map (·.size) = some 2)
    (A1 A2 : Option Addr) (n nd ns cd cs_ g1 o1 g2 o2 : Nat) (L1 L2 : List Value) (hd : a.eval d = .slice A1 nd cd) (hs : a.eval s = .slice A2 ns cs_) (hm : min nd ns = n) (h1 : 0 < n → A1 = some ⟨g1, o1 * 2, none⟩) (h2 : 0 < n → A2 = some ⟨g2, o2 * 2, none⟩)
    (hb1 : w.heap[g1]? = some (.cells L1.toArray e (0, 0))) (hb2 : w.heap[g2]? = some (.cells L2.toArray e (0, 0))) (hn1 : (o1 + n) * 2 ≤ L1.length) (hn2 : (o2 + n) * 2 ≤ L2.length) (hone : ∀ v ∈ (L2.drop (o2 * 2)).take (n * 2), v.oneCell' = true)
    (h : ∀ w', w'.heap[g1]? = some (.cells (wr L1 (o1 * 2) ((L2.drop (o2 * 2)).take (n * 2))).toArray e (0, 0)) → Kp w w' (· = g1) → wpList P ops Q rest (a.put o.dst (goInt n)) w') : wpList P ops Q (o :: rest) a w := by
  obtain ⟨i, hq, hi⟩ := Option.map_eq_some_iff.1 hsz
  rcases Nat.eq_zero_or_pos n with rfl | hpos
  · refine wpList_plain hgd fun K hK => ?_
    have hrun := run_copy0 (P := P) w t t o.type e nd ns A1 A2 cd cs_ i ht hq hm
    unfold Oper.wp
    simp only [execOp, ho, resolve, invoke, builtin, Sem.run_bind, Sem.run_pure, Result.andThen_ok, List.map_toArray, List.map_cons, List.map_nil, hd, hs, hrun]
    exact hK _ _ (h w (by simpa [wr] using hb1) (Kp.refl _ _))
  · obtain rfl := h1 hpos
    obtain rfl := h2 hpos
    have hln : ((L2.drop (o2 * 2)).take (n * 2)).length = n * 2 := by rw [List.length_take, List.length_drop]; omega
    have hrun := run_copy2 (P := P) w t t o.type e g1 (o1 * 2) nd ns n cd cs_ ⟨g2, o2 * 2, none⟩ L1 e ((L2.drop (o2 * 2)).take (n * 2)) i ht hq hi hb1 hm hln (by
      intro j v hj
      have hjl := (List.getElem?_eq_some_iff.1 hj).1
      rw [hln] at hjl
      rw [List.getElem?_take_of_lt hjl, List.getElem?_drop] at hj
      rw [show (⟨g2, o2 * 2, none⟩ : Addr).add j = ⟨g2, o2 * 2 + j, none⟩ by unfold Addr.add; split <;> simp_all, blk_cell hb2]
      simpa using hj) (by rw [hln]; omega) hone
    refine wpList_plain hgd fun K hK => ?_
    unfold Oper.wp
    simp only [execOp, ho, resolve, invoke, builtin, Sem.run_bind, Sem.run_pure, Result.andThen_ok, List.map_toArray, List.map_cons, List.map_nil, hd, hs, hrun]
    refine hK _ _ (h _ ?_ ?_)
    · have := setRow_heap w g1 L1.toArray (wr L1 (o1 * 2) ((L2.drop (o2 * 2)).take (n * 2))).toArray e (0, 0) hb1
      simpa using this
    · exact ⟨rfl, rfl, rfl, by simp [World.setRow], fun k hk hne => setRow_other w g1 k _ hne⟩
/-- clear on whole elements of two cells. -/
theorem clear_step {P : Program} {ops : Array Oper} {rest : List Oper} {o : Oper} {a : Act} {Q : Exit → Act → World → Prop} {w : World} (hgd : o.guard = none) (s : Operand) (t : TypeId) (e : TypeId) (z : Value)
    (ho : o.op = .call { callee := .builtin .clear, args := #[s], argTypes := #[t] }) (ht : P.underlying t = some (.slice e)) (hinfo : (P.info? e).map (fun i => (i.zero, i.size)) = some (some z, 2)) (hzc : z.cells.size = 2) (hz1 : ∀ v ∈ z.cells.toList, v.oneCell' = true)
    (A : Option Addr) (n c g o1 : Nat) (L : List Value) (hs : a.eval s = .slice A n c) (h1 : 0 < n → A = some ⟨g, o1 * 2, none⟩)
    (hb : w.heap[g]? = some (.cells L.toArray e (0, 0))) (hn1 : (o1 + n) * 2 ≤ L.length)
    (h : ∀ (w' : World) (L' : List Value), w'.heap[g]? = some (.cells L'.toArray e (0, 0)) → L'.length = L.length → L'.take (o1 * 2) = L.take (o1 * 2) → Kp w w' (· = g) → wpList P ops Q rest (a.put o.dst (.tuple #[])) w') : wpList P ops Q (o :: rest) a w := by
  obtain ⟨i, hq, hi⟩ := Option.map_eq_some_iff.1 hinfo
  simp only [Prod.mk.injEq] at hi
  obtain ⟨hi1, hi2⟩ := hi
  rcases Nat.eq_zero_or_pos n with rfl | hpos
  · have hrun : (Builtin.clear_ #[t] o.type #[.slice A 0 c]).run P w = .ok (.tuple #[]) w := by
      cases A <;> simp [Builtin.clear_, run_underlying ht, zeroValue, typeInfo, hq, hi1, Builtin.zeroCells, storeCells]
    refine wpList_plain hgd fun K hK => ?_
    unfold Oper.wp
    simp only [execOp, ho, resolve, invoke, builtin, Sem.run_bind, Sem.run_pure, Result.andThen_ok, List.map_toArray, List.map_cons, List.map_nil, hs, hrun]
    exact hK _ _ (h w L hb rfl rfl (Kp.refl _ _))
  · obtain rfl := h1 hpos
    have hzl : (Builtin.zeroCells z.cells n).toList.length = n * 2 := by simp [Builtin.zeroCells, hzc]
    have hz2 : ∀ v ∈ (Builtin.zeroCells z.cells n).toList, v.oneCell' = true := by
      intro v hv
      obtain ⟨k, hk⟩ := List.mem_iff_getElem?.1 hv
      have hkl := (List.getElem?_eq_some_iff.1 hk).1
      rw [hzl] at hkl
      have hlt : k % 2 < z.cells.size := by rw [hzc]; exact Nat.mod_lt _ (by decide)
      have he : v = z.cells[k % 2] := by
        simp [Builtin.zeroCells, hzc, hkl] at hk
        rw [← hk, getElem!_pos z.cells _ hlt]
      rw [he]
      exact hz1 _ (by simp)
    have hst := run_storeCells_at P g (o1 * 2) e (Builtin.zeroCells z.cells n).toList 0 L.toArray w hb (by rw [hzl]; simp; omega) hz2
    have hrun : (Builtin.clear_ #[t] o.type #[.slice (some ⟨g, o1 * 2, none⟩) n c]).run P w = .ok (.tuple #[]) (w.setRow g (wr L (o1 * 2) (Builtin.zeroCells z.cells n).toList).toArray) := by
      obtain ⟨m, rfl⟩ : ∃ m, n = m + 1 := ⟨n - 1, by omega⟩
      simp only [Nat.add_zero] at hst
      simp [Builtin.clear_, run_underlying ht, zeroValue, typeInfo, hq, hi1, wr, hst]
    refine wpList_plain hgd fun K hK => ?_
    unfold Oper.wp
    simp only [execOp, ho, resolve, invoke, builtin, Sem.run_bind, Sem.run_pure, Result.andThen_ok, List.map_toArray, List.map_cons, List.map_nil, hs, hrun]
    refine hK _ _ (h _ (wr L (o1 * 2) (Builtin.zeroCells z.cells n).toList) ?_ (wr_length (by rw [hzl]; omega)) ?_ ?_)
    · have := setRow_heap w g L.toArray (wr L (o1 * 2) (Builtin.zeroCells z.cells n).toList).toArray e (0, 0) hb
      simpa using this
    · unfold wr
      rw [List.append_assoc, List.take_append_of_le_length (by rw [List.length_take]; omega), List.take_take, Nat.min_self]
    · exact ⟨rfl, rfl, rfl, by simp [World.setRow], fun k hk hne => setRow_other w g k _ hne⟩
theorem size47 (w : World) : (sizeOf 47).run Try.prog w = .ok 2 w := by
  have h : (Try.prog.info? 47).map (·.size) = some 2 := by kernel_rfl
  obtain ⟨i, hq, hi⟩ := Option.map_eq_some_iff.1 h
  simp [sizeOf, typeInfo, hq, hi]
theorem apart_run {w : World} {gv g o lb cb : Nat} {a b : Value} {L : List Value} (hv : w.heap[gv]? = some (.cells #[a, b] 47 (0, 0))) (hg : w.heap[g]? = some (.cells L.toArray 47 (0, 0))) (hne : gv ≠ g) (hL : L.length ≠ 0) :
    (callFunc 36 #[.slice (some ⟨gv, 0, none⟩) 1 1, .slice (some ⟨g, o, none⟩) lb cb]).run Try.prog w = .ok (.value (.bool false)) w := by
  rw [run_callFunc_extern Try.func36 (by kernel_rfl) (by kernel_rfl) (by kernel_rfl) (e := Extern.SlicesOverlaps.overlaps #[41, 41] #[4]) (by kernel_rfl),
    Lib.run_overlaps_apart w 41 4 47 Try.underlying41 2 size47 ⟨gv, 0, none⟩ ⟨g, o, none⟩ 1 1 lb cb hne 47 47 2 L.length (by simp [World.shape?, hv]) (by simp [World.shape?, hg]) hL (blk_frozen hv 0) (blk_frozen hv 2)]
  rfl
/-- What Insert leaves in place: lists of cells. -/
theorem shift_cells {L : List Value} {l : List Sp} {x : Sp} {i n cap : Nat} (hL : L.length = cap * 2) (ht : L.take (n * 2) = encP l) (hn : l.length = n) (hi : i ≤ n) (hc : n + 1 ≤ cap) :
    (wr (wr L ((i + 1) * 2) ((L.drop (i * 2)).take ((n - i) * 2))) (i * 2) (spc x)).take ((n + 1) * 2) = encP (l.take i ++ x :: l.drop i) := by
  have h1 : L = encP l ++ L.drop (n * 2) := by rw [← ht, List.take_append_drop]
  have hd : (L.drop (i * 2)).take ((n - i) * 2) = encP (l.drop i) := by
    rw [← encP_drop, ← ht, List.drop_take, show n * 2 - i * 2 = (n - i) * 2 by omega]
  have ht2 : L.take (i * 2) = encP (l.take i) := by rw [← encP_take, ← ht, List.take_take, Nat.min_eq_left (by omega)]
  have hel : (encP (l.drop i)).length = (n - i) * 2 := by rw [encP_length, List.length_drop, hn]
  have hel2 : (encP (l.take i)).length = i * 2 := by rw [encP_length, List.length_take, hn, Nat.min_eq_left hi]
  rw [hd]
  unfold wr
  rw [hel]
  generalize hD : L.drop ((i + 1) * 2 + (n - i) * 2) = D
  have ht3 : (L.take ((i + 1) * 2) ++ encP (l.drop i) ++ D).take (i * 2) = encP (l.take i) := by
    rw [List.append_assoc, List.take_append_of_le_length (by rw [List.length_take]; omega), List.take_take, Nat.min_eq_left (by omega), ht2]
  have hd3 : (L.take ((i + 1) * 2) ++ encP (l.drop i) ++ D).drop (i * 2 + (spc x).length) = encP (l.drop i) ++ D := by
    rw [List.append_assoc, show i * 2 + (spc x).length = (L.take ((i + 1) * 2)).length by rw [List.length_take]; simp [spc]; omega, List.drop_left]
  rw [ht3, hd3, encP_append, encP_cons, List.append_assoc, ← List.append_assoc (spc x), ← List.append_assoc (encP (l.take i)), List.take_left']
  simp only [List.length_append, hel, hel2, spc, List.length_cons, List.length_nil]
  omega
set_option maxHeartbeats 4000000 in
theorem insert_room {W : World} {g gv n cap i : Nat} {L : List Value} {l : List Sp} (x : Sp) (hg : W.heap[g]? = some (.cells L.toArray 47 (0, 0))) (hL : L.length = cap * 2) (ht : L.take (n * 2) = encP l) (hn : l.length = n) (hi : i < n) (hc : n + 1 ≤ cap) (hcm : cap ≤ 9223372036854775807)
    (hv : W.heap[gv]? = some (.cells #[.int .i64 x.lo, .int .i64 x.hi] 47 (0, 0))) (hne : gv ≠ g) :
    Calls Try.prog 35 #[.slice (some ⟨g, 0, none⟩) n cap, .int .i64 i, .slice (some ⟨gv, 0, none⟩) 1 1] W fun e w' => e = .returned (.slice (some ⟨g, 0, none⟩) (n + 1) cap) ∧
      (∃ L' : List Value, w'.heap[g]? = some (.cells L'.toArray 47 (0, 0)) ∧ L'.length = cap * 2 ∧ L'.take ((n + 1) * 2) = encP (l.take i ++ x :: l.drop i)) ∧ Kp W w' (· = g) := by
  have hov : ∀ o lb cb, (callFunc 36 #[.slice (some ⟨gv, 0, none⟩) 1 1, .slice (some ⟨g, o, none⟩) lb cb]).run Try.prog W = .ok (.value (.bool false)) W := fun o lb cb => apart_run hv hg hne (by omega)
  have HG := Aside0.mk hg
  have HV := Aside0.mk (And.intro hv hne)
  have HL := Aside0.mk (And.intro hL (And.intro ht hn))
  have hi' : (i : Int) < (n : Int) := by omega
  have hc' : (n : Int) + 1 ≤ (cap : Int) := by omega
  clear hg hv hL ht hn hne
  have hw1 : IntKind.i64.wrap ((i : Int) + 1) = (i : Int) + 1 := by rw [IntKind.wrap_i64]; omega
  have hb1 : (0 : Int) ≤ (i : Int) + 1 := by omega
  have htn : ((i : Int) + 1).toNat = i + 1 := by omega
  have hb2 : ¬ (cap = i + 1) := by omega
  have hb3 : (i : Int) ≤ (n : Int) + 1 := by omega
  have hb4 : ¬ (cap = i) := by omega
  have hin : i ≤ n := by omega
  go_enter Try.func35, Try.ntmps35
  go_upto_region 15 with (simp only [hov])
  go_still_tail 8, (by kernel_rfl)
  have hLv := HL.out
  have h0 := HG.out
  refine copy_step rfl _ _ 41 47 rfl Try.underlying41 (by kernel_rfl) _ _ (n - i) _ _ _ _ g (i + 1) g i L L rfl rfl (by simp only [Nat.min_def]; split <;> omega) (fun _ => rfl) (fun _ => rfl) h0 h0 (by omega) (by omega) ?_ ?_
  · intro v hv
    have hd : (L.drop (i * 2)).take ((n - i) * 2) = encP (l.drop i) := by rw [← encP_drop, ← hLv.2.1, List.drop_take, show n * 2 - i * 2 = (n - i) * 2 by omega]
    rw [hd] at hv
    exact encP_one _ v hv
  intro w1 hw1' hk0
  have hk1 : Kp W w1 (· = g) := ⟨hk0.os, hk0.tape, hk0.output, hk0.size, hk0.block⟩
  clear hk0
  have hl1 : (wr L ((i + 1) * 2) ((L.drop (i * 2)).take ((n - i) * 2))).length = L.length := wr_length (by rw [List.length_take, List.length_drop]; omega)
  have hcells := shift_cells (x := x) hLv.1 hLv.2.1 hLv.2.2 hin hc
  have hv1 : w1.heap[gv]? = some (.cells [.int .i64 x.lo, .int .i64 x.hi].toArray 47 (0, 0)) := blk_kp HV.out.1 hk1 HV.out.2
  generalize wr L ((i + 1) * 2) ((L.drop (i * 2)).take ((n - i) * 2)) = L1 at hw1' hl1 hcells
  have HW := Aside0.mk (And.intro hw1' (And.intro hv1 (And.intro hl1 (And.intro hcells (And.intro hLv.1 hk1)))))
  clear hw1' hv1 hl1 hcells hk1 hLv h0 hov HG HV HL
  go_wp2_with (refine copy_step rfl _ _ 41 47 rfl Try.underlying41 (by kernel_rfl) _ _ 1 _ _ _ _ g i gv 0 L1 [.int .i64 x.lo, .int .i64 x.hi] rfl rfl (by simp only [Nat.min_def]; split <;> omega) (fun _ => rfl) (fun _ => rfl) HW.out.1 HW.out.2.1 (by have := HW.out.2.2.1; have := HW.out.2.2.2.2.1; omega) (by simp) (by intro v hv; simp at hv; rcases hv with rfl | rfl <;> rfl) ?_; intro w2 hw2 hk2; have HW2 := Aside0.mk (And.intro hw2 hk2); clear hw2 hk2)
  go_ret
  obtain ⟨hw2, hk2⟩ := HW2.out
  obtain ⟨a1, a2, a3, a4, a5, a6⟩ := HW.out
  refine ⟨rfl, ⟨_, hw2, ?_, a4⟩, a6.then_ hk2 (fun k hk => .inl hk)⟩
  exact (wr_length (by simp; omega)).trans (a3.trans a5)
/-- What comes of a row of spans at a call: the new list; nothing but the row's own block is turned. -/
structure Moved (W : World) (b : Nat) (v : Value) (w' : World) (v' : Value) (m : List Sp) : Prop where
  row : RowS w' b v' m
  kp : Kp W w' (fun k => v.ownBlock = some k)
  own : v'.ownBlock = v.ownBlock ∨ ∀ k, v'.ownBlock = some k → W.heap.size ≤ k
theorem rowOf {W : World} {b g cap : Nat} {L : List Value} {l : List Sp} (hg : W.heap[g]? = some (.cells L.toArray 47 (0, 0))) (hb : b ≤ g) (hc : l.length ≤ cap) (hm : cap ≤ maxLen) (hL : L.length = cap * 2) (ht : L.take (l.length * 2) = encP l) : RowS W b (.slice (some ⟨g, 0, none⟩) l.length cap) l :=
  ⟨encP_length l, .inr ⟨g, cap, L.toArray, rfl, hb, hg, hc, hm, by simpa using hL, by simpa using ht⟩⟩
theorem RowS.cells {W : World} {b : Nat} {v : Value} {l : List Sp} (h : RowS W b v l) (h0 : v ≠ .slice none 0 0) : ∃ g cap L, v = .slice (some ⟨g, 0, none⟩) l.length cap ∧ W.heap[g]? = some (.cells (L : List Value).toArray 47 (0, 0)) ∧ b ≤ g ∧ l.length ≤ cap ∧ cap ≤ maxLen ∧ L.length = cap * 2 ∧ L.take (l.length * 2) = encP l := by
  rcases h.2 with ⟨hv, h1⟩ | ⟨g, cap, cur, hv, hg, hh, hc, hm, hs, ht⟩
  · exact absurd hv h0
  · exact ⟨g, cap, cur.toList, hv, by simpa using hh, hg, hc, hm, by simpa using hs, ht⟩
/-- append of spans to spans. -/
theorem append_sp {ops : Array Oper} {rest : List Oper} {o : Oper} {a : Act} {Q : Exit → Act → World → Prop} {w : World} (base : Nat) (hgd : o.guard = none) (s x : Operand)
    (ho : o.op = .call { callee := .builtin .append, args := #[s, x], argTypes := #[41, 41] })
    (v : Value) (l m : List Sp) (hs : a.eval s = v) (HO : RowS w base v l) (gb : Nat) (fr : Nat × Nat) (c : Nat) (hx : a.eval x = .slice (some ⟨gb, 0, none⟩) m.length c)
    (hb : w.heap[gb]? = some (.cells (encP m).toArray 47 fr)) (hbase : base ≤ w.heap.size) (hl : l.length + m.length ≤ 4000000)
    (h : ∀ v1 w1, RowS w1 base v1 (l ++ m) → w.grownBy w1 v.ownBlock → (v1.ownBlock = v.ownBlock ∨ v1.ownBlock = some w.heap.size) → wpList Try.prog ops Q rest (a.put o.dst v1) w1) :
    wpList Try.prog ops Q (o :: rest) a w := by
  have hinfo : (Try.prog.info? 47).map (fun i => (i.zero, i.size, i.bytes)) = some (some (.agg #[.int .i64 0, .int .i64 0]), 2, 16) := by kernel_rfl
  obtain ⟨i0, hi, hzz⟩ := Option.map_eq_some_iff.1 hinfo
  simp only [Prod.mk.injEq] at hzz
  obtain ⟨hz0, hz1, hz2⟩ := hzz
  refine wpList_append_own_at w hgd s x 41 ho base 47 i0 (.agg #[.int .i64 0, .int .i64 0]) 2 16 Try.underlying41 hi hz0 hz1 hz2 (by kernel_rfl) (by decide) v l.length (encP l) hs HO ⟨gb, 0, none⟩ m.length c (encP m) hx (encP_length m)
    (by simpa using World.news_of_block (cs := (encP m).toArray) (t := 47) (fr := fr) hb) (encP_one m) (by simp only [maxLen]; omega) (by omega) hbase ?_
  intro v1 w1 h1 hg _ hown
  refine h v1 w1 ?_ hg hown
  unfold RowS
  rw [List.length_append, encP_append]
  exact h1
theorem Kp.of_grown {w w' : World} {row : Option Nat} (hg : w.grownBy w' row) : Kp w w' (fun k => row = some k) := ⟨hg.os, hg.tape, hg.output, hg.size, fun k hk hn => hg.block k hk (fun he => hn he.symm)⟩
theorem own_fresh {v : Value} {r : Option Nat} {n : Nat} (h : v.ownBlock = r ∨ v.ownBlock = some n) : v.ownBlock = r ∨ ∀ k, v.ownBlock = some k → n ≤ k := by
  rcases h with h | h
  · exact .inl h
  · exact .inr (fun k hk => by rw [h] at hk; injection hk with hk; omega)
set_option maxHeartbeats 4000000 in
theorem insert_end {W : World} {b gv : Nat} {v : Value} {l : List Sp} (x : Sp) (hr : RowS W b v l) (hb : b ≤ W.heap.size) (hn : l.length ≤ 2000000)
    (hv : W.heap[gv]? = some (.cells #[.int .i64 x.lo, .int .i64 x.hi] 47 (0, 0))) :
    Calls Try.prog 35 #[v, .int .i64 l.length, .slice (some ⟨gv, 0, none⟩) 1 1] W fun e w' => ∃ v', e = .returned v' ∧ Moved W b v w' v' (l ++ [x]) := by
  have HV : Aside0 (W.heap[gv]? = some (.cells (encP [x]).toArray 47 (0, 0))) := Aside0.mk hv
  have HR := Aside0.mk (And.intro hr (And.intro hb hn))
  by_cases h0 : v = .slice none 0 0
  · subst h0
    obtain rfl : l = [] := by
      rcases hr.2 with ⟨_, h1⟩ | ⟨g, cap, cur, h1, _⟩
      · exact List.eq_nil_of_length_eq_zero h1
      · injection h1 with h1; cases h1
    clear hr hb hn hv
    go_enter Try.func35, Try.ntmps35
    go_wp2_with (at_builtin; refine append_sp b rfl _ _ rfl (.slice none 0 0) [] [x] rfl HR.out.1 gv (0, 0) 1 rfl HV.out HR.out.2.1 (by simp) ?_; intro v1 w1 h1 h2 h3; have H1 := Aside0.mk (And.intro h1 (And.intro h2 h3)); clear h1 h2 h3)
    go_ret
    exact ⟨v1, rfl, H1.out.1, Kp.of_grown H1.out.2.1, own_fresh H1.out.2.2⟩
  · obtain ⟨g, cap, L, rfl, hg, _, hc, hm, _, _⟩ := hr.cells h0
    have hcm : cap ≤ 9223372036854775807 := by unfold maxLen at hm; exact hm
    clear hr hb hv hg h0 hm
    go_enter Try.func35, Try.ntmps35
    go_wp2_with (at_builtin; refine append_sp b rfl _ _ rfl (.slice (some ⟨g, 0, none⟩) l.length cap) l [x] rfl HR.out.1 gv (0, 0) 1 rfl HV.out HR.out.2.1 (by have := HR.out.2.2; simp; omega) ?_; intro v1 w1 h1 h2 h3; have H1 := Aside0.mk (And.intro h1 (And.intro h2 h3)); clear h1 h2 h3)
    all_goals
      go_ret
      exact ⟨v1, rfl, H1.out.1, Kp.of_grown H1.out.2.1, own_fresh H1.out.2.2⟩
/-- append of zero spans where there is no room: a new row. -/
theorem append_zeros_step {ops : Array Oper} {rest : List Oper} {o : Oper} {a : Act} {Q : Exit → Act → World → Prop} {w : World} (hgd : o.guard = none) (s x : Operand)
    (ho : o.op = .call { callee := .builtin .append, args := #[s, x], argTypes := #[41, 3] }) (g i cap k m : Nat) (hm : i + k = m) (L : List Value) (hs : a.eval s = .slice (some ⟨g, 0, none⟩) i cap) (hx : a.eval x = .int .i64 k)
    (hg : w.heap[g]? = some (.cells L.toArray 47 (0, 0))) (hi : i * 2 ≤ L.length) (hic : i ≤ cap) (hcap : cap < i + k) (hk : 0 < k) (hbig : i + k ≤ 4000000) (hone : ∀ v ∈ L.take (i * 2), v.oneCell' = true)
    (h : ∀ w1 (R : List Value) c1, w1.heap[w.heap.size]? = some (.cells R.toArray 47 (0, 0)) → R.take (i * 2) = L.take (i * 2) → R.length = c1 * 2 → m ≤ c1 → c1 ≤ maxLen → Below w.heap.size w w1 → wpList Try.prog ops Q rest (a.put o.dst (.slice (some ⟨w.heap.size, 0, none⟩) m c1)) w1) :
    wpList Try.prog ops Q (o :: rest) a w := by
  subst hm
  have hinfo : (Try.prog.info? 47).map (fun i => (i.zero, i.size, i.bytes)) = some (some (.agg #[.int .i64 0, .int .i64 0]), 2, 16) := by kernel_rfl
  obtain ⟨i0, hq, hzz⟩ := Option.map_eq_some_iff.1 hinfo
  simp only [Prod.mk.injEq] at hzz
  obtain ⟨hz0, hz1, hz2⟩ := hzz
  have hlt : (L.take (i * 2)).length = i * 2 := by rw [List.length_take]; omega
  have hold : (Builtin.firstCells i0.size i (.slice (some ⟨g, 0, none⟩) i cap)).run Try.prog w.drew = .ok (L.take (i * 2)).toArray w.drew := by
    rw [hz1]
    exact run_firstCells_some w.drew 2 i ⟨g, 0, none⟩ i cap (L.take (i * 2)) hlt (fun j v hj => by
      have hjl := (List.getElem?_eq_some_iff.1 hj).1
      rw [hlt] at hjl
      rw [List.getElem?_take_of_lt hjl] at hj
      rw [show (⟨g, 0, none⟩ : Addr).add j = ⟨g, 0 + j, none⟩ by unfold Addr.add; split <;> simp_all, blk_cell (show w.drew.heap[g]? = some (.cells L.toArray 47 (0, 0)) from hg)]
      simpa using hj)
  have hrun := Lib.run_append_grow_zeros w 41 3 o.type 47 i0 (.agg #[.int .i64 0, .int .i64 0]) .i64 .i64 Try.underlying41 Try.underlying3 hq hz0 (some ⟨g, 0, none⟩) i cap (L.take (i * 2)) hold k hk (by omega) hcap (by omega) (by rw [hz2]; omega) (by rw [hz2]; exact growslice_fits hcap (by omega))
  refine wpList_plain hgd fun K hK => ?_
  unfold Oper.wp execOp
  simp only [ho, resolve, invoke, builtin, Sem.run_bind, Sem.run_pure, Result.andThen_ok, List.map_toArray, List.map_cons, List.map_nil, hs, hx, hrun]
  have hge := grownCap_ge w (i + k) cap 47
  have hle := grownCap_le_maxLen w (i + k) cap 47 (by unfold maxLen; omega)
  generalize grownCap w (i + k) cap 47 = c1 at hge hle ⊢
  refine hK _ _ (h _ ((L.take (i * 2)).toArray ++ Builtin.zeroCells (Value.agg #[.int .i64 0, .int .i64 0]).cells k ++ Builtin.zeroCells (Value.agg #[.int .i64 0, .int .i64 0]).cells (c1 - (i + k))).toList c1 ?_ ?_ ?_ hge hle ?_)
  · rw [Array.toArray_toList]
    exact blk_new w.drew _
  · simp only [Array.toList_append]
    rw [List.append_assoc, List.take_append_of_le_length (by rw [hlt]; omega), List.take_take, Nat.min_self]
  · simp only [Array.toList_append, List.length_append, hlt]
    have hz : ∀ q, (Builtin.zeroCells (Value.agg #[.int .i64 0, .int .i64 0]).cells q).toList.length = q * 2 := fun q => by
      have : (Value.agg #[.int .i64 0, .int .i64 0]).cells.size = 2 := by kernel_rfl
      simp [Builtin.zeroCells, this]
    rw [hz, hz]
    omega
  · exact below_alloc (below_drew (Below.refl w.heap.size w)) _
/-- What Insert leaves in a new row. -/
theorem grow_cells {L R : List Value} {l : List Sp} {x : Sp} {i n c1 : Nat} (ht : L.take (n * 2) = encP l) (hn : l.length = n) (hi : i ≤ n) (hR : R.take (i * 2) = L.take (i * 2)) (hl : R.length = c1 * 2) (hc : n + 1 ≤ c1) :
    (wr (wr R (i * 2) (spc x)) ((i + 1) * 2) ((L.drop (i * 2)).take ((n - i) * 2))).take ((n + 1) * 2) = encP (l.take i ++ x :: l.drop i) := by
  have hd : (L.drop (i * 2)).take ((n - i) * 2) = encP (l.drop i) := by
    rw [← encP_drop, ← ht, List.drop_take, show n * 2 - i * 2 = (n - i) * 2 by omega]
  have ht2 : R.take (i * 2) = encP (l.take i) := by rw [hR, ← encP_take, ← ht, List.take_take, Nat.min_eq_left (by omega)]
  have hel : (encP (l.drop i)).length = (n - i) * 2 := by rw [encP_length, List.length_drop, hn]
  have hel2 : (encP (l.take i)).length = i * 2 := by rw [encP_length, List.length_take, hn, Nat.min_eq_left hi]
  have hs2 : (spc x).length = 2 := rfl
  rw [hd]
  have hw : wr R (i * 2) (spc x) = encP (l.take i) ++ spc x ++ R.drop ((i + 1) * 2) := by unfold wr; rw [ht2, hs2, show i * 2 + 2 = (i + 1) * 2 by omega]
  rw [hw]
  generalize R.drop ((i + 1) * 2) = D
  unfold wr
  have h1 : (encP (l.take i) ++ spc x ++ D).take ((i + 1) * 2) = encP (l.take i) ++ spc x := by rw [List.take_left']; simp only [List.length_append, hel2, hs2]; omega
  rw [h1, encP_append, encP_cons, List.append_assoc, ← List.append_assoc (encP (l.take i) ++ spc x), List.append_assoc (encP (l.take i)), List.take_left']
  simp only [List.length_append, hel, hel2, hs2]
  omega
set_option maxHeartbeats 4000000 in
theorem insert_grow {W : World} {b g gv n cap i : Nat} {L : List Value} {l : List Sp} (x : Sp) (hg : W.heap[g]? = some (.cells L.toArray 47 (0, 0))) (hL : L.length = cap * 2) (ht : L.take (n * 2) = encP l) (hn : l.length = n) (hi : i < n) (hc : cap < n + 1) (hnc : n ≤ cap) (hbig : n ≤ 2000000) (hb : b ≤ W.heap.size)
    (hv : W.heap[gv]? = some (.cells #[.int .i64 x.lo, .int .i64 x.hi] 47 (0, 0))) :
    Calls Try.prog 35 #[.slice (some ⟨g, 0, none⟩) n cap, .int .i64 i, .slice (some ⟨gv, 0, none⟩) 1 1] W fun e w' => ∃ v', e = .returned v' ∧ Moved W b (.slice (some ⟨g, 0, none⟩) n cap) w' v' (l.take i ++ x :: l.drop i) := by
  have hone : ∀ v ∈ L.take (i * 2), v.oneCell' = true := by
    intro v hv
    have : L.take (i * 2) = encP (l.take i) := by rw [← encP_take, ← ht, List.take_take, Nat.min_eq_left (by omega)]
    rw [this] at hv
    exact encP_one _ v hv
  have hone2 : ∀ v ∈ (L.drop (i * 2)).take ((n - i) * 2), v.oneCell' = true := by
    intro v hv
    have : (L.drop (i * 2)).take ((n - i) * 2) = encP (l.drop i) := by rw [← encP_drop, ← ht, List.drop_take, show n * 2 - i * 2 = (n - i) * 2 by omega]
    rw [this] at hv
    exact encP_one _ v hv
  have HG := Aside0.mk (And.intro hg (And.intro hone hone2))
  have HV := Aside0.mk hv
  have HL := Aside0.mk (And.intro hL (And.intro ht (And.intro hn (And.intro hb hbig))))
  have hi' : (i : Int) < (n : Int) := by omega
  have hc' : (cap : Int) < (n : Int) + 1 := by omega
  have hkk : IntKind.i64.wrap ((n : Int) + 1 - (i : Int)) = ((n + 1 - i : Nat) : Int) := by rw [IntKind.wrap_i64]; omega
  have hkk2 : wrap64 ((n : Int) + 1 - (i : Int)) = ((n + 1 - i : Nat) : Int) := by unfold wrap64; omega
  have hw1 : IntKind.i64.wrap ((i : Int) + 1) = (i : Int) + 1 := by rw [IntKind.wrap_i64]; omega
  have hb1 : (0 : Int) ≤ (i : Int) + 1 := by omega
  have htn : ((i : Int) + 1).toNat = i + 1 := by omega
  have hin : i ≤ n := by omega
  have hcm : cap ≤ 9223372036854775807 := by omega
  clear hg hv hL ht hn hone hone2
  go_enter Try.func35, Try.ntmps35
  go_upto_region 9 with (fail)
  go_upto_region 10 with (at_builtin; refine append_zeros_step rfl _ _ rfl g i cap (n + 1 - i) (n + 1) (by omega) L rfl rfl HG.out.1 (by have := HL.out.1; omega) (by omega) (by omega) (by omega) (by have := HL.out.2.2.2.2; omega) HG.out.2.1 ?_; intro w1 R c1 r1 r2 r3 r4 r5 r6; have HX := Aside0.mk (And.intro r1 (And.intro r2 (And.intro r3 (And.intro r4 (And.intro r5 r6))))); clear r1 r2 r3 r4 r5 r6)
  have hlt := blk_lt HG.out.1
  have hltv := blk_lt HV.out
  have hne : g ≠ W.heap.size := by omega
  have hnev : gv ≠ W.heap.size := by omega
  have hcc : n + 1 ≤ c1 := HX.out.2.2.2.1
  have hcm1 : c1 ≤ 9223372036854775807 := HX.out.2.2.2.2.1
  have HNE := Aside0.mk (And.intro hne hnev)
  clear hlt hltv hne hnev
  have hi9 : i ≤ n + 1 := by omega
  have hb4 : ¬ (c1 = i) := by omega
  have hb5 : ¬ (c1 = i + 1) := by omega
  go_upto_region 11 with (refine copy_step rfl _ _ 41 47 rfl Try.underlying41 (by kernel_rfl) _ _ 1 _ _ _ _ W.heap.size i gv 0 R [.int .i64 x.lo, .int .i64 x.hi] rfl rfl (by simp only [Nat.min_def]; split <;> omega) (fun _ => rfl) (fun _ => rfl) HX.out.1 (blk_below HV.out HX.out.2.2.2.2.2) (by have := HX.out.2.2.1; omega) (by simp) (by intro v hv; simp at hv; rcases hv with rfl | rfl <;> rfl) ?_; intro w2 hw2 hk2; have HW2 := Aside0.mk (And.intro hw2 hk2); clear hw2 hk2)
  have hb6 : ¬ (cap = i) := by omega
  go_still_tail 8, (by kernel_rfl)
  obtain ⟨hw2, hk2⟩ := HW2.out
  obtain ⟨x1, x2, x3, x4, x5, x6⟩ := HX.out
  have hL := HL.out
  have hl2 : (wr R (i * 2) (([.int .i64 x.lo, .int .i64 x.hi].drop (0 * 2)).take (1 * 2))).length = R.length := wr_length (by simp; omega)
  have hg2 : w2.heap[g]? = some (.cells L.toArray 47 (0, 0)) := blk_kp (blk_below HG.out.1 x6) hk2 HNE.out.1
  have hcells := grow_cells (x := x) hL.2.1 hL.2.2.1 hin x2 x3 x4
  refine copy_step rfl _ _ 41 47 rfl Try.underlying41 (by kernel_rfl) _ _ (n - i) _ _ _ _ W.heap.size (i + 1) g i _ L rfl rfl (by simp only [Nat.min_def]; split <;> omega) (fun _ => rfl) (fun _ => rfl) hw2 hg2 (by rw [hl2]; omega) (by omega) HG.out.2.2 ?_
  intro w3 hw3 hk3
  have hk4 : Kp w2 w3 (· = W.heap.size) := ⟨hk3.os, hk3.tape, hk3.output, hk3.size, hk3.block⟩
  have hl3 : (wr (wr R (i * 2) (spc x)) ((i + 1) * 2) ((L.drop (i * 2)).take ((n - i) * 2))).length = c1 * 2 := by
    refine (wr_length ?_).trans (hl2.trans x3)
    rw [List.length_take, List.length_drop]
    refine Nat.le_trans ?_ (Nat.le_of_eq hl2.symm)
    omega
  have hlen : (l.take i ++ x :: l.drop i).length = n + 1 := by simp only [List.length_append, List.length_take, List.length_cons, List.length_drop]; omega
  have hrow : RowS w3 b (.slice (some ⟨W.heap.size, 0, none⟩) (n + 1) c1) (l.take i ++ x :: l.drop i) := by
    have := rowOf (W := w3) (b := b) (l := l.take i ++ x :: l.drop i) hw3 hL.2.2.2.1 (by rw [hlen]; exact x4) x5 hl3 (by rw [hlen]; exact hcells)
    rwa [hlen] at this
  have hkp : Below W.heap.size W w3 := ((((Kp.of_below x6 (fun k => W.heap.size ≤ k)).then_ hk2 (fun k hk => .inr (Nat.le_of_eq hk.symm))).then_ hk4 (fun k hk => .inr (Nat.le_of_eq hk.symm))).to_below (fun _ h => h))
  have HF := Aside0.mk (Moved.mk (v := .slice (some ⟨g, 0, none⟩) n cap) hrow (Kp.of_below hkp _) (.inr (fun k hk => Nat.le_of_eq (by simpa [Value.ownBlock] using hk))))
  clear hw2 hk2 x1 x2 x3 x4 x5 x6 hL hl2 hg2 hcells hw3 hk3 hk4 hl3 hlen hrow hkp HW2 HX HNE HG HL HV
  go_wp2_with fail
  go_ret
  exact ⟨_, rfl, HF.out⟩
/-- Insert of one span. -/
theorem insert_calls {W : World} {b gv i : Nat} {v : Value} {l : List Sp} (x : Sp) (hr : RowS W b v l) (hb : b ≤ W.heap.size) (hn : l.length ≤ 2000000) (hi : i ≤ l.length)
    (hv : W.heap[gv]? = some (.cells #[.int .i64 x.lo, .int .i64 x.hi] 47 (0, 0))) (hne : ∀ k, v.ownBlock = some k → gv ≠ k) :
    Calls Try.prog 35 #[v, .int .i64 i, .slice (some ⟨gv, 0, none⟩) 1 1] W fun e w' => ∃ v', e = .returned v' ∧ Moved W b v w' v' (l.take i ++ x :: l.drop i) := by
  rcases Nat.lt_or_eq_of_le hi with hi | rfl
  · have h0 : v ≠ .slice none 0 0 := by
      rintro rfl
      rcases hr.2 with ⟨_, h1⟩ | ⟨g, cap, cur, h1, _⟩
      · omega
      · injection h1 with h1; cases h1
    obtain ⟨g, cap, L, rfl, hg, hbg, hc, hm, hL, ht⟩ := hr.cells h0
    rcases Nat.lt_or_ge cap (l.length + 1) with hlt | hge
    · exact insert_grow x hg hL ht rfl hi hlt hc hn hb hv
    · refine (insert_room x hg hL ht rfl hi hge (by unfold maxLen at hm; exact hm) hv (hne g rfl)).mono ?_
      rintro e w' ⟨rfl, ⟨L', h1, h2, h3⟩, h4⟩
      have hlen : (l.take i ++ x :: l.drop i).length = l.length + 1 := by simp only [List.length_append, List.length_take, List.length_cons, List.length_drop]; omega
      refine ⟨_, rfl, ?_, h4.mono (fun k hk => by rw [hk]; rfl), .inl rfl⟩
      have := rowOf (W := w') (b := b) (l := l.take i ++ x :: l.drop i) h1 hbg (by rw [hlen]; exact hge) hm h2 (by rw [hlen]; exact h3)
      rwa [hlen] at this
  · rw [List.take_length, List.drop_length]
    exact insert_end x hr hb hn hv
end Go.Proofs.Ytmcecmcnbhhniaa.G
