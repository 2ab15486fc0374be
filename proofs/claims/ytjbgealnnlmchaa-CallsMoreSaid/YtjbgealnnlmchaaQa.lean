/- A queue of numbers: what is cut off at its head, what is appended at its end. No condition. -/
import Derived.Test.YtjbgealnnlmchaaNb0
import Derived.Deep.Upon
import Derived.WalkSpells
set_option linter.unusedVariables false
set_option linter.unusedSimpArgs false
namespace Go.Proofs.Ytjbgealnnlmchaa.G
open Go.RowKit Go.Proofs.Ytjbgealnnlmchaa.B Go.Proofs.YtjbgealnnlmchaaW.PrintWords Go.Proofs.YtjbgealnnlmchaaW.PrintLast Go.Proofs.YtjbgealnnlmchaaW.PrintMore

/-- The queue's cells lie in a block of its own, behind base; or it has no room. -/
def Que (W : World) (base : Nat) (v : Value) (q : List Int) : Prop :=
  ∃ A c, v = .slice A q.length c ∧ q.length ≤ c ∧ c ≤ maxLen ∧ (∀ k, v.ownBlock = some k → base ≤ k ∧ k < W.heap.size) ∧
    (0 < c → ∃ g o row, A = some ⟨g, o, none⟩ ∧ base ≤ g ∧ W.heap[g]? = some (.cells row 3 (0, 0)) ∧ o + c ≤ row.size ∧ ∀ j, j < q.length → row[o + j]? = some (.int .i64 (q.getD j 0)))
theorem Que.of_own {W : World} {base : Nat} {v : Value} {q : List Int} (h : W.ownsRow base 3 1 v q.length (q.map (Value.int .i64))) : Que W base v q := by
  rcases h.2 with ⟨h1, h2⟩ | ⟨g, cap, cur, h1, h2, h3, h4, h5, h6, h7⟩
  · exact ⟨none, 0, by rw [h1, h2], by omega, by unfold maxLen; omega, h.lt, fun h => absurd h (by omega)⟩
  · refine ⟨some ⟨g, 0, none⟩, cap, h1, h4, h5, h.lt, fun _ => ⟨g, 0, cur, rfl, h2, h3, by omega, fun j hj => ?_⟩⟩
    have : (cur.toList.take (q.length * 1))[j]? = (q.map (Value.int .i64))[j]? := by rw [h7]
    rw [List.getElem?_take_of_lt (by omega), List.getElem?_map, List.getElem?_eq_getElem hj] at this
    rw [Nat.zero_add, ← Array.getElem?_toList, this, List.getD_eq_getElem?_getD, List.getElem?_eq_getElem hj]
    rfl
theorem Que.nil_ (W : World) (base : Nat) : Que W base (.slice none 0 0) [] := ⟨none, 0, rfl, Nat.le_refl _, by unfold maxLen; omega, fun k hk => by simp [Value.ownBlock] at hk, fun h => absurd h (by omega)⟩
theorem Que.move {W W' : World} {base : Nat} {v : Value} {q : List Int} (h : Que W base v q) (hsz : W.heap.size ≤ W'.heap.size) (hm : ∀ k, v.ownBlock = some k → k < W.heap.size → W'.heap[k]? = W.heap[k]?) : Que W' base v q := by
  obtain ⟨A, c, rfl, h1, h2, hb, h3⟩ := h
  refine ⟨A, c, rfl, h1, h2, fun k hk => ⟨(hb k hk).1, Nat.lt_of_lt_of_le (hb k hk).2 hsz⟩, fun h0 => ?_⟩
  obtain ⟨g, o, row, rfl, h4, h5, h6, h7⟩ := h3 h0
  exact ⟨g, o, row, rfl, h4, (hm g rfl (blk_lt h5)).trans h5, h6, h7⟩
theorem Que.form {W : World} {base : Nat} {v : Value} {q : List Int} (h : Que W base v q) : ∃ A c, v = .slice A q.length c := by
  obtain ⟨A, c, h, _⟩ := h
  exact ⟨A, c, h⟩
/-- The first one, and the rest. -/
theorem Que.head {W : World} {base : Nat} {v : Value} {x : Int} {q : List Int} (h : Que W base v (x :: q)) : ∃ g o c, v = .slice (some ⟨g, o, none⟩) (q.length + 1) c ∧ W.cell? ⟨g, o, none⟩ = some (.int .i64 x) ∧
    ∃ A' c', Que W base (.slice A' q.length c') q ∧ (∀ k, (Value.slice A' q.length c').ownBlock = some k → k = g) ∧ ∀ wx, Sem.run Try.prog (Instr.slice 35 (.slice (some ⟨g, o, none⟩) (q.length + 1) c) (some (.int .i64 1)) none none) wx = .ok (.slice A' q.length c') wx := by
  obtain ⟨A, c, rfl, h1, h2, hb, h3⟩ := h
  rw [List.length_cons] at h1
  obtain ⟨g, o, row, rfl, h4, h5, h6, h7⟩ := h3 (by omega)
  refine ⟨g, o, c, rfl, ?_, if c = 1 then some ⟨g, o, none⟩ else some ⟨g, o + 1, none⟩, c - 1, ⟨_, _, rfl, by omega, by omega, fun k hk => ?_, fun h0 => ⟨g, o + 1, row, by rw [if_neg (by omega)], h4, h5, by omega, fun j hj => ?_⟩⟩, fun k hk => ?_, fun wx => ?_⟩
  · have := h7 0 (by simp)
    rw [blk_cell h5 o]
    exact this
  · have hk' : k = g := by
      split at hk
      · simpa [Value.ownBlock] using hk.symm
      · simpa [Value.ownBlock] using hk.symm
    rw [hk']
    exact hb g rfl
  · have := h7 (j + 1) (by rw [List.length_cons]; omega)
    rw [show o + 1 + j = o + (j + 1) by omega, this]
    rfl
  · split at hk
    · simpa [Value.ownBlock] using hk.symm
    · simpa [Value.ownBlock] using hk.symm
  · have hi : (Try.prog.info? 3).map (fun i => i.size) = some 1 := by kernel_rfl
    obtain ⟨i, hi1, hi2⟩ := Option.map_eq_some_iff.1 hi
    have c1 : (1 : Int) ≤ ((q.length + 1 : Nat) : Int) := by omega
    unfold Instr.slice
    simp [run_underlying Try.underlying35, Instr.sliceBounds, Instr.sliceBound, asIntOf, sizeOf, typeInfo, hi1, hi2, Addr.add]
    by_cases hc : c = 1
    · subst hc
      simp
      intro hh
      omega
    · have hc' : ¬ c - 1 = 0 := by omega
      simp [hc, hc']
      intro hh
      omega
/-- Numbers appended at its end. -/
theorem append_que {ops : Array Oper} {rest : List Oper} {o : Oper} {a : Act} {Q : Exit → Act → World → Prop} {w : World} (base : Nat) (hgd : o.guard = none) (s x : Operand)
    (ho : o.op = .call { callee := .builtin .append, args := #[s, x], argTypes := #[35, 35] })
    (v : Value) (q m : List Int) (hs : a.eval s = v) (HQ : Que w base v q) (A : Option Addr) (c : Nat) (hx : a.eval x = .slice A m.length c) (hC : Kd.C (Kd.int .i64) w A m.length m) (hbase : base ≤ w.heap.size) (hl : q.length + m.length ≤ 1000000000000)
    (h : ∀ v' w1, Que w1 base v' (q ++ m) → w.grownBy w1 v.ownBlock → (∀ k, v'.ownBlock = some k → v.ownBlock = some k ∨ w.heap.size ≤ k) → wpList Try.prog ops Q rest (a.put o.dst v') w1) :
    wpList Try.prog ops Q (o :: rest) a w := by
  have hinfo : (Try.prog.info? 3).map (fun i => (i.zero, i.size, i.bytes)) = some (some (.int .i64 0), 1, 8) := by kernel_rfl
  obtain ⟨i0, hi, hzz⟩ := Option.map_eq_some_iff.1 hinfo
  simp only [Prod.mk.injEq] at hzz
  obtain ⟨hz0, hz1, hz2⟩ := hzz
  have hsrc : Src Try.prog i0.size 35 (.slice A m.length c) m.length (m.map (Value.int .i64)) w := by
    rw [hz1]
    cases A with
    | none =>
      have hm : m.length = 0 := by
        rcases Nat.eq_zero_or_pos m.length with h0 | h0
        · exact h0
        · obtain ⟨ad, e, _⟩ := Kd.at_int hC 0 (by omega) (by omega)
          cases e
      obtain rfl : m = [] := List.eq_nil_of_length_eq_zero hm
      exact Src.ofNil w Try.underlying35 c
    | some ad =>
      refine Src.ofSlice w Try.underlying35 ad m.length c _ (by rw [List.length_map]; omega) (fun j u hj => ?_) (fun u hu => by obtain ⟨y, _, rfl⟩ := List.mem_map.1 hu; rfl)
      rw [List.getElem?_map] at hj
      obtain ⟨y, hy, rfl⟩ := Option.map_eq_some_iff.1 hj
      have hjl : j < m.length := (List.getElem?_eq_some_iff.1 hy).1
      obtain ⟨ad', e, hcell⟩ := Kd.at_int hC (j : Int) (by omega) (by omega)
      injection e with e
      subst e
      rw [Int.toNat_natCast] at hcell
      rw [hcell]
      unfold rd
      rw [Int.toNat_natCast, List.getD_eq_getElem?_getD, hy]
      rfl
  obtain ⟨Aq, cq, rfl, q1, q2, qb, q3⟩ := HQ
  refine wpList_plain hgd fun K hK => ?_
  by_cases hfit : q.length + m.length ≤ cq
  · rcases Nat.eq_zero_or_pos cq with h0 | h0
    · subst h0
      obtain rfl : q = [] := List.eq_nil_of_length_eq_zero (by omega)
      obtain rfl : m = [] := List.eq_nil_of_length_eq_zero (by omega)
      have hrun := run_append_nothing (P := Try.prog) w 35 35 o.type 3 i0 Try.underlying35 hi Aq 0 0 (Nat.le_refl _) (.slice A 0 c) (by simpa using hsrc)
      unfold Oper.wp
      simp [execOp, ho, resolve, invoke, builtin, hs, hx, hrun, Result.andThen]
      exact hK _ _ (h _ w ⟨Aq, 0, rfl, Nat.le_refl _, q2, qb, fun h => absurd h (by omega)⟩ ⟨rfl, rfl, rfl, Nat.le_refl _, fun _ _ _ => rfl⟩ (fun k hk => .inl hk))
    · obtain ⟨g, off, row, rfl, h4, h5, h6, h7⟩ := q3 h0
      have hrun := run_append_room_src (P := Try.prog) w 35 35 o.type 3 i0 Try.underlying35 hi g off q.length cq (.slice A m.length c) m.length (m.map (Value.int .i64)) hsrc hfit (fun j hj => by
        rw [List.length_map] at hj
        rw [hz1, Nat.mul_one, blk_cell h5, Array.getElem?_eq_getElem (by omega)]
        rfl) (fun j hj => blk_frozen h5 _)
      rw [hz1] at hrun
      unfold Oper.wp
      simp [execOp, ho, resolve, invoke, builtin, hs, hx, Result.andThen]
      rw [hrun]
      refine hK _ _ (h _ _ ?_ ?_ (fun k hk => .inl hk))
      · obtain ⟨cur', r1, r2, r3⟩ := setCells_row (m.map (Value.int .i64)) (off + q.length * 1) w row h5 (by rw [List.length_map]; omega)
        refine ⟨_, cq, by rw [List.length_append], by rw [List.length_append]; exact hfit, q2, fun k hk => ⟨(qb k hk).1, by rw [(setCells_same g _ _ w).2.2.2]; exact (qb k hk).2⟩, fun _ => ⟨g, off, cur', rfl, h4, r1, by omega, fun j hj => ?_⟩⟩
        rw [List.length_append] at hj
        have hrl : row.toList.length = row.size := Array.length_toList
        rw [← Array.getElem?_toList, r3, List.append_assoc]
        by_cases hj1 : j < q.length
        · rw [List.getElem?_append_left (by rw [List.length_take, hrl]; omega), List.getElem?_take_of_lt (by omega), Array.getElem?_toList, h7 j hj1, List.getD_eq_getElem?_getD, List.getD_eq_getElem?_getD, List.getElem?_append_left hj1]
        · rw [List.getElem?_append_right (by rw [List.length_take, hrl]; omega), List.getElem?_append_left (by rw [List.length_take, hrl, List.length_map]; omega), List.length_take, hrl, Nat.min_eq_left (by omega), show off + j - (off + q.length * 1) = j - q.length by omega, List.getElem?_map, List.getElem?_eq_getElem (by omega), List.getD_eq_getElem?_getD, List.getElem?_append_right (by omega), List.getElem?_eq_getElem (by omega)]
          rfl
      · obtain ⟨e1, e2, e3, e4⟩ := setCells_same g (m.map (Value.int .i64)) (off + q.length * 1) w
        exact ⟨e1, e2, e3, by omega, fun k _ hne => setCells_far _ _ k (fun e => hne (by rw [e]; rfl))⟩
  · have hold : (Builtin.firstCells i0.size q.length (.slice Aq q.length cq)).run Try.prog w.drew = .ok (q.map (Value.int .i64)).toArray w.drew := by
      rw [hz1]
      rcases Nat.eq_zero_or_pos cq with h0 | h0
      · obtain rfl : q = [] := List.eq_nil_of_length_eq_zero (by omega)
        cases Aq with
        | none => exact run_firstCells_none w.drew 1 0 0 cq
        | some ad => exact run_firstCells_some w.drew 1 0 ad 0 cq [] rfl (fun j u hj => by simp at hj)
      · obtain ⟨g, off, row, rfl, h4, h5, h6, h7⟩ := q3 h0
        refine run_firstCells_some w.drew 1 q.length ⟨g, off, none⟩ q.length cq _ (by rw [List.length_map]; omega) (fun j u hj => ?_)
        rw [List.getElem?_map] at hj
        obtain ⟨y, hy, rfl⟩ := Option.map_eq_some_iff.1 hj
        have hjl : j < q.length := (List.getElem?_eq_some_iff.1 hy).1
        have h8 := h7 j hjl
        rw [Addr.add_lit]
        show w.cell? _ = _
        rw [blk_cell h5, h8, List.getD_eq_getElem?_getD, hy]
        rfl
    have hg : cq < q.length + m.length := by omega
    have hrun := run_append_grow_src (P := Try.prog) w 35 35 o.type 3 i0 (.int .i64 0) Try.underlying35 hi hz0 Aq q.length cq (q.map (Value.int .i64)) hold (.slice A m.length c) m.length (m.map (Value.int .i64)) hsrc hg (by omega) (growslice_fits hg (by rw [hz2]; omega))
    have hge := grownCap_ge w (q.length + m.length) cq 3
    have hcm := grownCap_le_maxLen w (q.length + m.length) cq 3 (by unfold maxLen; omega)
    unfold Oper.wp
    simp [execOp, ho, resolve, invoke, builtin, hs, hx, Result.andThen]
    rw [hrun]
    generalize grownCap w (q.length + m.length) cq 3 = C at hge hcm ⊢
    refine hK _ _ (h _ _ ?_ ?_ (fun k hk => .inr ?_))
    · refine ⟨_, C, by rw [List.length_append], by rw [List.length_append]; exact hge, hcm, fun k hk => ?_, fun _ => ⟨w.heap.size, 0, _, rfl, hbase, heap_alloc_new w.drew _, ?_, fun j hj => ?_⟩⟩
      · simp [Value.ownBlock] at hk
        simp
        omega
      · rw [Array.size_append, List.size_toArray, List.length_append, List.length_map, List.length_map, size_zeroCells]
        show 0 + C ≤ q.length + m.length + (C - (q.length + m.length)) * 1
        omega
      · rw [Nat.zero_add, Array.getElem?_append_left (by rw [List.size_toArray, ← List.map_append, List.length_map]; exact hj), List.getElem?_toArray, ← List.map_append, List.getElem?_map, List.getElem?_eq_getElem hj, List.getD_eq_getElem?_getD, List.getElem?_eq_getElem hj]
        rfl
    · exact ⟨rfl, rfl, rfl, by simp, fun k hk _ => heap_alloc_old w.drew _ hk⟩
    · simp [Value.ownBlock] at hk
      omega
/-- One number at the end of a row of the call's own. -/
theorem append_nat {ops : Array Oper} {rest : List Oper} {o : Oper} {a : Act} {Q : Exit → Act → World → Prop} {w : World} (base : Nat) (hgd : o.guard = none) (s x : Operand)
    (ho : o.op = .call { callee := .builtin .append, args := #[s, x], argTypes := #[35, 35] })
    (v : Value) (l : List Nat) (y : Nat) (hs : a.eval s = v) (HO : w.ownsRow base 3 1 v l.length (nats l)) (gb : Nat) (hx : a.eval x = .slice (some ⟨gb, 0, none⟩) 1 1)
    (hb : w.cell? ⟨gb, 0, none⟩ = some (.int .i64 (y : Int))) (hbase : base ≤ w.heap.size) (hl : l.length ≤ 4000000)
    (h : ∀ A1 c1 w1, w1.ownsRow base 3 1 (.slice A1 (l.length + 1) c1) (l.length + 1) (nats (l ++ [y])) → w.grownBy w1 v.ownBlock → (∀ k, (Value.slice A1 (l.length + 1) c1).ownBlock = some k → v.ownBlock = some k ∨ w.heap.size ≤ k) →
      wpList Try.prog ops Q rest (a.put o.dst (.slice A1 (l.length + 1) c1)) w1) :
    wpList Try.prog ops Q (o :: rest) a w := by
  have hinfo : (Try.prog.info? 3).map (fun i => (i.zero, i.size, i.bytes)) = some (some (.int .i64 0), 1, 8) := by kernel_rfl
  obtain ⟨i0, hi, hzz⟩ := Option.map_eq_some_iff.1 hinfo
  simp only [Prod.mk.injEq] at hzz
  obtain ⟨hz0, hz1, hz2⟩ := hzz
  refine wpList_append_own_at w hgd s x 35 ho base 3 i0 (.int .i64 0) 1 8 Try.underlying35 hi hz0 hz1 hz2 (by kernel_rfl) (by decide) v l.length (nats l) hs HO ⟨gb, 0, none⟩ 1 1 [.int .i64 (y : Int)] hx rfl (fun j u hj => ?_) (by simp [Value.oneCell']) (by simp only [maxLen]; omega) (by omega) hbase ?_
  · match j, hj with
    | 0, hj =>
      obtain rfl : Value.int .i64 (y : Int) = u := by simpa using hj
      rw [show (⟨gb, 0, none⟩ : Addr).add 0 = ⟨gb, 0, none⟩ from by simp [Addr.add]]
      exact hb
  intro v1 w1 h1 hg _ hat
  have hrow : w1.ownsRow base 3 1 v1 (l.length + 1) (nats (l ++ [y])) := by
    rw [show nats (l ++ [y]) = nats l ++ [.int .i64 (y : Int)] by unfold nats; rw [List.map_append]; rfl]
    exact h1
  obtain ⟨g1, c1, rfl, _, _⟩ := hrow.form (by omega)
  refine h _ c1 w1 hrow hg (fun k hk => ?_)
  rcases hat with e | e
  · exact .inl (e.symm.trans hk)
  · rw [e] at hk
    injection hk with hk
    exact .inr (Nat.le_of_eq hk)
end Go.Proofs.Ytjbgealnnlmchaa.G
