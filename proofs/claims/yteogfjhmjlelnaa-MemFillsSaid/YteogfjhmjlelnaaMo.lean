/- slices.Clone of bytes; Mem.Bytes, Mem.Block, Mem.End. The Mem holds these blocks. -/
import Derived.Test.YteogfjhmjlelnaaMn
import Derived.Lib.LazyBuf
set_option linter.unusedVariables false
set_option linter.unusedSimpArgs false
namespace Go.Proofs.Yteogfjhmjlelnaa.G
open Go.RowKit Go.Proofs.Yteogfjhmjlelnaa.B Go.Proofs.YteogfjhmjlelnaaW.PrintWords Go.Proofs.YteogfjhmjlelnaaW.PrintLast Go.Proofs.YteogfjhmjlelnaaW.PrintMore

theorem encB_one (l : List Bt) : ∀ u ∈ encB l, u.oneCell' = true := by
  intro u hu
  unfold encB at hu
  rw [List.mem_flatMap] at hu
  obtain ⟨x, _, hx⟩ := hu
  simp only [Bt.cells, List.mem_cons, List.not_mem_nil, or_false] at hx
  rcases hx with rfl | rfl | rfl | rfl | rfl <;> rfl
theorem append_bytes {P : Program} {ops : Array Oper} {rest : List Oper} {o : Oper} {a : Act} {Q : Exit → Act → World → Prop} {w0 w : World} (base : Nat) (hgd : o.guard = none) (s x : Operand) (t : TypeId) (e : TypeId) (z : Value) (bytes : Nat)
    (ho : o.op = .call { callee := .builtin .append, args := #[s, x], argTypes := #[t, t] })
    (ht : P.underlying t = some (.slice e)) (hinfo : (P.info? e).map (fun i => (i.zero, i.size, i.bytes)) = some (some z, 5, bytes)) (hz : z.cells.size = 5) (hb0 : 0 < bytes)
    (v : Value) (n : Nat) (xs : List Value) (hs : a.eval s = v) (HO : w.ownsRow base e 5 v n xs) (gb : Nat) (fr : Nat × Nat) (l : List Bt) (c : Nat) (hx : a.eval x = .slice (some ⟨gb, 0, none⟩) l.length c)
    (hb : w.heap[gb]? = some (.cells (encB l).toArray 42 fr)) (HB : Below base w0 w) (hbase : base ≤ w.heap.size) (hl : (n + l.length) * bytes ≤ 140737488355328)
    (h : ∀ v1 w1, w1.ownsRow base e 5 v1 (n + l.length) (xs ++ encB l) → Below base w0 w1 → wpList P ops Q rest (a.put o.dst v1) w1) :
    wpList P ops Q (o :: rest) a w := by
  obtain ⟨i0, hi, hzz⟩ := Option.map_eq_some_iff.1 hinfo
  simp only [Prod.mk.injEq] at hzz
  obtain ⟨hz0, hz1, hz2⟩ := hzz
  have hlen : n + l.length ≤ 140737488355328 := Nat.le_trans (Nat.le_mul_of_pos_right _ hb0) hl
  refine wpList_append_own_at w hgd s x t ho base e i0 z 5 bytes ht hi hz0 hz1 hz2 hz (by decide) v n xs hs HO ⟨gb, 0, none⟩ l.length c (encB l) hx (by rw [encB_length]; omega)
    (by simpa using World.news_of_block (cs := (encB l).toArray) (t := 42) (fr := fr) hb) (encB_one l) (by simp only [maxLen]; omega) hl hbase ?_
  intro v1 w1 h1 hg _ _
  exact h v1 w1 h1 (HB.grown hg hbase (own_base HO))
theorem clone_calls (gb : Nat) (l : List Bt) (w : World) (hl : Bytes w gb l) (hn : l.length ≤ 4096) :
    Calls Try.prog 36 #[.slice (some ⟨gb, 0, none⟩) l.length l.length] w fun e w' => ∃ v, e = .returned v ∧ w'.ownsRow w.heap.size 42 5 v l.length (encB l) ∧ Below w.heap.size w w' := by
  have HL := Aside0.mk hl
  have HN := Aside0.mk hn
  have he : ∀ w : World, (binOp .eql 38 (.slice (some ⟨gb, 0, none⟩) l.length l.length) (.slice none 0 0)).run Try.prog w = .ok (.bool false) w := fun w => Go.run_eql_slice_nil w 38 42 _ _ _ Try.underlying38
  clear hl hn
  go_enter Try.func36, Try.ntmps36
  go_wp2_with (first | (at_builtin; refine append_bytes (w0 := w) w.heap.size rfl _ _ 38 42 (.agg #[.int .i64 0, .int .u8 0, .int .i64 0, .int .i64 0, .int .i64 0]) 40 rfl Try.underlying38 (by kernel_rfl) (by kernel_rfl) (by decide) _ 0 [] rfl (World.ownsRow_lit w #[] 0 (Nat.le_refl _) (by decide) rfl) gb (0, 0) l l.length rfl (blk_alloc HL.out _) (below_alloc (Below.refl _ _) _) (by simp) (by have := HN.out; omega) ?_; intro v1 w1 hR1 hB1; have HR1 := Aside0.mk hR1; have HB1 := Aside0.mk hB1; clear hR1 hB1))
  go_ret
  have h1 := HR1.out
  rw [List.nil_append, Nat.zero_add] at h1
  exact ⟨v1, rfl, h1, HB1.out⟩
theorem findS_spec {s : List Mb} {n : Int} {m : Mb} (h : findS s n = some m) : 1 ≤ n ∧ n ≤ s.length ∧ s[n.toNat - 1]? = some m := by
  unfold findS at h
  split at h
  · exact ⟨by assumption, by have := (List.getElem?_eq_some_iff.1 h).1; omega, h⟩
  · cases h
theorem findS_none {s : List Mb} {n : Int} (h : findS s n = none) : n < 1 ∨ (s.length : Int) < n := by
  unfold findS at h
  split at h
  · rw [List.getElem?_eq_none_iff] at h; omega
  · omega
/-- What find tells, with the block's cells. -/
theorem Holds.find {w : World} {gm : Nat} {gs : List Nat} {s : List Mb} (h : Holds w gm gs s) {n : Int} {m : Mb} (hm : findS s n = some m) :
    ∃ g cap, IsMem w gm (.slice (some ⟨g, 0, none⟩) (blks gs s).length cap) (blks gs s) ∧ (∀ W, Below w.heap.size w W → Calls Try.prog 35 #[.pointer (some ⟨gm, 0, none⟩), .int .i64 n] W fun e w' => e = .returned (.pointer (some ⟨g, (n.toNat - 1) * 3, none⟩)) ∧ w' = W) ∧
      w.cell? ⟨g, (n.toNat - 1) * 3, none⟩ = some (.int .i64 m.site) ∧ w.cell? ⟨g, (n.toNat - 1) * 3 + 1, none⟩ = some (.slice (some ⟨gs.getD (n.toNat - 1) 0, 0, none⟩) m.l.length m.l.length) ∧ w.cell? ⟨g, (n.toNat - 1) * 3 + 2, none⟩ = some (.bool m.there) ∧
      w.frozen? ⟨g, (n.toNat - 1) * 3 + 2, none⟩ = false := by
  obtain ⟨v, hM⟩ := h.mem
  obtain ⟨h1, h2, h3⟩ := findS_spec hm
  have hbl := blks_len h.len
  obtain ⟨g, cap, rfl, _, _, _, hc⟩ := hM.form (by omega)
  have hg : (blks gs s)[n.toNat - 1]? = some (blk (gs.getD (n.toNat - 1) 0) m) := by rw [blks_get h.len, h3]
  have hcc := hc _ _ hg
  refine ⟨g, cap, hM, fun W hW => find_hit n gm g cap _ W (hM.below hW) h1 (by omega), ?_, ?_, ?_, hM.row.frozenAt _⟩
  · have := hcc 0 _ rfl
    rw [Nat.mul_comm] at this
    exact this
  · have := hcc 1 _ rfl
    rw [Nat.mul_comm] at this
    exact this
  · have := hcc 2 _ rfl
    rw [Nat.mul_comm] at this
    exact this
theorem Holds.miss {w : World} {gm : Nat} {gs : List Nat} {s : List Mb} (h : Holds w gm gs s) {n : Int} (hm : findS s n = none) :
    Calls Try.prog 35 #[.pointer (some ⟨gm, 0, none⟩), .int .i64 n] w fun e w' => e = .returned (.pointer none) ∧ w' = w := by
  obtain ⟨v, hM⟩ := h.mem
  exact find_miss n gm v _ w hM (by rw [blks_len h.len]; exact findS_none hm)
theorem bytes_calls {w : World} {gm : Nat} {gs : List Nat} {s : List Mb} (h : Holds w gm gs s) (n : Int) :
    Calls Try.prog 17 #[.pointer (some ⟨gm, 0, none⟩), .int .i64 n] w fun e w' => ∃ v, e = .returned v ∧ w'.ownsRow w.heap.size 42 5 v (bytesS s n).length (encB (bytesS s n)) ∧ Below w.heap.size w w' := by
  unfold bytesS
  cases hm : findS s n with
  | none =>
    have HF := Aside0.mk (h.miss hm)
    clear h hm
    go_enter Try.func17, Try.ntmps17
    go_wp2_with fail
    refine HF.out.mono ?_
    rintro e w1 ⟨rfl, rfl⟩
    go_wp2_with fail
    go_ret
    exact ⟨_, rfl, ⟨rfl, .inl ⟨rfl, rfl⟩⟩, Below.refl _ _⟩
  | some m =>
    obtain ⟨g, cap, hM, hf, h0, h1, h2, h3⟩ := h.find hm
    have HF := Aside0.mk (hf w (Below.refl _ _))
    have hs := (findS_spec hm).2.2
    have hb := h.bytes _ _ _ (get_of h.len hs) hs
    have HC := Aside0.mk (clone_calls (gs.getD (n.toNat - 1) 0) m.l w hb.1 hb.2.1)
    clear h hm hM hf h0 h2 h3 hs hb
    go_enter Try.func17, Try.ntmps17
    go_wp2_with fail
    refine HF.out.mono ?_
    rintro e w1 ⟨rfl, rfl⟩
    go_wp2_with fail
    refine HC.out.mono ?_
    rintro e w2 ⟨v, rfl, h2, h3⟩
    go_wp2_with fail
    go_ret
    exact ⟨v, rfl, h2, h3⟩
theorem block_calls {w : World} {gm : Nat} {gs : List Nat} {s : List Mb} (h : Holds w gm gs s) (n : Int) :
    Calls Try.prog 20 #[.pointer (some ⟨gm, 0, none⟩), .int .i64 n] w fun e w' => e = .returned (.tuple #[.int .i64 (blockS s n).1, .int .i64 (blockS s n).2.1, .bool (blockS s n).2.2]) ∧ Below w.heap.size w w' := by
  unfold blockS
  cases hm : findS s n with
  | none =>
    have HF := Aside0.mk (h.miss hm)
    clear h hm
    go_enter Try.func20, Try.ntmps20
    go_wp2_with fail
    refine HF.out.mono ?_
    rintro e w1 ⟨rfl, rfl⟩
    go_wp2_with fail
    exact bodyPost_ret (v := .tuple #[.int .i64 0, .int .i64 0, .bool false]) (by simp [results, Try.results20, go_sem]) rfl ⟨rfl, Below.refl _ _⟩
  | some m =>
    obtain ⟨g, cap, hM, hf, h0, h1, h2, h3⟩ := h.find hm
    have HF := Aside0.mk (hf w (Below.refl _ _))
    clear h hm hM hf h3
    go_enter Try.func20, Try.ntmps20
    go_wp2_with fail
    refine HF.out.mono ?_
    rintro e w1 ⟨rfl, rfl⟩
    go_upto_region 3 with (fail)
    go_still (by kernel_rfl)
    change Exit.then _ _ _ _ w1.drew
    go_wp2_with fail
    exact bodyPost_ret (v := .tuple #[.int .i64 m.site, .int .i64 m.l.length, .bool m.there]) (by simp [results, Try.results20, go_sem]) rfl ⟨rfl, below_drew (Below.refl _ _)⟩
theorem encK_set (x : Blk) : ∀ (l : List Blk) (i : Nat) (y : Blk), l[i]? = some y → y.site = x.site → y.gb = x.gb → y.n = x.n → (encK l).set (i * 3 + 2) (.bool x.there) = encK (l.set i x)
  | [], i, y, h, _, _, _ => by simp at h
  | z :: l, 0, y, h, h1, h2, h3 => by
    simp only [List.getElem?_cons_zero, Option.some.injEq] at h
    subst h
    simp [encK, Blk.cells, h1, h2, h3]
  | z :: l, i + 1, y, h, h1, h2, h3 => by
    have ih := encK_set x l i y (by simpa using h) h1 h2 h3
    have e : encK (z :: l) = z.cells ++ encK l := rfl
    have hl : z.cells.length = 3 := rfl
    rw [List.set_cons_succ, show encK (z :: l.set i x) = z.cells ++ encK (l.set i x) from rfl, ← ih, e, show (i + 1) * 3 + 2 = z.cells.length + (i * 3 + 2) by rw [hl]; omega, List.set_append_right _ _ (Nat.le_add_right _ _), Nat.add_sub_cancel_left]
theorem end_calls {w : World} {gm : Nat} {gs : List Nat} {s : List Mb} (h : Holds w gm gs s) (n : Int) :
    Calls Try.prog 21 #[.pointer (some ⟨gm, 0, none⟩), .int .i64 n] w fun e w' => e = .returned (.int .i64 (endS s n).2) ∧ Holds w' gm gs (endS s n).1 ∧ Fr w w' gm gs := by
  unfold endS
  cases hm : findS s n with
  | none =>
    have HF := Aside0.mk (h.miss hm)
    have HH := Aside0.mk h
    clear h hm
    go_enter Try.func21, Try.ntmps21
    go_wp2_with fail
    refine HF.out.mono ?_
    rintro e w1 ⟨rfl, rfl⟩
    go_wp2_with fail
    go_ret
    exact ⟨rfl, HH.out, Fr.refl _ _ _⟩
  | some m =>
    have HH := Aside0.mk h
    have HS := Aside0.mk (findS_spec hm)
    obtain ⟨g, cap, hM, hf, h0, h1, h2, h3⟩ := h.find hm
    have HF := Aside0.mk (hf w (Below.refl _ _))
    have HM := Aside0.mk hM
    clear h hm hM hf h0 h1
    cases ht : m.there with
    | false =>
      rw [ht] at h2
      simp only [ht, if_true, Bool.false_eq_true, if_false]
      go_enter Try.func21, Try.ntmps21
      go_wp2_with fail
      refine HF.out.mono ?_
      rintro e w1 ⟨rfl, rfl⟩
      go_wp2_with fail
      go_ret
      exact ⟨rfl, HH.out, Fr.refl _ _ _⟩
    | true =>
      rw [ht] at h2
      simp only [ht, if_true]
      have HT := Aside0.mk ht
      clear ht
      go_enter Try.func21, Try.ntmps21
      go_wp2_with fail
      refine HF.out.mono ?_
      rintro e w1 ⟨rfl, rfl⟩
      go_wp2_with fail
      go_ret
      have hM := HM.out
      have hH := HH.out
      obtain ⟨hs1, hs2, hs3⟩ := HS.out
      have hst := hM.row.stored ((n.toNat - 1) * 3 + 2) (.bool false)
      have hgm : g ≠ gm := by
        rintro rfl
        obtain ⟨c, hc⟩ := own_typed hM.row g rfl
        have := hM.box
        rw [hc] at this
        injection this with this
        injection this with _ this
        exact absurd this (by decide)
      have hrow : (blks gs (s.modify (n.toNat - 1) fun m => { m with there := false })) = (blks gs s).set (n.toNat - 1) (blk (gs.getD (n.toNat - 1) 0) { m with there := false }) := by
        apply List.ext_getElem?
        intro j
        rw [blks_get (by rw [List.length_modify]; exact hH.len), List.getElem?_set, List.getElem?_modify]
        by_cases hij : n.toNat - 1 = j
        · subst hij
          rw [hs3, if_pos rfl, if_pos (by rw [blks_len hH.len]; omega)]
          simp
        · rw [if_neg hij, blks_get hH.len]
          cases s[j]? <;> simp [hij]
      refine ⟨rfl, ⟨⟨.slice (some ⟨g, 0, none⟩) (blks gs s).length cap, ⟨blk_kp hM.box ((Kp.refl w1 (· = g)).setCell (.inl rfl) _) (fun he => hgm he.symm), ?_⟩⟩, by rw [List.length_modify]; exact hH.len, hH.nodup, hH.above, ?_⟩, ?_⟩
      · rw [hrow]
        have := hst.1
        rw [show (Value.bool false) = .bool (blk (gs.getD (n.toNat - 1) 0) { m with there := false }).there from rfl, encK_set (blk (gs.getD (n.toNat - 1) 0) { m with there := false }) _ _ (blk (gs.getD (n.toNat - 1) 0) m) (by rw [blks_get hH.len, hs3]) rfl rfl rfl] at this
        rw [List.length_set]
        exact this
      · intro i g' m' hi hm'
        rw [List.getElem?_modify] at hm'
        have hne : ∀ l, Bytes w1 g' l → g' ≠ g := by
          rintro l hl rfl
          obtain ⟨c, hc⟩ := own_typed hM.row g' rfl
          rw [Bytes, hc] at hl
          injection hl with hl
          injection hl with _ hl
          exact absurd hl (by decide)
        cases hs : s[i]? with
        | none => rw [hs] at hm'; cases hm'
        | some m0 =>
          rw [hs] at hm'
          have hb := hH.bytes i g' m0 hi hs
          have hl : m'.l = m0.l := by
            simp only [Option.map_eq_map, Option.map_some, Option.some.injEq] at hm'
            rw [← hm']
            split <;> rfl
          rw [hl]
          exact ⟨blk_kp hb.1 ((Kp.refl w1 (· = g)).setCell (.inl rfl) _) (hne _ hb.1), hb.2⟩
      · exact (Kp.refl w1 _).setCell (.inl (.inr (.inr ⟨own_base hM.row g rfl, (own_typed hM.row g rfl).imp fun c hc => ⟨_, hc⟩⟩))) _
end Go.Proofs.Yteogfjhmjlelnaa.G
