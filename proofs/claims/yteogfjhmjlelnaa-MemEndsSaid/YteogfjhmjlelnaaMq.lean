/- copy of bytes; Mem.Copy. The Mem holds these blocks. -/
import Derived.Test.YteogfjhmjlelnaaMp
import Derived.Laws.CopyOwn
set_option linter.unusedVariables false
set_option linter.unusedSimpArgs false
namespace Go.Proofs.Yteogfjhmjlelnaa.G
open Go.RowKit Go.Proofs.Yteogfjhmjlelnaa.B Go.Proofs.YteogfjhmjlelnaaW.PrintWords Go.Proofs.YteogfjhmjlelnaaW.PrintLast Go.Proofs.YteogfjhmjlelnaaW.PrintMore

theorem run_copy_some {P : Program} (w : World) (dT sT ty elem : TypeId) (g o n dCap sCap : Nat) (a : Addr) (cur : Array Value) (t : TypeId) (cs : List Value) (i : TypeInfo)
    (hu : P.underlying dT = some (.slice elem)) (hq : P.info? elem = some i) (hi : i.size = 5)
    (hg : w.heap[g]? = some (.cells cur t (0, 0))) (hn : cs.length = n * 5)
    (hsrc : ∀ j v, cs[j]? = some v → w.cell? (a.add j) = some v) (hfit : o + cs.length ≤ cur.size) (h1 : ∀ v ∈ cs, v.oneCell' = true) :
    (Builtin.copy_ #[dT, sT] ty #[.slice (some ⟨g, o, none⟩) n dCap, .slice (some a) n sCap]).run P w =
      .ok (goInt n) (w.setRow g (cur.toList.take o ++ cs ++ cur.toList.drop (o + cs.length)).toArray) := by
  have hl := run_loadCells_list (P := P) w a cs hsrc
  have hst := run_storeCells_at P g o t cs 0 cur w hg (by simpa using hfit) h1
  simp [Builtin.copy_, run_underlying hu, Builtin.lenOf, Builtin.firstCells, sizeOf, typeInfo, hq, hi, ← hn, hl, hst]
theorem run_copy_zero {P : Program} (w : World) (dT sT ty elem : TypeId) (d a : Option Addr) (dCap sCap : Nat) (i : TypeInfo) (hu : P.underlying dT = some (.slice elem)) (hq : P.info? elem = some i) :
    (Builtin.copy_ #[dT, sT] ty #[.slice d 0 dCap, .slice a 0 sCap]).run P w = .ok (goInt 0) w := by
  have hl : ∀ a, (loadCells a 0).run P w = .ok #[] w := fun a => run_loadCells_list (P := P) w a [] (by simp)
  cases d <;> cases a <;> simp [Builtin.copy_, run_underlying hu, Builtin.lenOf, Builtin.firstCells, sizeOf, typeInfo, hq, storeCells, hl]
theorem encB_append (l m : List Bt) : encB (l ++ m) = encB l ++ encB m := by simp [encB]
theorem encB_take : ∀ (l : List Bt) (k : Nat), encB (l.take k) = (encB l).take (k * 5)
  | [], k => by simp [encB]
  | x :: l, 0 => by simp [encB]
  | x :: l, k + 1 => by
    have e : encB (x :: l) = x.cells ++ encB l := rfl
    have hl : x.cells.length = 5 := rfl
    rw [List.take_succ_cons, show encB (x :: l.take k) = x.cells ++ encB (l.take k) from rfl, encB_take l k, e, show (k + 1) * 5 = x.cells.length + k * 5 by rw [hl]; omega, List.take_length_add_append]
theorem encB_drop : ∀ (l : List Bt) (k : Nat), encB (l.drop k) = (encB l).drop (k * 5)
  | [], k => by simp [encB]
  | x :: l, 0 => by simp
  | x :: l, k + 1 => by
    have e : encB (x :: l) = x.cells ++ encB l := rfl
    have hl : x.cells.length = 5 := rfl
    rw [List.drop_succ_cons, encB_drop l k, e, show (k + 1) * 5 = x.cells.length + k * 5 by rw [hl]; omega, List.drop_length_add_append]
theorem encB_over (l : List Bt) (o : Nat) (seg : List Bt) : encB (over l o seg) = (encB l).take (o * 5) ++ encB seg ++ (encB l).drop (o * 5 + (encB seg).length) := by
  unfold over
  rw [encB_append, encB_append, encB_take, encB_drop, Nat.add_mul, encB_length, Nat.mul_comm 5 seg.length]
theorem copy_step {P : Program} {ops : Array Oper} {rest : List Oper} {o : Oper} {a : Act} {Q : Exit → Act → World → Prop} {w : World} (hgd : o.guard = none) (d s : Operand) (t : TypeId) (e : TypeId)
    (ho : o.op = .call { callee := .builtin .copy, args := #[d, s], argTypes := #[t, t] }) (ht : P.underlying t = some (.slice e)) (hsz : (P.info? e).map (·.size) = some 5)
    (A1 A2 : Option Addr) (n g1 o1 g2 o2 : Nat) (l1 l2 : List Bt) (hd : a.eval d = .slice A1 n n) (hs : a.eval s = .slice A2 n n) (h1 : 0 < n → A1 = some ⟨g1, o1 * 5, none⟩) (h2 : 0 < n → A2 = some ⟨g2, o2 * 5, none⟩)
    (hb1 : Bytes w g1 l1) (hb2 : Bytes w g2 l2) (hn1 : o1 + n ≤ l1.length) (hn2 : o2 + n ≤ l2.length)
    (h : ∀ w', Bytes w' g1 (over l1 o1 ((l2.drop o2).take n)) → Kp w w' (· = g1) → wpList P ops Q rest (a.put o.dst (goInt n)) w') : wpList P ops Q (o :: rest) a w := by
  obtain ⟨i, hq, hi⟩ := Option.map_eq_some_iff.1 hsz
  rcases Nat.eq_zero_or_pos n with rfl | hpos
  · refine wpList_plain hgd fun K hK => ?_
    have hrun := run_copy_zero (P := P) w t t o.type e A1 A2 0 0 i ht hq
    unfold Oper.wp
    simp [execOp, ho, resolve, invoke, builtin, hd, hs, hrun, Result.andThen]
    exact hK _ _ (h w (by rw [List.take_zero, over_nil]; exact hb1) (Kp.refl _ _))
  · obtain rfl := h1 hpos
    obtain rfl := h2 hpos
    have hln : (encB ((l2.drop o2).take n)).length = n * 5 := by rw [encB_length, List.length_take, List.length_drop, Nat.min_eq_left (by omega)]; omega
    have hrun := run_copy_some (P := P) w t t o.type e g1 (o1 * 5) n n n ⟨g2, o2 * 5, none⟩ (encB l1).toArray 42 (encB ((l2.drop o2).take n)) i ht hq hi hb1 hln (by
      intro j v hj
      have hjl := (List.getElem?_eq_some_iff.1 hj).1
      rw [hln] at hjl
      rw [encB_take, encB_drop, List.getElem?_take_of_lt hjl, List.getElem?_drop] at hj
      rw [show (⟨g2, o2 * 5, none⟩ : Addr).add j = ⟨g2, o2 * 5 + j, none⟩ by unfold Addr.add; split <;> simp_all, blk_cell hb2]
      simpa using hj) (by rw [hln, List.size_toArray, encB_length]; omega) (encB_one _)
    refine wpList_plain hgd fun K hK => ?_
    unfold Oper.wp
    simp only [execOp, ho, resolve, invoke, builtin, Sem.run_bind, Sem.run_pure, Result.andThen_ok, List.map_toArray, List.map_cons, List.map_nil, hd, hs, hrun]
    refine hK _ _ (h _ ?_ ?_)
    · unfold Bytes
      rw [encB_over]
      have := setRow_heap w g1 (encB l1).toArray ((encB l1).toArray.toList.take (o1 * 5) ++ encB ((l2.drop o2).take n) ++ (encB l1).toArray.toList.drop (o1 * 5 + (encB ((l2.drop o2).take n)).length)).toArray 42 (0, 0) hb1
      simpa using this
    · exact ⟨rfl, rfl, rfl, by simp [World.setRow], fun k hk hne => setRow_other w g1 k _ hne⟩
/-- part told by one test: what it hands on. -/
theorem Holds.part {w : World} {gm : Nat} {gs : List Nat} {s : List Mb} (h : Holds w gm gs s) (p : Vl) (n : Int) :
    Calls Try.prog 37 #[.pointer (some ⟨gm, 0, none⟩), .agg #[.int .i64 p.n, .int .i64 p.b, .int .i64 p.f], .int .i64 n] w fun e w' => ∃ A N ok, e = .returned (.tuple #[.slice A N N, .bool ok]) ∧
      ok = (okS s p n).isSome ∧ (∀ m, okS s p n = some m → N = n.toNat ∧ (0 < n.toNat → A = some ⟨gs.getD (p.b.toNat - 1) 0, p.n.toNat * 5, none⟩)) ∧ Below w.heap.size w w' := by
  obtain ⟨v, hM⟩ := h.mem
  have ho := okS_at h.len p n
  cases hm : okS s p n with
  | none =>
    rw [hm] at ho
    exact (part_bad p n gm v _ w hM h.small ho).mono fun e w' ⟨h1, h2⟩ => ⟨none, 0, false, h1, rfl, (fun m hm => by cases hm), h2⟩
  | some m =>
    rw [hm] at ho
    exact (part_good p n gm v _ _ w hM h.small ho).mono fun e w' ⟨A, h1, h2, h3⟩ => ⟨A, n.toNat, true, h1, rfl, (fun m' hm' => ⟨rfl, fun hp => h2 (by omega)⟩), h3⟩
theorem segS_length {s : List Mb} {p : Vl} {n : Int} {m : Mb} (h : okS s p n = some m) : (segS m p n.toNat).length = n.toNat := by
  obtain ⟨h1, h2, h3, h4, _⟩ := okS_spec h
  rw [segS, List.length_take, List.length_drop]; omega
set_option maxHeartbeats 4000000 in
theorem copy_calls {w : World} {gm : Nat} {gs : List Nat} {s : List Mb} (h : Holds w gm gs s) (p q : Vl) (n : Int) :
    Calls Try.prog 18 #[.pointer (some ⟨gm, 0, none⟩), p.agg, q.agg, .int .i64 n] w fun e w' => e = .returned (.int .i64 (copyS s p q n).2) ∧ Holds w' gm gs (copyS s p q n).1 ∧ Fr w w' gm gs := by
  have HH := Aside0.mk h
  have HB := Aside0.mk (below_alloc (below_alloc (Below.refl w.heap.size w) (.cells #[.int .i64 p.n, .int .i64 p.b, .int .i64 p.f] 23)) (.cells #[.int .i64 q.n, .int .i64 q.b, .int .i64 q.f] 23))
  have hX := Aside0.mk (blk_alloc (blk_new w (.cells #[.int .i64 p.n, .int .i64 p.b, .int .i64 p.f] 23)) (.cells #[.int .i64 q.n, .int .i64 q.b, .int .i64 q.f] 23))
  have hZ := Aside0.mk (blk_at_ (W := w.alloc (.cells #[.int .i64 p.n, .int .i64 p.b, .int .i64 p.f] 23)) (n := w.heap.size + 1) (.cells #[.int .i64 q.n, .int .i64 q.b, .int .i64 q.f] 23) (by simp))
  clear h
  unfold Vl.agg
  generalize hR : copyS s p q n = R
  have HR := Aside0.mk hR
  clear hR
  go_enter Try.func18, Try.ntmps18
  go_upto_region 1 with (fail)
  generalize (w.alloc (.cells #[.int .i64 p.n, .int .i64 p.b, .int .i64 p.f] 23)).alloc (.cells #[.int .i64 q.n, .int .i64 q.b, .int .i64 q.f] 23) = W at HB hX hZ ⊢
  have hx := cell3 hX.out
  go_upto_region 2 with (first | (go_at_call 37; refine ((HH.out.below HB.out).part p n).mono ?_; rintro e w1 ⟨A1, N1, ok1, rfl, hok1, hA1, hb1⟩; have HO1 := Aside0.mk hok1; have HA1 := Aside0.mk hA1; clear hok1 hA1))
  have HZ1 := Aside0.mk (blk_below hZ.out hb1)
  have HB1 := Aside0.mk (below_step HB.out hb1)
  clear hx hX hZ hb1 HB
  have hz := cell3 HZ1.out
  go_upto_region 3 with (first | (go_at_call 37; refine ((HH.out.below HB1.out).part q n).mono ?_; rintro e w2 ⟨A2, N2, ok2, rfl, hok2, hA2, hb2⟩; have HO2 := Aside0.mk hok2; have HA2 := Aside0.mk hA2; clear hok2 hA2))
  have HB2 := Aside0.mk (below_step HB1.out hb2)
  clear hz HZ1 hb2 HB1
  cases ok1 with
  | false =>
    go_wp2_with fail
    go_ret
    have hR : R = (s, 9) := by
      have := HR.out
      rw [← this]; unfold copyS
      have h1 := HO1.out
      cases hm : okS s p n with
      | none => rfl
      | some m => rw [hm] at h1; cases h1
    rw [hR]
    exact ⟨rfl, HH.out.below HB2.out, Fr.below HB2.out _ _⟩
  | true =>
    cases ok2 with
    | false =>
      go_wp2_with fail
      go_ret
      have hR : R = (s, 9) := by
        have := HR.out
        rw [← this]; unfold copyS
        have h1 := HO2.out
        cases hm : okS s p n with
        | none => rfl
        | some m =>
          cases hm2 : okS s q n with
          | none => rfl
          | some m => rw [hm2] at h1; cases h1
      rw [hR]
      exact ⟨rfl, HH.out.below HB2.out, Fr.below HB2.out _ _⟩
    | true =>
      obtain ⟨m1, hm1⟩ : ∃ m, okS s p n = some m := Option.isSome_iff_exists.1 HO1.out.symm
      obtain ⟨m2, hm2⟩ : ∃ m, okS s q n = some m := Option.isSome_iff_exists.1 HO2.out.symm
      have HM1 := Aside0.mk hm1
      have HM2 := Aside0.mk hm2
      obtain ⟨hN1, hA1⟩ := HA1.out _ hm1
      obtain ⟨hN2, hA2⟩ := HA2.out _ hm2
      subst hN1
      subst hN2
      have s1 := okS_spec hm1
      have s2 := okS_spec hm2
      have b1 := HH.out.bytes _ _ _ (get_of HH.out.len s1.2.2.2.2.2.1) s1.2.2.2.2.2.1
      have b2 := HH.out.bytes _ _ _ (get_of HH.out.len s2.2.2.2.2.2.1) s2.2.2.2.2.2.1
      have HB1 := Aside0.mk (blk_below b1.1 HB2.out)
      have HB1' := Aside0.mk (blk_below b2.1 HB2.out)
      have HV := Aside0.mk b2.2.2
      have HN1 := Aside0.mk (show p.n.toNat + n.toNat ≤ m1.l.length by omega)
      have HN2 := Aside0.mk (show q.n.toNat + n.toNat ≤ m2.l.length by omega)
      have HA1 := Aside0.mk hA1
      have HA2 := Aside0.mk hA2
      clear hm1 hm2 hA1 hA2 s1 s2 b1 b2
      go_wp2_with (first | (refine copy_step rfl _ _ 38 42 rfl Try.underlying38 (by kernel_rfl) A1 A2 n.toNat (gs.getD (p.b.toNat - 1) 0) p.n.toNat (gs.getD (q.b.toNat - 1) 0) q.n.toNat m1.l m2.l rfl rfl HA1.out HA2.out HB1.out HB1'.out HN1.out HN2.out ?_; intro w3 hb3 hk3; have HB3 := Aside0.mk hb3; have HK3 := Aside0.mk hk3; clear hb3 hk3))
      go_ret
      have hR : R = (putS s p (segS m2 q n.toNat), 0) := by
        have := HR.out
        rw [← this]; unfold copyS
        rw [HM1.out, HM2.out]
      rw [hR]
      have := (HH.out.below HB2.out).put HM1.out (segS_length HM2.out) (fun x hx => HV.out x (List.mem_of_mem_drop (List.mem_of_mem_take hx))) HB3.out HK3.out
      exact ⟨rfl, this.1, (Fr.below HB2.out _ _).next this.2⟩
end Go.Proofs.Yteogfjhmjlelnaa.G
