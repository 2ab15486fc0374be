/- layout.Size as a plain function. The arguments read as types and records. -/
import Derived.Test.YtndcnhbcconbcaaNa
import Derived.StillTailTactics
set_option linter.unusedVariables false
set_option linter.unusedSimpArgs false
namespace Go.Proofs.Ytndcnhbcconbcaa.G
open Go.RowKit Go.Proofs.Ytndcnhbcconbcaa.B Go.Proofs.YtndcnhbcconbcaaW.PrintWords Go.Proofs.YtndcnhbcconbcaaW.PrintLast Go.Proofs.YtndcnhbcconbcaaW.PrintMore

theorem wpStill_off {P : Program} {ops : Array Oper} {w : World} {Q : Act → Prop} {a : Act} {o : Oper} {rest : List Oper} (h : Region.wanted o (yielded ops a.tmps) = false) (hK : wpStill P ops w Q rest (a.put o.dst undef)) : wpStill P ops w Q (o :: rest) a := by
  unfold wpStill
  rw [if_neg (by rw [h]; simp)]
  exact hK
theorem wpStill_on {P : Program} {ops : Array Oper} {w : World} {Q : Act → Prop} {a : Act} {o : Oper} {rest : List Oper} (hw : Region.wanted o (yielded ops a.tmps) = true) (h : ∀ K : Act → Prop, (∀ a, wpStill P ops w Q rest a → K a) → o.still P a w K) : wpStill P ops w Q (o :: rest) a := by
  unfold wpStill
  rw [if_pos hw]
  exact h _ (fun _ h => h)
theorem rd_size (t : S24) (k : Nat) (hk : k < t.f3.length) : SizeOf.sizeOf (rd_T24 t.f3 k) < SizeOf.sizeOf t := by
  have e : rd_T24 t.f3 k = t.f3[k] := by
    unfold rd_T24
    rw [Int.toNat_natCast, List.getD_eq_getElem?_getD, List.getElem?_eq_getElem hk]
    rfl
  rw [e]
  have h1 : SizeOf.sizeOf t.f3[k] < SizeOf.sizeOf t.f3 := List.sizeOf_lt_of_mem (List.getElem_mem hk)
  have h2 : SizeOf.sizeOf t.f3 < SizeOf.sizeOf t := by cases t; simp; omega
  omega
/-- An array's size out of its elements'. -/
def arrS (n : Int) (s : Int × Int × Int) : Int × Int × Int :=
  if s.2.2 = 0 then (if 0 < s.1 then (if n > Int.tdiv 4096 s.1 then (0, 0, 5) else (wrap64 (s.1 * n), s.2.1, 0)) else (wrap64 (s.1 * n), s.2.1, 0)) else (0, 0, s.2.2)
/-- A type's size, alignment, and error. -/
def sizeS (l : List S51) (t : S24) : Int × Int × Int :=
  if t.f0 = 7 ∨ t.f0 = 8 then (match findR l t.f0 t.f2 with | none => (0, 0, 7) | some r => (r.f1, r.f2, 0))
  else if t.f0 = 6 then (if h : t.f3.length = 1 then (if t.f1 < 1 then (0, 0, 3) else arrS t.f1 (sizeS l (rd_T24 t.f3 0))) else (0, 0, 3))
  else if widthT t.f0 = 0 then (0, 0, 3) else (widthT t.f0, widthT t.f0, 0)
termination_by SizeOf.sizeOf t
decreasing_by exact rd_size t 0 (by omega)
theorem at0_T24 {w : World} {A : Option Addr} {xs : List S24} (h : Kd.C k24 w A xs.length xs) (h1 : 0 < xs.length) : ∃ ad A3 c3, A = some ad ∧ w.cell? ad = some (.int .i64 (rd_T24 xs 0).f0) ∧ w.cell? ⟨ad.block, ad.off + 1, none⟩ = some (.int .i64 (rd_T24 xs 0).f1) ∧ w.cell? ⟨ad.block, ad.off + 2, none⟩ = some (.string (rd_T24 xs 0).f2) ∧ w.cell? ⟨ad.block, ad.off + 3, none⟩ = some (.slice A3 (rd_T24 xs 0).f3.length c3) ∧ (rd_T24 xs 0).f3.length ≤ c3 ∧ k24.C w A3 (rd_T24 xs 0).f3.length (rd_T24 xs 0).f3 := by
  obtain ⟨ad, D, q, e, q0, q1, q2, q3, l3, f3⟩ := at_T24 h 0 (by omega) (by omega)
  have e0 : ad.add ((0 : Int).toNat * 4) = ad := by rw [show ((0 : Int)).toNat = 0 from rfl, show 0 * 4 = 0 from rfl, Addr.add_zero']
  rw [e0] at q0 q1 q2 q3
  exact ⟨ad, D, q, e, q0, q1, q2, q3, l3, f3⟩
/-- What layout.Size tells of a type. -/
def SizeC (l : List S51) (A : Option Addr) (c : Nat) (u : S24) : Prop :=
  ∀ (D : Option Addr) (q : Nat) (W : World), k51.C W A l.length l → k24.C W D u.f3.length u.f3 → u.f3.length ≤ q → ∀ s1 s2 s3, sizeS l u = (s1, s2, s3) →
    Calls Try.prog 19 #[.slice A l.length c, .agg #[.int .i64 u.f0, .int .i64 u.f1, .string u.f2, .slice D u.f3.length q]] W fun e w' => e = .returned (.tuple #[.int .i64 s1, .int .i64 s2, .int .i64 s3]) ∧ Below W.heap.size W w'
set_option maxRecDepth 100000 in
set_option maxHeartbeats 2000000 in
theorem array_h (l : List S51) (A : Option Addr) (c : Nat) (k n : Int) (nm : ByteArray) (ts : List S24) (B : Option Addr) (d : Nat) (w : World) (hC : k51.C w A l.length l) (hD : k24.C w B ts.length ts)
    (ih : ts.length = 1 → SizeC l A c (rd_T24 ts 0)) (r1 r2 r3 : Int) (hr : (if ts.length = 1 then (if n < 1 then (0, 0, 3) else arrS n (sizeS l (rd_T24 ts 0))) else (0, 0, 3)) = (r1, r2, r3)) :
    Calls Try.prog 27 #[.slice A l.length c, .agg #[.int .i64 k, .int .i64 n, .string nm, .slice B ts.length d]] w fun e w' => e = .returned (.tuple #[.int .i64 r1, .int .i64 r2, .int .i64 r3]) ∧ Below w.heap.size w w' := by
  have HC := Aside0.mk hC
  have HD := Aside0.mk hD
  clear hC hD
  by_cases h1 : ts.length = 1
  · by_cases hn : n < 1
    · rw [if_pos h1, if_pos hn] at hr
      injection hr with e1 hr
      injection hr with e2 e3
      subst e1 e2 e3
      rw [h1]
      go_enter Try.func27, Try.ntmps27
      go_wp2
      exact bodyPost_ret (results_tmp3 rfl _ _ _) rfl ⟨rfl, (Below.refl _ _).alloc (Nat.le_refl _) _⟩
    · rw [if_pos h1, if_neg hn] at hr
      obtain ⟨ad, D, q, rfl, q0, q1, q2, q3, l3, f3⟩ := at0_T24 HD.out (by omega)
      have hIH := ih h1 D q
      generalize hu : rd_T24 ts 0 = u at q0 q1 q2 q3 l3 f3 hIH hr
      obtain ⟨s1, s2, s3, hs⟩ : ∃ s1 s2 s3, sizeS l u = (s1, s2, s3) := ⟨_, _, _, rfl⟩
      rw [hs] at hr
      have hIH2 : ∀ W, k51.C W A l.length l → k24.C W D u.f3.length u.f3 → u.f3.length ≤ q → Calls Try.prog 19 #[.slice A l.length c, .agg #[.int .i64 u.f0, .int .i64 u.f1, .string u.f2, .slice D u.f3.length q]] W fun e w' => e = .returned (.tuple #[.int .i64 s1, .int .i64 s2, .int .i64 s3]) ∧ Below W.heap.size W w' := fun W a b c => hIH W a b c _ _ _ hs
      have HI := Aside0.mk hIH2
      have HF3 := Aside0.mk f3
      have HL3 := Aside0.mk l3
      have HR := Aside0.mk hr
      clear hIH hIH2 f3 l3 hu hs ih hr
      rw [h1]
      clear h1
      have hn1 : decide (n < 1) = false := decide_eq_false hn
      go_enter Try.func27, Try.ntmps27
      go_upto_region 3 with (fail)
      have HX := Aside0.mk (blk_new w (.cells #[.int .i64 k, .int .i64 n, .string nm, .slice (some ad) 1 d] 24))
      have HB0 := Aside0.mk (below_alloc (Below.refl w.heap.size w) (.cells #[.int .i64 k, .int .i64 n, .string nm, .slice (some ad) 1 d] 24))
      have y0 := pw_cell_below HB0.out q0
      have y1 := pw_cell_below HB0.out q1
      have y2 := pw_cell_below HB0.out q2
      have y3 := pw_cell_below HB0.out q3
      obtain ⟨z0, z1, z2, z3⟩ := cell4 HX.out
      clear q0 q1 q2 q3
      generalize w.alloc (.cells #[.int .i64 k, .int .i64 n, .string nm, .slice (some ad) 1 d] 24) = W0 at HX HB0 y0 y1 y2 y3 z0 z1 z2 z3 ⊢
      generalize hg3 : w.heap.size = g3 at HX z0 z1 z2 z3 ⊢
      clear hg3
      go_upto_block 0 with (go_at_call 19; with_reducible refine (HI.out _ (Kd.C_below HC.out HB0.out) (Kd.C_below HF3.out HB0.out) HL3.out).mono ?_; rintro e1 w1 ⟨rfl, hb⟩; have HB1 := Aside0.mk (below_step HB0.out hb); have HX1 := Aside0.mk (blk_below HX.out hb); clear hb)
      obtain ⟨z0', z1', z2', z3'⟩ := cell4 HX1.out
      clear z0 z1 z2 z3 y0 y1 y2 y3 HX
      by_cases h3 : s3 = 0
      · subst h3
        by_cases hp : 0 < s1
        · have hp1 : decide (0 < s1) = true := decide_eq_true hp
          have hp0 : ¬ s1 = 0 := by omega
          have hpb : (s1 == 0) = false := beq_eq_false_iff_ne.mpr hp0
          have hwd : IntKind.i64.wrap (Int.tdiv 4096 s1) = Int.tdiv 4096 s1 := by
            have h1 : Int.tdiv 4096 s1 = 4096 / s1 := Int.tdiv_eq_ediv_of_nonneg (by omega)
            have h2 : 0 ≤ 4096 / s1 := Int.ediv_nonneg (by omega) (by omega)
            have h3 : 4096 / s1 ≤ 4096 := Int.ediv_le_self _ (by omega)
            rw [h1, IntKind.wrap_i64]
            omega
          by_cases hq : Int.tdiv 4096 s1 < n
          · have hq1 : decide (Int.tdiv 4096 s1 < n) = true := decide_eq_true hq
            have hr := HR.out
            unfold arrS at hr
            rw [if_pos rfl, if_pos hp, if_pos hq] at hr
            injection hr with e1 hr
            injection hr with e2 e3
            subst e1 e2 e3
            go_wp2_with fail
            go_still (by kernel_rfl)
            go_wp2_with fail
            exact bodyPost_ret (results_tmp3 rfl _ _ _) rfl ⟨rfl, below_drew1 HB1.out⟩
          · have hq1 : decide (Int.tdiv 4096 s1 < n) = false := decide_eq_false hq
            have hr := HR.out
            unfold arrS at hr
            rw [if_pos rfl, if_pos hp, if_neg hq] at hr
            injection hr with e1 hr
            injection hr with e2 e3
            subst e1 e2 e3
            go_wp2_with fail
            go_still (by kernel_rfl)
            have z1d := pw_cell_below (below_drew1 (Below.refl w1.heap.size w1)) z1'
            go_wp2_with fail
            exact bodyPost_ret (results_tmp3 rfl _ _ _) rfl ⟨rfl, below_drew1 HB1.out⟩
        · have HP := Aside0.mk (decide_eq_false hp)
          have hr := HR.out
          unfold arrS at hr
          rw [if_pos rfl, if_neg hp] at hr
          injection hr with e1 hr
          injection hr with e2 e3
          subst e1 e2 e3
          clear hp
          go_upto_region 6 with (fail)
          refine wp_region_still_lit rfl (by kernel_rfl) ?_
          iterate 3 (refine wpStill_on (by rfl) (fun K hK => ?_); go_simp; refine hK _ ?_; clear hK K)
          iterate 5 (refine wpStill_off (by simp [Region.wanted, yielded, HP.out]) ?_; simp only [Act.put, List.setIfInBounds_toArray, List.set_cons_zero, List.set_cons_succ])
          (refine wpStill_on (by rfl) (fun K hK => ?_); go_simp; rw [if_neg (of_decide_eq_false HP.out)]; refine hK _ ?_; clear hK K)
          (refine wpStill_on (by rfl) (fun K hK => ?_); go_simp; refine hK _ ?_; clear hK K)
          refine wpStill_nil ?_
          change Exit.then _ _ _ _ w1.drew
          have z1d := pw_cell_below (below_drew1 (Below.refl w1.heap.size w1)) z1'
          go_wp2_with fail
          exact bodyPost_ret (results_tmp3 rfl _ _ _) rfl ⟨rfl, below_drew1 HB1.out⟩
      · have h3b : (s3 == 0) = false := beq_eq_false_iff_ne.mpr h3
        have hr := HR.out
        unfold arrS at hr
        rw [if_neg h3] at hr
        injection hr with e1 hr
        injection hr with e2 e3
        subst e1 e2 e3
        go_wp2_with fail
        exact bodyPost_ret (results_tmp3 rfl _ _ _) rfl ⟨rfl, HB1.out⟩
  · rw [if_neg h1] at hr
    injection hr with e1 hr
    injection hr with e2 e3
    subst e1 e2 e3
    have b1 : (ts.length == 1) = false := beq_eq_false_iff_ne.mpr h1
    have b2 : ((ts.length : Int) == 1) = false := beq_eq_false_iff_ne.mpr (by omega)
    have b3 : ¬ ((ts.length : Int) = 1) := by omega
    clear ih
    go_enter Try.func27, Try.ntmps27
    go_wp2
    exact bodyPost_ret (results_tmp3 rfl _ _ _) rfl ⟨rfl, (Below.refl _ _).alloc (Nat.le_refl _) _⟩
set_option maxRecDepth 100000 in
set_option maxHeartbeats 2000000 in
theorem size_step (l : List S51) (A : Option Addr) (c : Nat) (hl : l.length ≤ c) (u : S24) (ih : u.f3.length = 1 → SizeC l A c (rd_T24 u.f3 0)) : SizeC l A c u := by
  intro D q W hC hD hq r1 r2 r3 hr
  have HC := Aside0.mk hC
  have HD := Aside0.mk hD
  have HQ := Aside0.mk hq
  have HL := Aside0.mk hl
  have IH := Aside0.mk ih
  clear hC hD hq hl ih
  unfold sizeS at hr
  have hX := blk_new W (.cells #[.int .i64 u.f0, .int .i64 u.f1, .string u.f2, .slice D u.f3.length q] 24)
  have HX := Aside0.mk hX
  have HB0 := Aside0.mk (below_alloc (Below.refl W.heap.size W) (.cells #[.int .i64 u.f0, .int .i64 u.f1, .string u.f2, .slice D u.f3.length q] 24))
  clear hX
  by_cases hk : u.f0 = 7 ∨ u.f0 = 8
  · rw [if_pos hk] at hr
    obtain ⟨b7, b8, hb7, hb8, hbb⟩ : ∃ b7 b8, (u.f0 == 7) = b7 ∧ (u.f0 == 8) = b8 ∧ (b7 = true ∨ (b7 = false ∧ b8 = true)) := by
      rcases hk with h | h
      · exact ⟨_, _, rfl, rfl, .inl (beq_iff_eq.mpr h)⟩
      · exact ⟨_, _, rfl, rfl, .inr ⟨beq_eq_false_iff_ne.mpr (by omega), beq_iff_eq.mpr h⟩⟩
    clear hk
    obtain ⟨rr, hrr⟩ : ∃ rr, findR l u.f0 u.f2 = rr := ⟨_, rfl⟩
    have HRR := Aside0.mk hrr
    rw [hrr] at hr
    clear hrr
    have hrec : ∀ W, k51.C W A l.length l → ∀ (B : Option Addr) (m d : Nat), Calls Try.prog 26 #[.slice A l.length c, .agg #[.int .i64 u.f0, .int .i64 u.f1, .string u.f2, .slice B m d]] W fun e w' => ∃ (x0 x1 : Int) (x2 : ByteArray) (A3 : Option Addr) (n3 c3 : Nat) (A6 : Option Addr) (n6 c6 : Nat), e = .returned (.tuple #[.agg #[.int .i64 x0, .int .i64 x1, .string x2, .slice A3 n3 c3, .int .i64 (rr.getD z51).f1, .int .i64 (rr.getD z51).f2, .slice A6 n6 c6], .bool rr.isSome]) ∧ Below W.heap.size W w' := fun W h B m d => record_c l A c u.f0 u.f1 u.f2 B m d W HL.out h rr HRR.out
    have HREC := Aside0.mk hrec
    clear hrec HRR
    cases rr with
    | none =>
      injection hr with e1 hr
      injection hr with e2 e3
      subst e1 e2 e3
      have fin : ∀ b7 b8, (u.f0 == 7) = b7 → (u.f0 == 8) = b8 → (b7 = true ∨ (b7 = false ∧ b8 = true)) → Calls Try.prog 19 #[.slice A l.length c, .agg #[.int .i64 u.f0, .int .i64 u.f1, .string u.f2, .slice D u.f3.length q]] W fun e w' => e = .returned (.tuple #[.int .i64 0, .int .i64 0, .int .i64 7]) ∧ Below W.heap.size W w' := by
        clear hb7 hb8 hbb b7 b8
        intro b7 b8 hb7 hb8 hbb
        rcases hbb with rfl | ⟨rfl, rfl⟩
        all_goals
          go_enter Try.func19, Try.ntmps19
          go_upto_region 1 with (fail)
          obtain ⟨z0, z1, z2, z3⟩ := cell4 HX.out
          generalize W.alloc (.cells #[.int .i64 u.f0, .int .i64 u.f1, .string u.f2, .slice D u.f3.length q] 24) = W0 at HB0 HX z0 z1 z2 z3 ⊢
          generalize hg3 : W.heap.size = g3 at HX z0 z1 z2 z3 ⊢
          clear hg3
          go_wp2_with (go_at_call 26; with_reducible refine (HREC.out _ (Kd.C_below HC.out HB0.out) _ _ _).mono ?_; rintro e1 w1 ⟨x0, x1, x2, A3, n3, c3, A6, n6, c6, rfl, hb⟩; have HB1 := Aside0.mk (below_step HB0.out hb); clear hb)
          exact bodyPost_ret (results_tmp3 rfl _ _ _) rfl ⟨rfl, below_alloc HB1.out _⟩
      exact fin b7 b8 hb7 hb8 hbb
    | some rc =>
      injection hr with e1 hr
      injection hr with e2 e3
      subst e1 e2 e3
      have fin : ∀ b7 b8, (u.f0 == 7) = b7 → (u.f0 == 8) = b8 → (b7 = true ∨ (b7 = false ∧ b8 = true)) → Calls Try.prog 19 #[.slice A l.length c, .agg #[.int .i64 u.f0, .int .i64 u.f1, .string u.f2, .slice D u.f3.length q]] W fun e w' => e = .returned (.tuple #[.int .i64 rc.f1, .int .i64 rc.f2, .int .i64 0]) ∧ Below W.heap.size W w' := by
        clear hb7 hb8 hbb b7 b8
        intro b7 b8 hb7 hb8 hbb
        rcases hbb with rfl | ⟨rfl, rfl⟩
        all_goals
          go_enter Try.func19, Try.ntmps19
          go_upto_region 1 with (fail)
          obtain ⟨z0, z1, z2, z3⟩ := cell4 HX.out
          generalize W.alloc (.cells #[.int .i64 u.f0, .int .i64 u.f1, .string u.f2, .slice D u.f3.length q] 24) = W0 at HB0 HX z0 z1 z2 z3 ⊢
          generalize hg3 : W.heap.size = g3 at HX z0 z1 z2 z3 ⊢
          clear hg3
          go_upto_region 5 with (go_at_call 26; with_reducible refine (HREC.out _ (Kd.C_below HC.out HB0.out) _ _ _).mono ?_; rintro e1 w1 ⟨x0, x1, x2, A3, n3, c3, A6, n6, c6, rfl, hb⟩; have HB1 := Aside0.mk (below_step HB0.out hb); clear hb)
          have HB2 := Aside0.mk (below_alloc HB1.out (.cells #[.int .i64 x0, .int .i64 x1, .string x2, .slice A3 n3 c3, .int .i64 rc.f1, .int .i64 rc.f2, .slice A6 n6 c6] 51))
          have hX7 := blk_new w1 (.cells #[.int .i64 x0, .int .i64 x1, .string x2, .slice A3 n3 c3, .int .i64 rc.f1, .int .i64 rc.f2, .slice A6 n6 c6] 51)
          generalize w1.alloc (.cells #[.int .i64 x0, .int .i64 x1, .string x2, .slice A3 n3 c3, .int .i64 rc.f1, .int .i64 rc.f2, .slice A6 n6 c6] 51) = W2 at HB2 hX7 ⊢
          generalize hg7 : w1.heap.size = g7 at hX7 ⊢
          have y4 : W2.cell? ⟨g7, 4, none⟩ = some (.int .i64 rc.f1) := (blk_cell hX7 4).trans rfl
          have y5 : W2.cell? ⟨g7, 5, none⟩ = some (.int .i64 rc.f2) := (blk_cell hX7 5).trans rfl
          clear hg7 hX7 z0 z1 z2 z3 HX
          go_wp2_with fail
          go_still (by kernel_rfl)
          go_wp2_with fail
          exact bodyPost_ret (results_tmp3 rfl _ _ _) rfl ⟨rfl, below_drew1 HB2.out⟩
      exact fin b7 b8 hb7 hb8 hbb
  · rw [if_neg hk] at hr
    have hb7 : (u.f0 == 7) = false := beq_eq_false_iff_ne.mpr (by omega)
    have hb8 : (u.f0 == 8) = false := beq_eq_false_iff_ne.mpr (by omega)
    clear hk
    by_cases h6 : u.f0 = 6
    · rw [if_pos h6] at hr
      have hb6 : (u.f0 == 6) = true := beq_iff_eq.mpr h6
      clear h6
      have harr : ∀ W2, Below W.heap.size W W2 → Calls Try.prog 27 #[.slice A l.length c, .agg #[.int .i64 u.f0, .int .i64 u.f1, .string u.f2, .slice D u.f3.length q]] W2 fun e w' => e = .returned (.tuple #[.int .i64 r1, .int .i64 r2, .int .i64 r3]) ∧ Below W2.heap.size W2 w' := fun W2 hb =>
        array_h l A c u.f0 u.f1 u.f2 u.f3 D q W2 (Kd.C_below HC.out hb) (Kd.C_below HD.out hb) IH.out r1 r2 r3 (by rw [← hr]; split <;> rfl)
      have HARR := Aside0.mk harr
      clear harr hr
      go_enter Try.func19, Try.ntmps19
      go_upto_region 1 with (fail)
      obtain ⟨z0, z1, z2, z3⟩ := cell4 HX.out
      generalize W.alloc (.cells #[.int .i64 u.f0, .int .i64 u.f1, .string u.f2, .slice D u.f3.length q] 24) = W0 at HB0 HX z0 z1 z2 z3 ⊢
      generalize hg3 : W.heap.size = g3 at HX z0 z1 z2 z3 ⊢
      clear hg3
      go_wp2_with (go_at_call 27; with_reducible refine (HARR.out _ HB0.out).mono ?_; rintro e1 w1 ⟨rfl, hb⟩; have HB1 := Aside0.mk (below_step HB0.out hb); clear hb)
      exact bodyPost_ret (results_tmp3 rfl _ _ _) rfl ⟨rfl, HB1.out⟩
    · rw [if_neg h6] at hr
      have hb6 : (u.f0 == 6) = false := beq_eq_false_iff_ne.mpr h6
      clear h6
      obtain ⟨wd, hwd⟩ : ∃ wd, widthT u.f0 = wd := ⟨_, rfl⟩
      have HWD := Aside0.mk hwd
      rw [hwd] at hr
      clear hwd
      have hw : ∀ W2 : World, Calls Try.prog 28 #[.agg #[.int .i64 u.f0, .int .i64 u.f1, .string u.f2, .slice D u.f3.length q]] W2 fun e w' => e = .returned (.int .i64 wd) ∧ Below W2.heap.size W2 w' := fun W2 => by
        rw [← HWD.out]
        exact width_c _ _ _ _ _ _ _
      have HW := Aside0.mk hw
      clear hw HWD
      by_cases hz : wd = 0
      · rw [if_pos hz] at hr
        injection hr with e1 hr
        injection hr with e2 e3
        subst e1 e2 e3 hz
        go_enter Try.func19, Try.ntmps19
        go_upto_region 1 with (fail)
        obtain ⟨z0, z1, z2, z3⟩ := cell4 HX.out
        generalize W.alloc (.cells #[.int .i64 u.f0, .int .i64 u.f1, .string u.f2, .slice D u.f3.length q] 24) = W0 at HB0 HX z0 z1 z2 z3 ⊢
        generalize hg3 : W.heap.size = g3 at HX z0 z1 z2 z3 ⊢
        clear hg3
        go_wp2_with (go_at_call 28; with_reducible refine (HW.out _).mono ?_; rintro e1 w1 ⟨rfl, hb⟩; have HB1 := Aside0.mk (below_step HB0.out hb); clear hb)
        exact bodyPost_ret (results_tmp3 rfl _ _ _) rfl ⟨rfl, HB1.out⟩
      · rw [if_neg hz] at hr
        have hzb : (wd == 0) = false := beq_eq_false_iff_ne.mpr hz
        injection hr with e1 hr
        injection hr with e2 e3
        subst e1 e2 e3
        clear hz
        go_enter Try.func19, Try.ntmps19
        go_upto_region 1 with (fail)
        obtain ⟨z0, z1, z2, z3⟩ := cell4 HX.out
        generalize W.alloc (.cells #[.int .i64 u.f0, .int .i64 u.f1, .string u.f2, .slice D u.f3.length q] 24) = W0 at HB0 HX z0 z1 z2 z3 ⊢
        generalize hg3 : W.heap.size = g3 at HX z0 z1 z2 z3 ⊢
        clear hg3
        go_wp2_with (go_at_call 28; with_reducible refine (HW.out _).mono ?_; rintro e1 w1 ⟨rfl, hb⟩; have HB1 := Aside0.mk (below_step HB0.out hb); clear hb)
        exact bodyPost_ret (results_tmp3 rfl _ _ _) rfl ⟨rfl, HB1.out⟩
theorem size_c (l : List S51) (A : Option Addr) (c : Nat) (hl : l.length ≤ c) : ∀ (n : Nat) (u : S24), SizeOf.sizeOf u ≤ n → SizeC l A c u
  | 0, u, h => absurd h (by cases u; simp)
  | n + 1, u, h => size_step l A c hl u (fun h1 => size_c l A c hl n _ (by have := rd_size u 0 (by omega); have e : rd_T24 u.f3 ((0 : Nat) : Int) = rd_T24 u.f3 0 := rfl; rw [e] at this; omega))
end Go.Proofs.Ytndcnhbcconbcaa.G
