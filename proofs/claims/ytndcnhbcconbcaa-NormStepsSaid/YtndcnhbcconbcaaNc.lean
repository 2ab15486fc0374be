/- norm.norm as a plain function. The arguments read as types and records. -/
import Derived.Test.YtndcnhbcconbcaaNb
import Derived.Deep.RegionHeld3
set_option linter.unusedVariables false
set_option linter.unusedSimpArgs false
namespace Go.Proofs.Ytndcnhbcconbcaa.G
open Go.RowKit Go.Proofs.Ytndcnhbcconbcaa.B Go.Proofs.YtndcnhbcconbcaaW.PrintWords Go.Proofs.YtndcnhbcconbcaaW.PrintLast Go.Proofs.YtndcnhbcconbcaaW.PrintMore

/-- Is a place within a field? -/
def isFld (l : List S51) (off : Int) (f : S72) : Bool := decide (f.f2 ≤ off) && decide (off < wrap64 (f.f2 + (sizeS l f.f1).1))
/-- The normal place of a place ahead of a type's end, in so many steps. -/
def normF : Nat → List S51 → S24 → Int → Option Int
  | 0, _, _, _ => none
  | k + 1, l, t, off =>
    if t.f0 = 6 then (if t.f3.length = 0 then none else if 0 < (sizeS l (rd_T24 t.f3 0)).1 then normF k l (rd_T24 t.f3 0) (Int.tmod off (sizeS l (rd_T24 t.f3 0)).1) else some off)
    else if t.f0 = 7 then (match l.find? (isRec t.f0 t.f2) with
      | none => some off
      | some r => match r.f3.find? (isFld l off) with
        | none => some off
        | some f => (normF k l f.f1 (wrap64 (off - f.f2))).map (fun a => wrap64 (f.f2 + a)))
    else some off
theorem emod_le' {x n : Int} (hx : 0 ≤ x) (hn : 0 < n) : x % n ≤ x := by
  have h1 := Int.emod_def x n
  have h2 := Int.mul_nonneg (Int.le_of_lt hn) (Int.ediv_nonneg hx (Int.le_of_lt hn))
  omega
def I64 (x : Int) : Prop := -9223372036854775808 ≤ x ∧ x ≤ 9223372036854775807
/-- What norm.norm tells in so many steps. -/
def NormC (l : List S51) (A : Option Addr) (c : Nat) (k : Nat) : Prop :=
  ∀ (u : S24) (off r : Int) (D : Option Addr) (q : Nat) (W : World), I64 off → k51.C W A l.length l → k24.C W D u.f3.length u.f3 → u.f3.length ≤ q → normF k l u off = some r →
    Calls Try.prog 22 #[.slice A l.length c, .agg #[.int .i64 u.f0, .int .i64 u.f1, .string u.f2, .slice D u.f3.length q], .int .i64 off] W fun e w' => e = .returned (.int .i64 r) ∧ Below W.heap.size W w'
theorem fld_next {l : List S51} {off : Int} {fs : List S72} {i : Nat} (hi : i < fs.length) : (fs.drop i).find? (isFld l off) = if isFld l off (rd_T72 fs i) then some (rd_T72 fs i) else (fs.drop (i + 1)).find? (isFld l off) := by
  have e : rd_T72 fs i = fs[i] := by
    unfold rd_T72
    rw [Int.toNat_natCast, List.getD_eq_getElem?_getD, List.getElem?_eq_getElem hi]
    rfl
  rw [e, List.drop_eq_getElem_cons hi, List.find?_cons]
  cases isFld l off fs[i] <;> rfl
set_option maxRecDepth 100000 in
set_option maxHeartbeats 2000000 in
theorem norm_arr (l : List S51) (A : Option Addr) (c : Nat) (hl : l.length ≤ c) (k : Nat) (ih : NormC l A c k) (u : S24) (hk : u.f0 = 6) (off r : Int) (D : Option Addr) (q : Nat) (W : World) (ho : I64 off) (hC : k51.C W A l.length l) (hD : k24.C W D u.f3.length u.f3) (hq : u.f3.length ≤ q) (hr : normF (k + 1) l u off = some r) :
    Calls Try.prog 22 #[.slice A l.length c, .agg #[.int .i64 u.f0, .int .i64 u.f1, .string u.f2, .slice D u.f3.length q], .int .i64 off] W fun e w' => e = .returned (.int .i64 r) ∧ Below W.heap.size W w' := by
  unfold normF at hr
  rw [if_pos hk] at hr
  by_cases h0 : u.f3.length = 0
  · rw [if_pos h0] at hr; cases hr
  rw [if_neg h0] at hr
  have HC := Aside0.mk hC
  have HD := Aside0.mk hD
  have HQ := Aside0.mk hq
  have HL := Aside0.mk hl
  have IH := Aside0.mk ih
  have HO := Aside0.mk ho
  obtain ⟨ad, D3, q3, rfl, q0, q1, q2, q3', l3, f3⟩ := at0_T24 hD (by omega)
  have hsz := size_c l A c hl _ (rd_T24 u.f3 0) (Nat.le_refl _)
  generalize hu : rd_T24 u.f3 0 = v at q0 q1 q2 q3' l3 f3 hr hsz
  obtain ⟨s1, s2, s3, hs⟩ : ∃ s1 s2 s3, sizeS l v = (s1, s2, s3) := ⟨_, _, _, rfl⟩
  rw [hs] at hr
  have hS : ∀ W, k51.C W A l.length l → k24.C W D3 v.f3.length v.f3 → Calls Try.prog 19 #[.slice A l.length c, .agg #[.int .i64 v.f0, .int .i64 v.f1, .string v.f2, .slice D3 v.f3.length q3]] W fun e w' => e = .returned (.tuple #[.int .i64 s1, .int .i64 s2, .int .i64 s3]) ∧ Below W.heap.size W w' := fun W a b => hsz D3 q3 W a b l3 _ _ _ hs
  have HS := Aside0.mk hS
  have HF3 := Aside0.mk f3
  have HL3 := Aside0.mk l3
  have HR := Aside0.mk hr
  have hkb : (u.f0 == 6) = true := beq_iff_eq.mpr hk
  have hlen : ((u.f3.length : Int) == 0) = false := beq_eq_false_iff_ne.mpr (by omega)
  have hlen1 : 0 < u.f3.length := by omega
  have HX := Aside0.mk (blk_new W (.cells #[.int .i64 u.f0, .int .i64 u.f1, .string u.f2, .slice (some ad) u.f3.length q] 24))
  have HB0 := Aside0.mk (below_alloc (Below.refl W.heap.size W) (.cells #[.int .i64 u.f0, .int .i64 u.f1, .string u.f2, .slice (some ad) u.f3.length q] 24))
  have HE : Aside0 (∀ W2, Below W.heap.size W W2 → W2.cell? ad = some (.int .i64 v.f0) ∧ W2.cell? ⟨ad.block, ad.off + 1, none⟩ = some (.int .i64 v.f1) ∧ W2.cell? ⟨ad.block, ad.off + 2, none⟩ = some (.string v.f2) ∧ W2.cell? ⟨ad.block, ad.off + 3, none⟩ = some (.slice D3 v.f3.length q3)) := Aside0.mk (fun W2 hb => ⟨pw_cell_below hb q0, pw_cell_below hb q1, pw_cell_below hb q2, pw_cell_below hb q3'⟩)
  clear hC hD hq hl ih ho hsz hS hs hu hr hk f3 l3 q0 q1 q2 q3' h0
  go_enter Try.func22, Try.ntmps22
  go_upto_region 1 with (fail)
  generalize W.alloc (.cells #[.int .i64 u.f0, .int .i64 u.f1, .string u.f2, .slice (some ad) u.f3.length q] 24) = W0 at HB0 HX ⊢
  generalize hg4 : W.heap.size = g4 at HX ⊢
  clear hg4
  obtain ⟨z0, z1, z2, z3⟩ := cell4 HX.out
  obtain ⟨y0, y1, y2, y3⟩ := HE.out W0 HB0.out
  go_upto_region 4 with (go_at_call 19; with_reducible refine (HS.out _ (Kd.C_below HC.out HB0.out) (Kd.C_below HF3.out HB0.out)).mono ?_; rintro e1 w1 ⟨rfl, hb⟩; have HB1 := Aside0.mk (below_step HB0.out hb); have HX1 := Aside0.mk (blk_below HX.out hb); clear hb)
  clear z0 z1 z2 z3 y0 y1 y2 y3 HX
  by_cases hp : 0 < s1
  · have hr := HR.out
    rw [if_pos hp] at hr
    have hp1 : decide (0 < s1) = true := decide_eq_true hp
    have hp0 : ¬ s1 = 0 := by omega
    have hpb : (s1 == 0) = false := beq_eq_false_iff_ne.mpr hp0
    obtain ⟨m, hm⟩ : ∃ m, Int.tmod off s1 = m := ⟨_, rfl⟩
    have hmb : I64 m := by
      rw [← hm]
      have h1 := Int.tmod_lt_of_pos off hp
      have h2 := HO.out
      unfold I64 at h2 ⊢
      rcases Int.le_total 0 off with h3 | h3
      · have h4 := Int.tmod_nonneg s1 h3
        have h5 : Int.tmod off s1 ≤ off := by rw [Int.tmod_eq_emod_of_nonneg h3]; exact emod_le' h3 hp
        omega
      · have h4 : -off ≥ 0 := by omega
        have h5 : Int.tmod off s1 = -(Int.tmod (-off) s1) := by rw [Int.neg_tmod, Int.neg_neg]
        have h6 := Int.tmod_nonneg s1 h4
        have h7 : Int.tmod (-off) s1 ≤ -off := by rw [Int.tmod_eq_emod_of_nonneg h4]; exact emod_le' h4 hp
        omega
    have hwm : IntKind.i64.wrap m = m := by unfold I64 at hmb; rw [IntKind.wrap_i64]; omega
    rw [hm] at hr
    have hI : ∀ W, k51.C W A l.length l → k24.C W D3 v.f3.length v.f3 → Calls Try.prog 22 #[.slice A l.length c, .agg #[.int .i64 v.f0, .int .i64 v.f1, .string v.f2, .slice D3 v.f3.length q3], .int .i64 m] W fun e w' => e = .returned (.int .i64 r) ∧ Below W.heap.size W w' := fun W a b => IH.out v m r D3 q3 W hmb a b HL3.out hr
    have HI := Aside0.mk hI
    clear hI hr hmb
    have HSS := Aside0.mk (show ∀ W2 : World, Below w1.heap.size w1 W2 → ((W2.cell? ⟨g4, 0, none⟩ = some (.int .i64 u.f0) ∧ W2.cell? ⟨g4, 1, none⟩ = some (.int .i64 u.f1) ∧ W2.cell? ⟨g4, 2, none⟩ = some (.string u.f2) ∧ W2.cell? ⟨g4, 3, none⟩ = some (.slice (some ad) u.f3.length q)) ∧ (W2.cell? ad = some (.int .i64 v.f0) ∧ W2.cell? ⟨ad.block, ad.off + 1, none⟩ = some (.int .i64 v.f1) ∧ W2.cell? ⟨ad.block, ad.off + 2, none⟩ = some (.string v.f2) ∧ W2.cell? ⟨ad.block, ad.off + 3, none⟩ = some (.slice D3 v.f3.length q3)) ∧ Below w1.heap.size w1 W2) from fun W2 hb => ⟨cell4 (blk_below HX1.out hb), HE.out W2 (below_step HB1.out hb), hb⟩)
    have HQQ := Aside0.mk (show ∀ W2 : World, ((W2.cell? ⟨g4, 0, none⟩ = some (.int .i64 u.f0) ∧ W2.cell? ⟨g4, 1, none⟩ = some (.int .i64 u.f1) ∧ W2.cell? ⟨g4, 2, none⟩ = some (.string u.f2) ∧ W2.cell? ⟨g4, 3, none⟩ = some (.slice (some ad) u.f3.length q)) ∧ (W2.cell? ad = some (.int .i64 v.f0) ∧ W2.cell? ⟨ad.block, ad.off + 1, none⟩ = some (.int .i64 v.f1) ∧ W2.cell? ⟨ad.block, ad.off + 2, none⟩ = some (.string v.f2) ∧ W2.cell? ⟨ad.block, ad.off + 3, none⟩ = some (.slice D3 v.f3.length q3)) ∧ Below w1.heap.size w1 W2) → Below w1.heap.size w1 W2 from fun _ h => h.2.2)
    have HD1 := Aside0.mk (HSS.out _ (below_drew (Below.refl w1.heap.size w1)))
    go_upto_region 5 with (fail)
    refine wp_region_held_drew (S := fun w' => ((w'.cell? ⟨g4, 0, none⟩ = some (.int .i64 u.f0) ∧ w'.cell? ⟨g4, 1, none⟩ = some (.int .i64 u.f1) ∧ w'.cell? ⟨g4, 2, none⟩ = some (.string u.f2) ∧ w'.cell? ⟨g4, 3, none⟩ = some (.slice (some ad) u.f3.length q)) ∧ (w'.cell? ad = some (.int .i64 v.f0) ∧ w'.cell? ⟨ad.block, ad.off + 1, none⟩ = some (.int .i64 v.f1) ∧ w'.cell? ⟨ad.block, ad.off + 2, none⟩ = some (.string v.f2) ∧ w'.cell? ⟨ad.block, ad.off + 3, none⟩ = some (.slice D3 v.f3.length q3)) ∧ Below w1.heap.size w1 w')) (by kernel_rfl) HD1.out (fun hHeld => ?_)
    refine wpAnyH_take (i := 0) (oi := { dst := (some 33), op := (Op.move (Operand.tmp 0)), type := 26, pos := "norm.go:16", after := #[], guard := none }) (v := ?_) rfl (by kernel_rfl) (by kernel_rfl) (by kernel_rfl) (fun _ _ _ h => h) (Or.inl ⟨by rfl, ?_⟩) hHeld ?_
    rotate_left
    · intro w hSw; (try dsimp only at hSw); go_simp; try with_reducible rfl
    try simp only [Act.put, List.setIfInBounds_toArray, List.set_cons_zero, List.set_cons_succ]
    refine wpAnyH_take (i := 1) (oi := { dst := (some 34), op := (Op.fieldAddr 24 (Operand.tmp 4) 3), type := 0, pos := "norm.go:16", after := #[], guard := none }) (v := ?_) rfl (by kernel_rfl) (by kernel_rfl) (by kernel_rfl) (fun _ _ _ h => h) (Or.inl ⟨by rfl, ?_⟩) hHeld ?_
    rotate_left
    · intro w hSw; (try dsimp only at hSw); go_simp; try with_reducible rfl
    try simp only [Act.put, List.setIfInBounds_toArray, List.set_cons_zero, List.set_cons_succ]
    refine wpAnyH_take (i := 2) (oi := { dst := (some 35), op := (Op.load 22 (Operand.tmp 34)), type := 22, pos := "norm.go:16", after := #[{ on := 1, ground := Ground.data }], guard := none }) (v := ?_) rfl (by kernel_rfl) (by kernel_rfl) (by kernel_rfl) (fun _ _ _ h => h) (Or.inl ⟨by rfl, ?_⟩) hHeld ?_
    rotate_left
    · intro w hSw; (try dsimp only at hSw); go_simp; try with_reducible rfl
    try simp only [Act.put, List.setIfInBounds_toArray, List.set_cons_zero, List.set_cons_succ]
    refine wpAnyH_take (i := 3) (oi := { dst := (some 36), op := (Op.indexAddr 22 (Operand.tmp 35) (Operand.const (Value.int IntKind.i64 0))), type := 0, pos := "norm.go:16", after := #[{ on := 2, ground := Ground.data }], guard := none }) (v := ?_) rfl (by kernel_rfl) (by kernel_rfl) (by kernel_rfl) (fun _ _ _ h => h) (Or.inl ⟨by rfl, ?_⟩) hHeld ?_
    rotate_left
    · intro w hSw; (try dsimp only at hSw); go_simp; try with_reducible rfl
    try simp only [Act.put, List.setIfInBounds_toArray, List.set_cons_zero, List.set_cons_succ]
    refine wpAnyH_take (i := 4) (oi := { dst := (some 37), op := (Op.load 24 (Operand.tmp 36)), type := 24, pos := "norm.go:16", after := #[{ on := 3, ground := Ground.data }], guard := none }) (v := ?_) rfl (by kernel_rfl) (by kernel_rfl) (by kernel_rfl) (fun _ _ _ h => h) (Or.inl ⟨by rfl, ?_⟩) hHeld ?_
    rotate_left
    · intro w hSw; (try dsimp only at hSw); go_simp; try with_reducible rfl
    try simp only [Act.put, List.setIfInBounds_toArray, List.set_cons_zero, List.set_cons_succ]
    refine wpAnyH_take (i := 5) (oi := { dst := (some 38), op := (Op.move (Operand.tmp 2)), type := 3, pos := "norm.go:16", after := #[], guard := none }) (v := ?_) rfl (by kernel_rfl) (by kernel_rfl) (by kernel_rfl) (fun _ _ _ h => h) (Or.inl ⟨by rfl, ?_⟩) hHeld ?_
    rotate_left
    · intro w hSw; (try dsimp only at hSw); go_simp; try with_reducible rfl
    try simp only [Act.put, List.setIfInBounds_toArray, List.set_cons_zero, List.set_cons_succ]
    refine wpAnyH_take (i := 6) (oi := { dst := (some 39), op := (Op.move (Operand.tmp 7)), type := 3, pos := "norm.go:16", after := #[], guard := none }) (v := ?_) rfl (by kernel_rfl) (by kernel_rfl) (by kernel_rfl) (fun _ _ _ h => h) (Or.inl ⟨by rfl, ?_⟩) hHeld ?_
    rotate_left
    · intro w hSw; (try dsimp only at hSw); go_simp; try with_reducible rfl
    try simp only [Act.put, List.setIfInBounds_toArray, List.set_cons_zero, List.set_cons_succ]
    refine wpAnyH_take (i := 7) (oi := { dst := (some 40), op := (Op.binOp BinOp.rem 3 (Operand.tmp 38) (Operand.tmp 39) 3), type := 3, pos := "norm.go:16", after := #[{ on := 5, ground := Ground.data }, { on := 6, ground := Ground.data }], guard := none }) (v := ?_) rfl (by kernel_rfl) (by kernel_rfl) (by kernel_rfl) (fun _ _ _ h => h) (Or.inl ⟨by rfl, ?_⟩) hHeld ?_
    rotate_left
    · intro w hSw; (try dsimp only at hSw); go_simp; try with_reducible rfl
    try simp only [Act.put, List.setIfInBounds_toArray, List.set_cons_zero, List.set_cons_succ]
    refine wpAnyH_ready (rs := [8]) (by kernel_rfl) (by simp) ?_
    refine AllReadyH.cons (o := { dst := (some 41), op := (Op.call { callee := (Callee.value (Operand.func 22)), args := #[(Operand.tmp 33), (Operand.tmp 37), (Operand.tmp 40)], argTypes := #[26, 24, 3] }), type := 3, pos := "norm.go:16", after := #[{ on := 0, ground := Ground.data }, { on := 4, ground := Ground.data }, { on := 7, ground := Ground.data }], guard := none }) rfl (fun K hK => ?_) AllReadyH.nil
    go_simp
    (with_reducible refine (HI.out _ (Kd.C_below (Kd.C_below HC.out HB1.out) (HQQ.out _ hHeld)) (Kd.C_below (Kd.C_below HF3.out HB1.out) (HQQ.out _ hHeld))).mono ?_; rintro e w2 ⟨rfl, hb2⟩)
    refine hK.out _ _ (HSS.out _ (below_step (HQQ.out _ hHeld) hb2)) (fun hHeld => ?_)
    clear hK K
    try simp only [Act.put, List.setIfInBounds_toArray, List.set_cons_zero, List.set_cons_succ]
    refine wpAnyH_take (i := 9) (oi := { dst := (some 6), op := (Op.assign (Operand.tmp 41)), type := 3, pos := "norm.go:16", after := #[{ on := 8, ground := Ground.data }, { on := 8, ground := Ground.chain }, { on := 0, ground := Ground.phase }, { on := 1, ground := Ground.phase }, { on := 2, ground := Ground.phase }, { on := 3, ground := Ground.phase }, { on := 4, ground := Ground.phase }, { on := 5, ground := Ground.phase }, { on := 6, ground := Ground.phase }, { on := 7, ground := Ground.phase }, { on := 8, ground := Ground.phase }], guard := none }) (v := ?_) rfl (by kernel_rfl) (by kernel_rfl) (by kernel_rfl) (fun _ _ _ h => h) (Or.inl ⟨by rfl, ?_⟩) hHeld ?_
    rotate_left
    · intro w hSw; (try dsimp only at hSw); go_simp; try with_reducible rfl
    try simp only [Act.put, List.setIfInBounds_toArray, List.set_cons_zero, List.set_cons_succ]
    refine wpAnyH_done (by kernel_rfl) ?_ _
    have HBd := Aside0.mk (below_step HB1.out (HQQ.out _ hHeld))
    clear hHeld
    go_wp2_with fail
    go_ret
    exact ⟨rfl, HBd.out⟩
  · have hr := HR.out
    rw [if_neg hp] at hr
    have hp1 : decide (0 < s1) = false := decide_eq_false hp
    injection hr with hr
    subst hr
    go_wp2_with fail
    go_ret
    exact ⟨rfl, HB1.out⟩
set_option maxRecDepth 100000 in
set_option maxHeartbeats 4000000 in
theorem norm_str (l : List S51) (A : Option Addr) (c : Nat) (hl : l.length ≤ c) (k : Nat) (ih : NormC l A c k) (u : S24) (hk : u.f0 = 7) (off r : Int) (D : Option Addr) (q : Nat) (W : World) (ho : I64 off) (hC : k51.C W A l.length l) (hD : k24.C W D u.f3.length u.f3) (hq : u.f3.length ≤ q) (hr : normF (k + 1) l u off = some r) :
    Calls Try.prog 22 #[.slice A l.length c, .agg #[.int .i64 u.f0, .int .i64 u.f1, .string u.f2, .slice D u.f3.length q], .int .i64 off] W fun e w' => e = .returned (.int .i64 r) ∧ Below W.heap.size W w' := by
  unfold normF at hr
  rw [if_neg (by omega), if_pos hk] at hr
  have HC := Aside0.mk hC
  have HL := Aside0.mk hl
  have HM : Aside0 (l.length ≤ maxLen) := Aside0.mk hC.2.1
  have IH := Aside0.mk ih
  have HO := Aside0.mk ho
  obtain ⟨fo, hfo⟩ : ∃ fo, l.find? (isRec u.f0 u.f2) = fo := ⟨_, rfl⟩
  rw [hfo] at hr
  have HFO := Aside0.mk hfo
  have HR := Aside0.mk hr
  have hb7 : (u.f0 == 7) = true := beq_iff_eq.mpr hk
  have hb6 : (u.f0 == 6) = false := beq_eq_false_iff_ne.mpr (by omega)
  have HX := Aside0.mk (blk_new W (.cells #[.int .i64 u.f0, .int .i64 u.f1, .string u.f2, .slice D u.f3.length q] 24))
  have HB0 := Aside0.mk (below_alloc (Below.refl W.heap.size W) (.cells #[.int .i64 u.f0, .int .i64 u.f1, .string u.f2, .slice D u.f3.length q] 24))
  clear hC hD hq hl ih ho hfo hr hk
  go_enter Try.func22, Try.ntmps22
  go_upto_region 1 with (fail)
  generalize W.alloc (.cells #[.int .i64 u.f0, .int .i64 u.f1, .string u.f2, .slice D u.f3.length q] 24) = W0 at HB0 HX ⊢
  generalize hg4 : W.heap.size = g4 at HX ⊢
  clear hg4
  obtain ⟨z0, z1, z2, z3⟩ := cell4 HX.out
  go_wp2_with fail
  clear z0 z1 z2 z3
  go_loopw [46] (fun iv wx => ∃ (i : Nat), i ≤ l.length ∧ iv = .int .i64 (i : Int) ∧ Hid (Below W0.heap.size W0 wx) ∧ Hid ((l.drop i).find? (isRec u.f0 u.f2) = fo)) (fun iv _ => l.length - (intOf iv).toNat)
  case atStart => exact ⟨0, Nat.zero_le _, rfl, Below.refl _ _, HFO.out⟩
  case round =>
    obtain ⟨i, hi, rfl, h1, h2⟩ := hrel
    have HW := Aside0.mk (show Below W0.heap.size W0 wr from h1)
    have HI := Aside0.mk (show (l.drop i).find? (isRec u.f0 u.f2) = fo from h2)
    clear h1 h2
    obtain ⟨z0, z1, z2, z3⟩ := cell4 (blk_below HX.out HW.out)
    have ltg : g4 < wr.heap.size := blk_lt (blk_below HX.out HW.out)
    by_cases hlt : (i : Int) < (l.length : Int)
    · have hi1 : i < l.length := by omega
      have hi0 : (0 : Int) ≤ (i : Int) := Int.natCast_nonneg i
      have hwi : IntKind.i64.wrap ((i : Int) + 1) = (i : Int) + 1 := by have := HM.out; unfold maxLen at this; rw [IntKind.wrap_i64]; omega
      obtain ⟨ad, A3, c3, A6, c6, eA, q0, q1, q2, q3, q4, q5, q6, l3, f3, l6, f6⟩ := at_T51 (Kd.C_below (Kd.C_below HC.out HB0.out) HW.out) (i : Int) hi0 hlt
      have hn := find_next (k := u.f0) (nm := u.f2) hi1
      have HN := Aside0.mk (hn.symm.trans HI.out)
      clear hn HI l3 f3
      obtain ⟨x, hx⟩ : ∃ x, rd_T51 l (i : Int) = x := ⟨_, rfl⟩
      rw [hx] at q0 q1 q2 q3 q4 q5 q6 f6
      rw [Int.toNat_natCast] at q0 q1 q2 q3 q4 q5 q6
      have HN2 := Aside0.mk (by have := HN.out; rw [hx] at this; exact this)
      have HF6 := Aside0.mk f6
      clear HN hx f6 l6
      subst eA
      obtain ⟨b0, hb0⟩ : ∃ b, (x.f0.f0 == u.f0) = b := ⟨_, rfl⟩
      obtain ⟨b2, hb2⟩ : ∃ b, (x.f0.f2.toList == u.f2.toList) = b := ⟨_, rfl⟩
      have hrec : isRec u.f0 u.f2 x = (b0 && b2) := by unfold isRec; rw [hb0, hb2]
      have HREC := Aside0.mk hrec
      have hb0' : (x.f0.f0 != u.f0) = !b0 := by unfold bne; rw [hb0]
      have hb2' : (x.f0.f2.toList != u.f2.toList) = !b2 := by unfold bne; rw [hb2]
      clear hrec
      cases b0 with
      | false =>
        have hN := HN2.out
        rw [if_neg (by rw [HREC.out]; simp)] at hN
        have HNN := Aside0.mk hN
        clear hN HN2 HREC
        go_wp2
        go_roundw
        case rel => exact ⟨i + 1, by omega, by go_num, HW.out.alloc HW.out.size _, HNN.out⟩
        case measure => simp [intOf]; omega
      | true =>
        cases b2 with
        | false =>
          have hN := HN2.out
          rw [if_neg (by rw [HREC.out]; decide)] at hN
          have HNN := Aside0.mk hN
          clear hN HN2 HREC
          go_wp2
          go_roundw
          case rel => exact ⟨i + 1, by omega, by go_num, HW.out.alloc HW.out.size _, HNN.out⟩
          case measure => simp [intOf]; omega
        | true =>
          have hN := HN2.out
          rw [if_pos (by rw [HREC.out]; rfl)] at hN
          have hR := HR.out
          rw [← hN] at hR
          have HRX := Aside0.mk hR
          clear hN HN2 HREC hR HR
          go_upto_region 11 with (fail)
          have HX11 := Aside0.mk (blk_new wr (.cells #[.int .i64 x.f0.f0, .int .i64 x.f0.f1, .string x.f0.f2, .slice A3 x.f0.f3.length c3, .int .i64 x.f1, .int .i64 x.f2, .slice A6 x.f3.length c6] 51))
          have hba := below_alloc (Below.refl wr.heap.size wr) (.cells #[.int .i64 x.f0.f0, .int .i64 x.f0.f1, .string x.f0.f2, .slice A3 x.f0.f3.length c3, .int .i64 x.f1, .int .i64 x.f2, .slice A6 x.f3.length c6] 51)
          have HB3 := Aside0.mk (below_step (below_step HB0.out HW.out) hba)
          have HX3 := Aside0.mk (blk_below (blk_below HX.out HW.out) hba)
          have HF63 := Aside0.mk (Kd.C_below HF6.out hba)
          have HMF : Aside0 (x.f3.length ≤ maxLen) := Aside0.mk HF6.out.2.1
          clear hba q0 q1 q2 q3 q4 q5 q6 z0 z1 z2 z3 HX HB0 HW HF6 hb0 hb2 hb0' hb2' ltg
          generalize wr.alloc (.cells #[.int .i64 x.f0.f0, .int .i64 x.f0.f1, .string x.f0.f2, .slice A3 x.f0.f3.length c3, .int .i64 x.f1, .int .i64 x.f2, .slice A6 x.f3.length c6] 51) = W3 at HX11 HB3 HX3 HF63 ⊢
          generalize hg11 : wr.heap.size = g11 at HX11 ⊢
          clear hg11
          have q6 : W3.cell? ⟨g11, 6, none⟩ = some (.slice A6 x.f3.length c6) := (blk_cell HX11.out 6).trans rfl
          obtain ⟨gd, hgd⟩ : ∃ gd, x.f3.find? (isFld l off) = gd := ⟨_, rfl⟩
          have HGD := Aside0.mk hgd
          have hR := HRX.out
          simp only [hgd] at hR
          have HR := Aside0.mk hR
          clear hR HRX hgd
          go_upto_block 3 with (fail)
          clear q6
          go_wp2_with fail
          go_loopw [67] (fun iv wx => ∃ (j : Nat), j ≤ x.f3.length ∧ iv = .int .i64 (j : Int) ∧ Hid (Below W3.heap.size W3 wx) ∧ Hid ((x.f3.drop j).find? (isFld l off) = gd)) (fun iv _ => x.f3.length - (intOf iv).toNat)
          case atStart => exact ⟨0, Nat.zero_le _, rfl, Below.refl _ _, HGD.out⟩
          case round =>
            obtain ⟨j, hj, rfl, h1, h2⟩ := hrel
            have HW := Aside0.mk (show Below W3.heap.size W3 wr from h1)
            have HJ := Aside0.mk (show (x.f3.drop j).find? (isFld l off) = gd from h2)
            clear h1 h2
            obtain ⟨z0, z1, z2, z3⟩ := cell4 (blk_below HX3.out HW.out)
            have ltg : g4 < wr.heap.size := blk_lt (blk_below HX3.out HW.out)
            by_cases hltj : (j : Int) < (x.f3.length : Int)
            · have hj1 : j < x.f3.length := by omega
              have hj0 : (0 : Int) ≤ (j : Int) := Int.natCast_nonneg j
              have hwj : IntKind.i64.wrap ((j : Int) + 1) = (j : Int) + 1 := by have := HMF.out; unfold maxLen at this; rw [IntKind.wrap_i64]; omega
              obtain ⟨ae, A4, c4, eE, p0, p1, p2, p3, p4, p5, l4, f4⟩ := at_T72 (Kd.C_below HF63.out HW.out) (j : Int) hj0 hltj
              have hn := fld_next (l := l) (off := off) hj1
              have HN := Aside0.mk (hn.symm.trans HJ.out)
              clear hn HJ
              obtain ⟨y, hy⟩ : ∃ y, rd_T72 x.f3 (j : Int) = y := ⟨_, rfl⟩
              rw [hy] at p0 p1 p2 p3 p4 p5 l4 f4
              rw [Int.toNat_natCast] at p0 p1 p2 p3 p4 p5
              have HN2 := Aside0.mk (by have := HN.out; rw [hy] at this; exact this)
              have HL4 := Aside0.mk l4
              have HF4 := Aside0.mk f4
              clear HN hy l4 f4
              subst eE
              obtain ⟨s1, s2, s3, hs⟩ : ∃ s1 s2 s3, sizeS l y.f1 = (s1, s2, s3) := ⟨_, _, _, rfl⟩
              obtain ⟨b1, hb1⟩ : ∃ b, decide (y.f2 ≤ off) = b := ⟨_, rfl⟩
              obtain ⟨b2, hb2⟩ : ∃ b, decide (off < wrap64 (y.f2 + s1)) = b := ⟨_, rfl⟩
              have hfld : isFld l off y = (b1 && b2) := by unfold isFld; rw [hs, hb1, hb2]
              have HFLD := Aside0.mk hfld
              have HSZ := Aside0.mk (fun W h1 h2 => size_c l (some ad) c HL.out _ y.f1 (Nat.le_refl _) A4 c4 W h1 h2 HL4.out s1 s2 s3 hs)
              clear hfld hs
              go_upto_region 14 with (fail)
              have HX13 := Aside0.mk (blk_new wr (.cells #[.string y.f0, .int .i64 y.f1.f0, .int .i64 y.f1.f1, .string y.f1.f2, .slice A4 y.f1.f3.length c4, .int .i64 y.f2] 72))
              have HBA := Aside0.mk (below_alloc (Below.refl wr.heap.size wr) (.cells #[.string y.f0, .int .i64 y.f1.f0, .int .i64 y.f1.f1, .string y.f1.f2, .slice A4 y.f1.f3.length c4, .int .i64 y.f2] 72))
              clear p0 p1 p2 p3 p4 p5 z0 z1 z2 z3 ltg
              have hcell : ∀ W2, Below (wr.alloc (.cells #[.string y.f0, .int .i64 y.f1.f0, .int .i64 y.f1.f1, .string y.f1.f2, .slice A4 y.f1.f3.length c4, .int .i64 y.f2] 72)).heap.size (wr.alloc (.cells #[.string y.f0, .int .i64 y.f1.f0, .int .i64 y.f1.f1, .string y.f1.f2, .slice A4 y.f1.f3.length c4, .int .i64 y.f2] 72)) W2 → (W2.heap[wr.heap.size]? = some (.cells #[.string y.f0, .int .i64 y.f1.f0, .int .i64 y.f1.f1, .string y.f1.f2, .slice A4 y.f1.f3.length c4, .int .i64 y.f2] 72 (0, 0))) := fun W2 hb => blk_below HX13.out hb
              have HCELL := Aside0.mk hcell
              clear hcell
              have HB4 := Aside0.mk (below_step (below_step HB3.out HW.out) HBA.out)
              have HWA := Aside0.mk (below_step HW.out HBA.out)
              have HF4A := Aside0.mk (Kd.C_below HF4.out HBA.out)
              generalize wr.alloc (.cells #[.string y.f0, .int .i64 y.f1.f0, .int .i64 y.f1.f1, .string y.f1.f2, .slice A4 y.f1.f3.length c4, .int .i64 y.f2] 72) = W4 at HX13 HB4 HWA HCELL HF4A HBA ⊢
              generalize hg13 : wr.heap.size = g13 at HX13 HCELL HBA ⊢
              clear hg13 HBA HF4 HW
              have c1 : W4.cell? ⟨g13, 1, none⟩ = some (.int .i64 y.f1.f0) := (blk_cell HX13.out 1).trans rfl
              have c2 : W4.cell? ⟨g13, 2, none⟩ = some (.int .i64 y.f1.f1) := (blk_cell HX13.out 2).trans rfl
              have c3' : W4.cell? ⟨g13, 3, none⟩ = some (.string y.f1.f2) := (blk_cell HX13.out 3).trans rfl
              have c4' : W4.cell? ⟨g13, 4, none⟩ = some (.slice A4 y.f1.f3.length c4) := (blk_cell HX13.out 4).trans rfl
              go_upto_region 15 with (go_at_call 19; with_reducible refine (HSZ.out _ (Kd.C_below HC.out HB4.out) HF4A.out).mono ?_; rintro e1 w5 ⟨rfl, hb⟩; have HB5 := Aside0.mk (below_step HB4.out hb); have HW5 := Aside0.mk (below_step HWA.out hb); have HX5 := Aside0.mk (HCELL.out _ hb); have HF5 := Aside0.mk (Kd.C_below HF4A.out hb); clear hb)
              clear c1 c2 c3' c4' HCELL HX13 HF4A HWA HB4
              have d5 : w5.cell? ⟨g13, 5, none⟩ = some (.int .i64 y.f2) := (blk_cell HX5.out 5).trans rfl
              cases b1 with
              | false =>
                have hN := HN2.out
                rw [if_neg (by rw [HFLD.out]; simp)] at hN
                have HNN := Aside0.mk hN
                clear hN HN2 HFLD
                go_wp2
                go_roundw
                case rel => exact ⟨j + 1, by omega, by go_num, HW5.out, HNN.out⟩
                case measure => simp [intOf]; omega
              | true =>
                cases b2 with
                | false =>
                  have hN := HN2.out
                  rw [if_neg (by rw [HFLD.out]; decide)] at hN
                  have HNN := Aside0.mk hN
                  clear hN HN2 HFLD
                  go_wp2
                  go_roundw
                  case rel => exact ⟨j + 1, by omega, by go_num, HW5.out, HNN.out⟩
                  case measure => simp [intOf]; omega
                | true =>
                  have hN := HN2.out
                  rw [if_pos (by rw [HFLD.out]; rfl)] at hN
                  have hR := HR.out
                  rw [← hN] at hR
                  obtain ⟨a, ha, hra⟩ := Option.map_eq_some_iff.1 hR
                  have hwb : I64 (wrap64 (off - y.f2)) := by unfold I64 wrap64; omega
                  have hI : ∀ W, k51.C W (some ad) l.length l → k24.C W A4 y.f1.f3.length y.f1.f3 → Calls Try.prog 22 #[.slice (some ad) l.length c, .agg #[.int .i64 y.f1.f0, .int .i64 y.f1.f1, .string y.f1.f2, .slice A4 y.f1.f3.length c4], .int .i64 (wrap64 (off - y.f2))] W fun e w' => e = .returned (.int .i64 a) ∧ Below W.heap.size W w' := fun W h1 h2 => IH.out y.f1 _ a A4 c4 W hwb h1 h2 HL4.out ha
                  rw [show wrap64 (off - y.f2) = IntKind.i64.wrap (off - y.f2) from by unfold wrap64; rw [IntKind.wrap_i64]] at hI
                  have HI := Aside0.mk hI
                  have HRA := Aside0.mk hra
                  clear hN HN2 HFLD hR HR ha hra hI hwb
                  go_upto_region 16 with (fail)
                  have HTS := Aside0.mk (show ∀ W2 : World, Below w5.heap.size w5 W2 → ((W2.cell? ⟨g13, 0, none⟩ = some (.string y.f0) ∧ W2.cell? ⟨g13, 1, none⟩ = some (.int .i64 y.f1.f0) ∧ W2.cell? ⟨g13, 2, none⟩ = some (.int .i64 y.f1.f1) ∧ W2.cell? ⟨g13, 3, none⟩ = some (.string y.f1.f2) ∧ W2.cell? ⟨g13, 4, none⟩ = some (.slice A4 y.f1.f3.length c4) ∧ W2.cell? ⟨g13, 5, none⟩ = some (.int .i64 y.f2)) ∧ Below w5.heap.size w5 W2) from fun W2 hb => ⟨⟨(blk_cell (blk_below HX5.out hb) 0).trans rfl, (blk_cell (blk_below HX5.out hb) 1).trans rfl, (blk_cell (blk_below HX5.out hb) 2).trans rfl, (blk_cell (blk_below HX5.out hb) 3).trans rfl, (blk_cell (blk_below HX5.out hb) 4).trans rfl, (blk_cell (blk_below HX5.out hb) 5).trans rfl⟩, hb⟩)
                  have HTQ := Aside0.mk (show ∀ W2 : World, ((W2.cell? ⟨g13, 0, none⟩ = some (.string y.f0) ∧ W2.cell? ⟨g13, 1, none⟩ = some (.int .i64 y.f1.f0) ∧ W2.cell? ⟨g13, 2, none⟩ = some (.int .i64 y.f1.f1) ∧ W2.cell? ⟨g13, 3, none⟩ = some (.string y.f1.f2) ∧ W2.cell? ⟨g13, 4, none⟩ = some (.slice A4 y.f1.f3.length c4) ∧ W2.cell? ⟨g13, 5, none⟩ = some (.int .i64 y.f2)) ∧ Below w5.heap.size w5 W2) → Below w5.heap.size w5 W2 from fun _ h => h.2)
                  have HTD := Aside0.mk (HTS.out _ (below_drew (Below.refl w5.heap.size w5)))
                  refine wp_region_held_drew (S := fun w' => ((w'.cell? ⟨g13, 0, none⟩ = some (.string y.f0) ∧ w'.cell? ⟨g13, 1, none⟩ = some (.int .i64 y.f1.f0) ∧ w'.cell? ⟨g13, 2, none⟩ = some (.int .i64 y.f1.f1) ∧ w'.cell? ⟨g13, 3, none⟩ = some (.string y.f1.f2) ∧ w'.cell? ⟨g13, 4, none⟩ = some (.slice A4 y.f1.f3.length c4) ∧ w'.cell? ⟨g13, 5, none⟩ = some (.int .i64 y.f2)) ∧ Below w5.heap.size w5 w')) (by kernel_rfl) HTD.out (fun hHeld => ?_)
                  refine wpAnyH_take (i := 0) (oi := { dst := (some 91), op := (Op.fieldAddr 72 (Operand.tmp 13) 2), type := 0, pos := "norm.go:25", after := #[], guard := none }) (v := ?_) rfl (by kernel_rfl) (by kernel_rfl) (by kernel_rfl) (fun _ _ _ h => h) (Or.inl ⟨by rfl, ?_⟩) hHeld ?_
                  rotate_left
                  · intro w hSw; (try dsimp only at hSw); go_simp; try with_reducible rfl
                  try simp only [Act.put, List.setIfInBounds_toArray, List.set_cons_zero, List.set_cons_succ]
                  refine wpAnyH_take (i := 1) (oi := { dst := (some 92), op := (Op.load 3 (Operand.tmp 91)), type := 3, pos := "norm.go:25", after := #[{ on := 0, ground := Ground.data }], guard := none }) (v := ?_) rfl (by kernel_rfl) (by kernel_rfl) (by kernel_rfl) (fun _ _ _ h => h) (Or.inl ⟨by rfl, ?_⟩) hHeld ?_
                  rotate_left
                  · intro w hSw; (try dsimp only at hSw); go_simp; try with_reducible rfl
                  try simp only [Act.put, List.setIfInBounds_toArray, List.set_cons_zero, List.set_cons_succ]
                  refine wpAnyH_take (i := 2) (oi := { dst := (some 93), op := (Op.move (Operand.tmp 0)), type := 26, pos := "norm.go:25", after := #[], guard := none }) (v := ?_) rfl (by kernel_rfl) (by kernel_rfl) (by kernel_rfl) (fun _ _ _ h => h) (Or.inl ⟨by rfl, ?_⟩) hHeld ?_
                  rotate_left
                  · intro w hSw; (try dsimp only at hSw); go_simp; try with_reducible rfl
                  try simp only [Act.put, List.setIfInBounds_toArray, List.set_cons_zero, List.set_cons_succ]
                  refine wpAnyH_take (i := 3) (oi := { dst := (some 94), op := (Op.fieldAddr 72 (Operand.tmp 13) 1), type := 0, pos := "norm.go:25", after := #[], guard := none }) (v := ?_) rfl (by kernel_rfl) (by kernel_rfl) (by kernel_rfl) (fun _ _ _ h => h) (Or.inl ⟨by rfl, ?_⟩) hHeld ?_
                  rotate_left
                  · intro w hSw; (try dsimp only at hSw); go_simp; try with_reducible rfl
                  try simp only [Act.put, List.setIfInBounds_toArray, List.set_cons_zero, List.set_cons_succ]
                  refine wpAnyH_take (i := 4) (oi := { dst := (some 95), op := (Op.load 24 (Operand.tmp 94)), type := 24, pos := "norm.go:25", after := #[{ on := 3, ground := Ground.data }], guard := none }) (v := ?_) rfl (by kernel_rfl) (by kernel_rfl) (by kernel_rfl) (fun _ _ _ h => h) (Or.inl ⟨by rfl, ?_⟩) hHeld ?_
                  rotate_left
                  · intro w hSw; (try dsimp only at hSw); go_simp; try with_reducible rfl
                  try simp only [Act.put, List.setIfInBounds_toArray, List.set_cons_zero, List.set_cons_succ]
                  refine wpAnyH_take (i := 5) (oi := { dst := (some 96), op := (Op.move (Operand.tmp 2)), type := 3, pos := "norm.go:25", after := #[], guard := none }) (v := ?_) rfl (by kernel_rfl) (by kernel_rfl) (by kernel_rfl) (fun _ _ _ h => h) (Or.inl ⟨by rfl, ?_⟩) hHeld ?_
                  rotate_left
                  · intro w hSw; (try dsimp only at hSw); go_simp; try with_reducible rfl
                  try simp only [Act.put, List.setIfInBounds_toArray, List.set_cons_zero, List.set_cons_succ]
                  refine wpAnyH_take (i := 6) (oi := { dst := (some 97), op := (Op.fieldAddr 72 (Operand.tmp 13) 2), type := 0, pos := "norm.go:25", after := #[], guard := none }) (v := ?_) rfl (by kernel_rfl) (by kernel_rfl) (by kernel_rfl) (fun _ _ _ h => h) (Or.inl ⟨by rfl, ?_⟩) hHeld ?_
                  rotate_left
                  · intro w hSw; (try dsimp only at hSw); go_simp; try with_reducible rfl
                  try simp only [Act.put, List.setIfInBounds_toArray, List.set_cons_zero, List.set_cons_succ]
                  refine wpAnyH_take (i := 7) (oi := { dst := (some 98), op := (Op.load 3 (Operand.tmp 97)), type := 3, pos := "norm.go:25", after := #[{ on := 6, ground := Ground.data }], guard := none }) (v := ?_) rfl (by kernel_rfl) (by kernel_rfl) (by kernel_rfl) (fun _ _ _ h => h) (Or.inl ⟨by rfl, ?_⟩) hHeld ?_
                  rotate_left
                  · intro w hSw; (try dsimp only at hSw); go_simp; try with_reducible rfl
                  try simp only [Act.put, List.setIfInBounds_toArray, List.set_cons_zero, List.set_cons_succ]
                  refine wpAnyH_take (i := 8) (oi := { dst := (some 99), op := (Op.binOp BinOp.sub 3 (Operand.tmp 96) (Operand.tmp 98) 3), type := 3, pos := "norm.go:25", after := #[{ on := 5, ground := Ground.data }, { on := 7, ground := Ground.data }], guard := none }) (v := ?_) rfl (by kernel_rfl) (by kernel_rfl) (by kernel_rfl) (fun _ _ _ h => h) (Or.inl ⟨by rfl, ?_⟩) hHeld ?_
                  rotate_left
                  · intro w hSw; (try dsimp only at hSw); go_simp; try with_reducible rfl
                  try simp only [Act.put, List.setIfInBounds_toArray, List.set_cons_zero, List.set_cons_succ]
                  refine wpAnyH_ready (rs := [9]) (by kernel_rfl) (by simp) ?_
                  refine AllReadyH.cons (o := { dst := (some 100), op := (Op.call { callee := (Callee.value (Operand.func 22)), args := #[(Operand.tmp 93), (Operand.tmp 95), (Operand.tmp 99)], argTypes := #[26, 24, 3] }), type := 3, pos := "norm.go:25", after := #[{ on := 2, ground := Ground.data }, { on := 4, ground := Ground.data }, { on := 8, ground := Ground.data }], guard := none }) rfl (fun K hK => ?_) AllReadyH.nil
                  go_simp
                  (with_reducible refine (HI.out _ (Kd.C_below (Kd.C_below HC.out HB5.out) (HTQ.out _ hHeld)) (Kd.C_below HF5.out (HTQ.out _ hHeld))).mono ?_; rintro e w6 ⟨rfl, hb2⟩)
                  refine hK.out _ _ (HTS.out _ (below_step (HTQ.out _ hHeld) hb2)) (fun hHeld => ?_)
                  clear hK K
                  try simp only [Act.put, List.setIfInBounds_toArray, List.set_cons_zero, List.set_cons_succ]
                  refine wpAnyH_take (i := 10) (oi := { dst := (some 101), op := (Op.binOp BinOp.add 3 (Operand.tmp 92) (Operand.tmp 100) 3), type := 3, pos := "norm.go:25", after := #[{ on := 1, ground := Ground.data }, { on := 9, ground := Ground.data }], guard := none }) (v := ?_) rfl (by kernel_rfl) (by kernel_rfl) (by kernel_rfl) (fun _ _ _ h => h) (Or.inl ⟨by rfl, ?_⟩) hHeld ?_
                  rotate_left
                  · intro w hSw; (try dsimp only at hSw); go_simp; try with_reducible rfl
                  try simp only [Act.put, List.setIfInBounds_toArray, List.set_cons_zero, List.set_cons_succ]
                  refine wpAnyH_take (i := 11) (oi := { dst := (some 6), op := (Op.assign (Operand.tmp 101)), type := 3, pos := "norm.go:25", after := #[{ on := 10, ground := Ground.data }, { on := 9, ground := Ground.chain }, { on := 0, ground := Ground.phase }, { on := 1, ground := Ground.phase }, { on := 2, ground := Ground.phase }, { on := 3, ground := Ground.phase }, { on := 4, ground := Ground.phase }, { on := 5, ground := Ground.phase }, { on := 6, ground := Ground.phase }, { on := 7, ground := Ground.phase }, { on := 8, ground := Ground.phase }, { on := 9, ground := Ground.phase }, { on := 10, ground := Ground.phase }], guard := none }) (v := ?_) rfl (by kernel_rfl) (by kernel_rfl) (by kernel_rfl) (fun _ _ _ h => h) (Or.inl ⟨by rfl, ?_⟩) hHeld ?_
                  rotate_left
                  · intro w hSw; (try dsimp only at hSw); go_simp; try with_reducible rfl
                  try simp only [Act.put, List.setIfInBounds_toArray, List.set_cons_zero, List.set_cons_succ]
                  refine wpAnyH_done (by kernel_rfl) ?_ _
                  have HBd := Aside0.mk (below_step HB5.out (HTQ.out _ hHeld))
                  have hra := HRA.out
                  rw [show wrap64 (y.f2 + a) = IntKind.i64.wrap (y.f2 + a) from by unfold wrap64; rw [IntKind.wrap_i64]] at hra
                  subst hra
                  clear hHeld HRA
                  go_wp2_with fail
                  go_ret
                  exact ⟨rfl, HBd.out⟩
            · have hN := HJ.out
              rw [List.drop_eq_nil_of_le (by omega)] at hN
              have hR := HR.out
              rw [← hN] at hR
              injection hR with hR
              subst hR
              clear hN HJ HR
              go_wp2
              go_ret
              exact ⟨rfl, below_step HB3.out HW.out⟩
    · have hN := HI.out
      rw [List.drop_eq_nil_of_le (by omega)] at hN
      have hR := HR.out
      rw [← hN] at hR
      injection hR with hR
      subst hR
      clear hN HI HR
      go_wp2
      go_ret
      exact ⟨rfl, below_step HB0.out HW.out⟩
set_option maxRecDepth 100000 in
set_option maxHeartbeats 2000000 in
theorem norm_oth (l : List S51) (A : Option Addr) (c : Nat) (k : Nat) (u : S24) (hk6 : u.f0 ≠ 6) (hk7 : u.f0 ≠ 7) (off r : Int) (D : Option Addr) (q : Nat) (W : World) (hr : normF (k + 1) l u off = some r) :
    Calls Try.prog 22 #[.slice A l.length c, .agg #[.int .i64 u.f0, .int .i64 u.f1, .string u.f2, .slice D u.f3.length q], .int .i64 off] W fun e w' => e = .returned (.int .i64 r) ∧ Below W.heap.size W w' := by
  unfold normF at hr
  rw [if_neg hk6, if_neg hk7] at hr
  injection hr with hr
  subst hr
  have hb7 : (u.f0 == 7) = false := beq_eq_false_iff_ne.mpr hk7
  have hb6 : (u.f0 == 6) = false := beq_eq_false_iff_ne.mpr hk6
  clear hk6 hk7
  go_enter Try.func22, Try.ntmps22
  go_wp2
  go_ret
  exact ⟨rfl, below_alloc (Below.refl _ _) _⟩
theorem norm_c (l : List S51) (A : Option Addr) (c : Nat) (hl : l.length ≤ c) : ∀ k, NormC l A c k
  | 0 => fun u off r D q W _ _ _ _ h => by unfold normF at h; cases h
  | k + 1 => fun u off r D q W ho hC hD hq hr => by
    by_cases h6 : u.f0 = 6
    · exact norm_arr l A c hl k (norm_c l A c hl k) u h6 off r D q W ho hC hD hq hr
    · by_cases h7 : u.f0 = 7
      · exact norm_str l A c hl k (norm_c l A c hl k) u h7 off r D q W ho hC hD hq hr
      · exact norm_oth l A c k u h6 h7 off r D q W hr
end Go.Proofs.Ytndcnhbcconbcaa.G
