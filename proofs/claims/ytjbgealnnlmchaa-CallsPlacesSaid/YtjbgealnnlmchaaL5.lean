/- The law CallsPlaces of calls is true: its walk. No condition. -/
import Derived.Test.YtjbgealnnlmchaaRf
set_option linter.unusedVariables false
set_option linter.unusedSimpArgs false
namespace Go.Proofs.Ytjbgealnnlmchaa.G
open Go.RowKit Go.Proofs.Ytjbgealnnlmchaa.B Go.Proofs.YtjbgealnnlmchaaW.PrintWords Go.Proofs.YtjbgealnnlmchaaW.PrintLast Go.Proofs.YtjbgealnnlmchaaW.PrintMore

theorem mem_ints' {s : List Nat} {x : Nat} : (x : Int) ∈ ints s ↔ x ∈ s := by
  unfold ints
  rw [List.mem_map]
  constructor
  · rintro ⟨y, h1, h2⟩
    have : y = x := by omega
    rw [← this]; exact h1
  · exact fun h => ⟨x, h, rfl⟩
theorem sol_cells {W W' : World} {g : Nat} {A : Option Addr} {n c : Nat} (h : W.heap[g]? = some (.cells #[.slice none 0 0, .slice none 0 0, .slice A n c, .int .i64 0] 28 (0, 0))) (hb : Below W.heap.size W W') :
    W'.cell? ⟨g, 0, none⟩ = some (.slice none 0 0) ∧ W'.cell? ⟨g, 1, none⟩ = some (.slice none 0 0) ∧ W'.cell? ⟨g, 2, none⟩ = some (.slice A n c) ∧ W'.cell? ⟨g, 3, none⟩ = some (.int .i64 0) :=
  ⟨(blk_cell (blk_below h hb) 0).trans rfl, (blk_cell (blk_below h hb) 1).trans rfl, (blk_cell (blk_below h hb) 2).trans rfl, (blk_cell (blk_below h hb) 3).trans rfl⟩
theorem edge_cell {W W' : World} {A : Option Addr} {ad : Addr} {l : List S41} {c : Nat} (h : Edg W A l c) (hA : A = some ad) (hb : Below W.heap.size W W') (i : Nat) (hi : i < l.length) :
    W'.cell? (ad.add (i * 3)) = some (.int .i64 l[i].f0) ∧ W'.cell? ⟨(ad.add (i * 3)).block, (ad.add (i * 3)).off + 1, none⟩ = some (.int .i64 l[i].f1) ∧ W'.cell? ⟨(ad.add (i * 3)).block, (ad.add (i * 3)).off + 2, none⟩ = some (.int .i64 l[i].f2) := by
  obtain ⟨ad', e', q0, q1, q2⟩ := at_T41 (Kd.C_below h.C hb) (i : Int) (Int.natCast_nonneg i) (by omega)
  rw [hA] at e'
  injection e' with e'
  subst e'
  rw [Int.toNat_natCast, rd33_at l i hi] at q0 q1 q2
  exact ⟨q0, q1, q2⟩
theorem Edg.addr {W : World} {A : Option Addr} {l : List S41} {c : Nat} (h : Edg W A l c) (hl : 0 < l.length) : ∃ ad, A = some ad := by
  obtain ⟨ad, e, _⟩ := at_T41 h.C 0 (by omega) (by omega)
  exact ⟨ad, e⟩
/-- The calls that CallsPlaces looks at. -/
theorem cut200 (l : List S41) (A : Option Addr) (c : Nat) (w : World) (hC : Kd.C k41 w A l.length l) (hc : l.length ≤ c) : Edg w A (l.take 200) c ∧ (l.take 200).length ≤ 200 := by
  have hlt : (l.take 200).length ≤ 200 ∧ (l.take 200).length ≤ l.length := by rw [List.length_take]; omega
  refine ⟨⟨?_, by omega, by omega⟩, hlt.1⟩
  by_cases h : l.length ≤ 200
  · rw [List.take_of_length_le h]; exact hC
  · exact Kd.C_take hC (by omega)
def isE (fn pc x : Int) (e : S41) : Bool := decide (e.f0 = fn) && (decide (e.f1 = pc) && decide (e.f2 = x))
/-- Counting so far: not found yet, or found. -/
def Cnt (l : List S41) (fn pc x : Int) (i m q : Nat) : Prop := (m = i ∧ q ≤ l.length ∧ ∀ j, j < q → isE fn pc x (l.getD j z41) = false) ∨ (m = i + 1 ∧ q = l.length + 1)
theorem cnt_end {l : List S41} {fn pc : Int} {t : List Int} {i m q : Nat} (ht : TOk l fn pc t) (hi : i < t.length) (h : Cnt l fn pc (t.getD i 0) i m q) (hq : ¬ q < l.length) : m = i + 1 := by
  rcases h with ⟨h1, h2, h3⟩ | ⟨h1, _⟩
  · have hm : t.getD i 0 ∈ t := by rw [List.getD_eq_getElem?_getD, List.getElem?_eq_getElem hi]; exact List.getElem_mem hi
    obtain ⟨e, he, a, b, c⟩ := mem_toL.1 ((ht.2 _).1 hm)
    obtain ⟨j, hj⟩ := List.getElem?_of_mem he
    have hjl := (List.getElem?_eq_some_iff.1 hj).1
    have := h3 j (by omega)
    have hje : l.getD j z41 = e := by rw [List.getD_eq_getElem?_getD, hj]; rfl
    rw [hje] at this
    have hb : isE fn pc (t.getD i 0) e = false := this
    unfold isE at hb
    rw [decide_eq_true a, decide_eq_true b, decide_eq_true c] at hb
    cases hb
  · exact h1
set_option maxRecDepth 100000 in
set_option maxHeartbeats 4000000 in
theorem CallsPlaces_walk (l : List S41) (A : Option Addr) (c : Nat) (fn pc : Int) (w : World) (hlc : l.length ≤ c) (hC : Kd.C k41 w A l.length l) :
    Calls Try.prog 7 #[.slice A l.length c, .int .i64 fn, .int .i64 pc] w fun e w' => e = .returned (.bool true) ∧ Below w.heap.size w w' := by
  have hcut0 := fun W hb => cut200 l A c W (Kd.C_below hC hb) hlc
  obtain ⟨i0, hi0, _, hsz0, _⟩ := info_parts info41
  have hrest : ∃ l2 : List S41, (∀ W, Below w.heap.size w W → Edg W A l2 c ∧ l2.length ≤ 200) ∧ ((200 < l.length ∧ l2.length = 200) ∨ (l.length ≤ 200 ∧ l2.length = l.length)) := by
    refine ⟨l.take 200, hcut0, ?_⟩
    rw [List.length_take]
    omega
  obtain ⟨l2, hE, hl2⟩ := hrest
  have hsl := cut_to (P := Try.prog) 22 41 .i64 Try.underlying22 hi0 A l.length c 200 (by omega)
  have HSL := Aside0.mk (fun (h : (200 : Int) ≤ l.length) => hsl h hlc)
  have HEE := Aside0.mk hE
  have hto := to_ok l2 fn pc
  obtain ⟨t, ht⟩ : ∃ t, Lib.compact ((toL l2 fn pc).mergeSort (fun x y => decide (x ≤ y))) = t := ⟨_, rfl⟩
  rw [ht] at hto
  have HTO := Aside0.mk hto
  have HTL : Aside0 (t.length ≤ 200 ∧ t.length ≤ 1000000) := Aside0.mk (by have := hto.len; have := (hE w (Below.refl _ _)).2; omega)
  have HLL := Aside0.mk (hE w (Below.refl _ _)).2
  clear hcut0 hC hlc hE hi0 hsz0 hsl hto ht
  go_enter Try.func7, Try.ntmps7
  go_upto_region 2 with (go_at_call 8; with_reducible refine (shown_c _).mono ?_; rintro e w1 ⟨rfl, hk⟩; have HB := Aside0.mk hk; clear hk)
  have HE1 := Aside0.mk (HEE.out w1 HB.out).1
  have HTC := Aside0.mk (to_c l2 A c fn pc w1 HE1.out t HTO.out)
  have hmid : ∃ x17 x18 x19 x15 x16 : Value, True := ⟨undef, undef, undef, undef, undef, trivial⟩
  clear hmid
  rcases hl2 with ⟨h1, h2⟩ | ⟨h1, h2⟩
  · have e2 : decide (200 < l.length) = true := decide_eq_true h1
    have e3 : decide ((200 : Int) < (l.length : Int)) = true := decide_eq_true (by omega)
    have hsl : ∀ W, (Instr.slice 22 (.slice A l.length c) none (some (.int .i64 200)) none).run Try.prog W = .ok (.slice A l2.length c) W := by rw [h2]; exact HSL.out (by omega)
    clear h1 h2
    go_upto_region 4 with (fail)
    clear e2 e3 hsl
    go_upto_block 0 with (go_at_call 12; with_reducible refine HTC.out.mono ?_; rintro r2 w2 ⟨A2, c2, rfl, ha2, hb2⟩; have HA2 := Aside0.mk ha2; have HE2 := Aside0.mk (HE1.out.below hb2); have HB2 := Aside0.mk (below_step HB.out hb2); clear ha2 hb2)
    clear HTC HE1 HSL HEE
    go_wp2_with fail
    go_loopw [9] (fun iv wx => ∃ (i : Nat), i ≤ t.length ∧ iv = .int .i64 (i : Int) ∧ Hid (Below w2.heap.size w2 wx)) (fun iv _ => t.length - (intOf iv).toNat)
    case atStart => exact ⟨0, Nat.zero_le _, rfl, Below.refl _ _⟩
    case round =>
      obtain ⟨i, hi, rfl, h1⟩ := hrel
      have HW := Aside0.mk (show Below w2.heap.size w2 wr from h1)
      clear h1
      by_cases hlt : (i : Int) < (t.length : Int)
      · have hi1 : i < t.length := by omega
        have hi0 : (0 : Int) ≤ (i : Int) := Int.natCast_nonneg i
        have hwi : IntKind.i64.wrap ((i : Int) + 1) = (i : Int) + 1 := by have := HTL.out; rw [IntKind.wrap_i64]; omega
        have HWI := Aside0.mk hwi
        clear hwi
        by_cases hz : i = 0
        · have e1 : decide ((0 : Int) < (i : Int)) = false := decide_eq_false (by omega)
          have e2 : decide (0 < i) = false := decide_eq_false (by omega)
          clear hz
          go_upto_region 8 with (fail)
          refine wp_region_held_drew (S := fun w' => Below w2.heap.size w2 w') (by kernel_rfl) (below_drew HW.out) (fun hHeld => ?_)
          refine wpAnyH_take (i := 0) (oi := { dst := (some 31), op := (Op.move (Operand.tmp 9)), type := 3, pos := "law.go:137", after := #[], guard := none }) (v := ?_) rfl (by kernel_rfl) (by kernel_rfl) (by kernel_rfl) (fun _ _ _ h => h) (Or.inl ⟨by rfl, ?_⟩) hHeld ?_
          rotate_left
          · intro w hSw; (try dsimp only at hSw); go_simp; try with_reducible rfl
          try simp only [Act.put, List.setIfInBounds_toArray, List.set_cons_zero, List.set_cons_succ]
          refine wpAnyH_take (i := 1) (oi := { dst := (some 32), op := (Op.binOp BinOp.gtr 3 (Operand.tmp 31) (Operand.const (Value.int IntKind.i64 0)) 3), type := 4, pos := "law.go:137", after := #[{ on := 0, ground := Ground.data }], guard := none }) (v := ?_) rfl (by kernel_rfl) (by kernel_rfl) (by kernel_rfl) (fun _ _ _ h => h) (Or.inl ⟨by rfl, ?_⟩) hHeld ?_
          rotate_left
          · intro w hSw; (try dsimp only at hSw); go_simp; try with_reducible rfl
          try simp only [Act.put, List.setIfInBounds_toArray, List.set_cons_zero, List.set_cons_succ]
          refine wpAnyH_take (i := 2) (oi := { dst := (some 33), op := (Op.move (Operand.tmp 32)), type := 4, pos := "law.go:137", after := #[{ on := 1, ground := Ground.data }], guard := none }) (v := ?_) rfl (by kernel_rfl) (by kernel_rfl) (by kernel_rfl) (fun _ _ _ h => h) (Or.inl ⟨by rfl, ?_⟩) hHeld ?_
          rotate_left
          · intro w hSw; (try dsimp only at hSw); go_simp; try with_reducible rfl
          try simp only [Act.put, List.setIfInBounds_toArray, List.set_cons_zero, List.set_cons_succ]
          refine wpAnyH_take (i := 3) (oi := { dst := (some 34), op := (Op.move (Operand.tmp 8)), type := 35, pos := "law.go:137", after := #[{ on := 2, ground := Ground.guard }], guard := (some (2, true)) }) rfl (by kernel_rfl) (by kernel_rfl) (by kernel_rfl) (fun _ _ _ h => h) (Or.inr ⟨by rfl, rfl⟩) hHeld ?_
          try simp only [Act.put, List.setIfInBounds_toArray, List.set_cons_zero, List.set_cons_succ]
          refine wpAnyH_take (i := 4) (oi := { dst := (some 35), op := (Op.move (Operand.tmp 9)), type := 3, pos := "law.go:137", after := #[{ on := 2, ground := Ground.guard }], guard := (some (2, true)) }) rfl (by kernel_rfl) (by kernel_rfl) (by kernel_rfl) (fun _ _ _ h => h) (Or.inr ⟨by rfl, rfl⟩) hHeld ?_
          try simp only [Act.put, List.setIfInBounds_toArray, List.set_cons_zero, List.set_cons_succ]
          refine wpAnyH_take (i := 5) (oi := { dst := (some 36), op := (Op.indexAddr 35 (Operand.tmp 34) (Operand.tmp 35)), type := 0, pos := "law.go:137", after := #[{ on := 3, ground := Ground.data }, { on := 4, ground := Ground.data }, { on := 2, ground := Ground.guard }], guard := (some (2, true)) }) rfl (by kernel_rfl) (by kernel_rfl) (by kernel_rfl) (fun _ _ _ h => h) (Or.inr ⟨by rfl, rfl⟩) hHeld ?_
          try simp only [Act.put, List.setIfInBounds_toArray, List.set_cons_zero, List.set_cons_succ]
          refine wpAnyH_take (i := 6) (oi := { dst := (some 37), op := (Op.load 3 (Operand.tmp 36)), type := 3, pos := "law.go:137", after := #[{ on := 5, ground := Ground.data }, { on := 2, ground := Ground.guard }], guard := (some (2, true)) }) rfl (by kernel_rfl) (by kernel_rfl) (by kernel_rfl) (fun _ _ _ h => h) (Or.inr ⟨by rfl, rfl⟩) hHeld ?_
          try simp only [Act.put, List.setIfInBounds_toArray, List.set_cons_zero, List.set_cons_succ]
          refine wpAnyH_take (i := 7) (oi := { dst := (some 38), op := (Op.move (Operand.tmp 8)), type := 35, pos := "law.go:137", after := #[{ on := 2, ground := Ground.guard }], guard := (some (2, true)) }) rfl (by kernel_rfl) (by kernel_rfl) (by kernel_rfl) (fun _ _ _ h => h) (Or.inr ⟨by rfl, rfl⟩) hHeld ?_
          try simp only [Act.put, List.setIfInBounds_toArray, List.set_cons_zero, List.set_cons_succ]
          refine wpAnyH_take (i := 8) (oi := { dst := (some 39), op := (Op.move (Operand.tmp 9)), type := 3, pos := "law.go:137", after := #[{ on := 2, ground := Ground.guard }], guard := (some (2, true)) }) rfl (by kernel_rfl) (by kernel_rfl) (by kernel_rfl) (fun _ _ _ h => h) (Or.inr ⟨by rfl, rfl⟩) hHeld ?_
          try simp only [Act.put, List.setIfInBounds_toArray, List.set_cons_zero, List.set_cons_succ]
          refine wpAnyH_take (i := 9) (oi := { dst := (some 40), op := (Op.binOp BinOp.sub 3 (Operand.tmp 39) (Operand.const (Value.int IntKind.i64 1)) 3), type := 3, pos := "law.go:137", after := #[{ on := 8, ground := Ground.data }, { on := 2, ground := Ground.guard }], guard := (some (2, true)) }) rfl (by kernel_rfl) (by kernel_rfl) (by kernel_rfl) (fun _ _ _ h => h) (Or.inr ⟨by rfl, rfl⟩) hHeld ?_
          try simp only [Act.put, List.setIfInBounds_toArray, List.set_cons_zero, List.set_cons_succ]
          refine wpAnyH_take (i := 10) (oi := { dst := (some 41), op := (Op.indexAddr 35 (Operand.tmp 38) (Operand.tmp 40)), type := 0, pos := "law.go:137", after := #[{ on := 7, ground := Ground.data }, { on := 9, ground := Ground.data }, { on := 2, ground := Ground.guard }], guard := (some (2, true)) }) rfl (by kernel_rfl) (by kernel_rfl) (by kernel_rfl) (fun _ _ _ h => h) (Or.inr ⟨by rfl, rfl⟩) hHeld ?_
          try simp only [Act.put, List.setIfInBounds_toArray, List.set_cons_zero, List.set_cons_succ]
          refine wpAnyH_take (i := 11) (oi := { dst := (some 42), op := (Op.load 3 (Operand.tmp 41)), type := 3, pos := "law.go:137", after := #[{ on := 10, ground := Ground.data }, { on := 2, ground := Ground.guard }], guard := (some (2, true)) }) rfl (by kernel_rfl) (by kernel_rfl) (by kernel_rfl) (fun _ _ _ h => h) (Or.inr ⟨by rfl, rfl⟩) hHeld ?_
          try simp only [Act.put, List.setIfInBounds_toArray, List.set_cons_zero, List.set_cons_succ]
          refine wpAnyH_take (i := 12) (oi := { dst := (some 43), op := (Op.binOp BinOp.leq 3 (Operand.tmp 37) (Operand.tmp 42) 3), type := 4, pos := "law.go:137", after := #[{ on := 6, ground := Ground.data }, { on := 11, ground := Ground.data }, { on := 2, ground := Ground.guard }], guard := (some (2, true)) }) rfl (by kernel_rfl) (by kernel_rfl) (by kernel_rfl) (fun _ _ _ h => h) (Or.inr ⟨by rfl, rfl⟩) hHeld ?_
          try simp only [Act.put, List.setIfInBounds_toArray, List.set_cons_zero, List.set_cons_succ]
          refine wpAnyH_take (i := 13) (oi := { dst := (some 44), op := (Op.pick (Operand.tmp 33) (Operand.tmp 43) (Operand.const (Value.bool false))), type := 4, pos := "law.go:137", after := #[{ on := 2, ground := Ground.data }, { on := 12, ground := Ground.data }], guard := none }) (v := ?_) rfl (by kernel_rfl) (by kernel_rfl) (by kernel_rfl) (fun _ _ _ h => h) (Or.inl ⟨by rfl, ?_⟩) hHeld ?_
          rotate_left
          · intro w hSw; (try dsimp only at hSw); go_simp; try with_reducible rfl
          try simp only [Act.put, List.setIfInBounds_toArray, List.set_cons_zero, List.set_cons_succ]
          refine wpAnyH_done (by kernel_rfl) ?_ _
          have HW2 := Aside0.mk hHeld
          have hwi := HWI.out
          clear e1 e2
          go_wp2_with fail
          go_roundw
          case rel => exact ⟨i + 1, by omega, by go_num, HW2.out⟩
          case measure => simp [intOf]; omega
        · have e1 : decide ((0 : Int) < (i : Int)) = true := decide_eq_true (by omega)
          have e2 : decide (0 < i) = true := decide_eq_true (by omega)
          obtain ⟨i', hii⟩ : ∃ i', i = i' + 1 := ⟨i - 1, by omega⟩
          obtain ⟨adt, et, _⟩ := HA2.out.at_ i' (by omega)
          have hc1 : ∀ W', Below w2.heap.size w2 W' → W'.cell? (adt.add i') = some (.int .i64 (t.getD i' 0)) := fun W' hb => by
            obtain ⟨ad', e', q⟩ := (HA2.out.below hb).at_ i' (by omega)
            rw [et] at e'
            injection e' with e'
            subst e'
            exact q
          have hc2 : ∀ W', Below w2.heap.size w2 W' → W'.cell? (adt.add i) = some (.int .i64 (t.getD i 0)) := fun W' hb => by
            obtain ⟨ad', e', q⟩ := (HA2.out.below hb).at_ i hi1
            rw [et] at e'
            injection e' with e'
            subst e'
            exact q
          have hup : t.getD i' 0 < t.getD i 0 := by
            rw [List.getD_eq_getElem?_getD, List.getD_eq_getElem?_getD, List.getElem?_eq_getElem (show i' < t.length by omega), List.getElem?_eq_getElem hi1]
            exact List.pairwise_iff_getElem.1 HTO.out.1 i' i (by omega) hi1 (by omega)
          generalize t.getD i' 0 = ta at hc1 hup
          generalize t.getD i 0 = tb at hc2 hup
          have e3 : decide (tb ≤ ta) = false := decide_eq_false (by omega)
          have HSS := Aside0.mk (show ∀ w', Below w2.heap.size w2 w' → (w'.cell? (adt.add i') = some (.int .i64 ta) ∧ w'.cell? (adt.add i) = some (.int .i64 tb) ∧ Below w2.heap.size w2 w') from fun w' hb => ⟨hc1 w' hb, hc2 w' hb, hb⟩)
          have hs1 : IntKind.i64.wrap ((i : Int) - 1) = (i' : Int) := by have := HTL.out; rw [IntKind.wrap_i64]; omega
          have hs2 : wrap64 ((i : Int) - 1) = (i' : Int) := by have := HTL.out; unfold wrap64; omega
          have hs3 : (0 : Int) ≤ (i' : Int) := by omega
          have hs4 : (i' : Int) < (t.length : Int) := by omega
          clear hz hup hc1 hc2 hii
          subst et
          go_upto_region 8 with (fail)
          refine wp_region_held_drew (S := fun w' => w'.cell? (adt.add i') = some (.int .i64 ta) ∧ w'.cell? (adt.add i) = some (.int .i64 tb) ∧ Below w2.heap.size w2 w') (by kernel_rfl) (HSS.out _ (below_drew HW.out)) (fun hHeld => ?_)
          refine wpAnyH_take (i := 0) (oi := { dst := (some 31), op := (Op.move (Operand.tmp 9)), type := 3, pos := "law.go:137", after := #[], guard := none }) (v := ?_) rfl (by kernel_rfl) (by kernel_rfl) (by kernel_rfl) (fun _ _ _ h => h) (Or.inl ⟨by rfl, ?_⟩) hHeld ?_
          rotate_left
          · intro w hSw; (try dsimp only at hSw); go_simp; try with_reducible rfl
          try simp only [Act.put, List.setIfInBounds_toArray, List.set_cons_zero, List.set_cons_succ]
          refine wpAnyH_take (i := 1) (oi := { dst := (some 32), op := (Op.binOp BinOp.gtr 3 (Operand.tmp 31) (Operand.const (Value.int IntKind.i64 0)) 3), type := 4, pos := "law.go:137", after := #[{ on := 0, ground := Ground.data }], guard := none }) (v := ?_) rfl (by kernel_rfl) (by kernel_rfl) (by kernel_rfl) (fun _ _ _ h => h) (Or.inl ⟨by rfl, ?_⟩) hHeld ?_
          rotate_left
          · intro w hSw; (try dsimp only at hSw); go_simp; try with_reducible rfl
          try simp only [Act.put, List.setIfInBounds_toArray, List.set_cons_zero, List.set_cons_succ]
          refine wpAnyH_take (i := 2) (oi := { dst := (some 33), op := (Op.move (Operand.tmp 32)), type := 4, pos := "law.go:137", after := #[{ on := 1, ground := Ground.data }], guard := none }) (v := ?_) rfl (by kernel_rfl) (by kernel_rfl) (by kernel_rfl) (fun _ _ _ h => h) (Or.inl ⟨by rfl, ?_⟩) hHeld ?_
          rotate_left
          · intro w hSw; (try dsimp only at hSw); go_simp; try with_reducible rfl
          try simp only [Act.put, List.setIfInBounds_toArray, List.set_cons_zero, List.set_cons_succ]
          refine wpAnyH_take (i := 3) (oi := { dst := (some 34), op := (Op.move (Operand.tmp 8)), type := 35, pos := "law.go:137", after := #[{ on := 2, ground := Ground.guard }], guard := (some (2, true)) }) (v := ?_) rfl (by kernel_rfl) (by kernel_rfl) (by kernel_rfl) (fun _ _ _ h => h) (Or.inl ⟨by rfl, ?_⟩) hHeld ?_
          rotate_left
          · intro w hSw; (try dsimp only at hSw); go_simp; try with_reducible rfl
          try simp only [Act.put, List.setIfInBounds_toArray, List.set_cons_zero, List.set_cons_succ]
          refine wpAnyH_take (i := 4) (oi := { dst := (some 35), op := (Op.move (Operand.tmp 9)), type := 3, pos := "law.go:137", after := #[{ on := 2, ground := Ground.guard }], guard := (some (2, true)) }) (v := ?_) rfl (by kernel_rfl) (by kernel_rfl) (by kernel_rfl) (fun _ _ _ h => h) (Or.inl ⟨by rfl, ?_⟩) hHeld ?_
          rotate_left
          · intro w hSw; (try dsimp only at hSw); go_simp; try with_reducible rfl
          try simp only [Act.put, List.setIfInBounds_toArray, List.set_cons_zero, List.set_cons_succ]
          refine wpAnyH_take (i := 5) (oi := { dst := (some 36), op := (Op.indexAddr 35 (Operand.tmp 34) (Operand.tmp 35)), type := 0, pos := "law.go:137", after := #[{ on := 3, ground := Ground.data }, { on := 4, ground := Ground.data }, { on := 2, ground := Ground.guard }], guard := (some (2, true)) }) (v := ?_) rfl (by kernel_rfl) (by kernel_rfl) (by kernel_rfl) (fun _ _ _ h => h) (Or.inl ⟨by rfl, ?_⟩) hHeld ?_
          rotate_left
          · intro w hSw; (try dsimp only at hSw); go_simp; try with_reducible rfl
          try simp only [Act.put, List.setIfInBounds_toArray, List.set_cons_zero, List.set_cons_succ]
          refine wpAnyH_take (i := 6) (oi := { dst := (some 37), op := (Op.load 3 (Operand.tmp 36)), type := 3, pos := "law.go:137", after := #[{ on := 5, ground := Ground.data }, { on := 2, ground := Ground.guard }], guard := (some (2, true)) }) (v := ?_) rfl (by kernel_rfl) (by kernel_rfl) (by kernel_rfl) (fun _ _ _ h => h) (Or.inl ⟨by rfl, ?_⟩) hHeld ?_
          rotate_left
          · intro w hSw; (try dsimp only at hSw); go_simp; try with_reducible rfl
          try simp only [Act.put, List.setIfInBounds_toArray, List.set_cons_zero, List.set_cons_succ]
          refine wpAnyH_take (i := 7) (oi := { dst := (some 38), op := (Op.move (Operand.tmp 8)), type := 35, pos := "law.go:137", after := #[{ on := 2, ground := Ground.guard }], guard := (some (2, true)) }) (v := ?_) rfl (by kernel_rfl) (by kernel_rfl) (by kernel_rfl) (fun _ _ _ h => h) (Or.inl ⟨by rfl, ?_⟩) hHeld ?_
          rotate_left
          · intro w hSw; (try dsimp only at hSw); go_simp; try with_reducible rfl
          try simp only [Act.put, List.setIfInBounds_toArray, List.set_cons_zero, List.set_cons_succ]
          refine wpAnyH_take (i := 8) (oi := { dst := (some 39), op := (Op.move (Operand.tmp 9)), type := 3, pos := "law.go:137", after := #[{ on := 2, ground := Ground.guard }], guard := (some (2, true)) }) (v := ?_) rfl (by kernel_rfl) (by kernel_rfl) (by kernel_rfl) (fun _ _ _ h => h) (Or.inl ⟨by rfl, ?_⟩) hHeld ?_
          rotate_left
          · intro w hSw; (try dsimp only at hSw); go_simp; try with_reducible rfl
          try simp only [Act.put, List.setIfInBounds_toArray, List.set_cons_zero, List.set_cons_succ]
          refine wpAnyH_take (i := 9) (oi := { dst := (some 40), op := (Op.binOp BinOp.sub 3 (Operand.tmp 39) (Operand.const (Value.int IntKind.i64 1)) 3), type := 3, pos := "law.go:137", after := #[{ on := 8, ground := Ground.data }, { on := 2, ground := Ground.guard }], guard := (some (2, true)) }) (v := ?_) rfl (by kernel_rfl) (by kernel_rfl) (by kernel_rfl) (fun _ _ _ h => h) (Or.inl ⟨by rfl, ?_⟩) hHeld ?_
          rotate_left
          · intro w hSw; (try dsimp only at hSw); go_simp; try with_reducible rfl
          try simp only [Act.put, List.setIfInBounds_toArray, List.set_cons_zero, List.set_cons_succ]
          refine wpAnyH_take (i := 10) (oi := { dst := (some 41), op := (Op.indexAddr 35 (Operand.tmp 38) (Operand.tmp 40)), type := 0, pos := "law.go:137", after := #[{ on := 7, ground := Ground.data }, { on := 9, ground := Ground.data }, { on := 2, ground := Ground.guard }], guard := (some (2, true)) }) (v := ?_) rfl (by kernel_rfl) (by kernel_rfl) (by kernel_rfl) (fun _ _ _ h => h) (Or.inl ⟨by rfl, ?_⟩) hHeld ?_
          rotate_left
          · intro w hSw; (try dsimp only at hSw); go_simp; try with_reducible rfl
          try simp only [Act.put, List.setIfInBounds_toArray, List.set_cons_zero, List.set_cons_succ]
          refine wpAnyH_take (i := 11) (oi := { dst := (some 42), op := (Op.load 3 (Operand.tmp 41)), type := 3, pos := "law.go:137", after := #[{ on := 10, ground := Ground.data }, { on := 2, ground := Ground.guard }], guard := (some (2, true)) }) (v := ?_) rfl (by kernel_rfl) (by kernel_rfl) (by kernel_rfl) (fun _ _ _ h => h) (Or.inl ⟨by rfl, ?_⟩) hHeld ?_
          rotate_left
          · intro w hSw; (try dsimp only at hSw); go_simp; try with_reducible rfl
          try simp only [Act.put, List.setIfInBounds_toArray, List.set_cons_zero, List.set_cons_succ]
          refine wpAnyH_take (i := 12) (oi := { dst := (some 43), op := (Op.binOp BinOp.leq 3 (Operand.tmp 37) (Operand.tmp 42) 3), type := 4, pos := "law.go:137", after := #[{ on := 6, ground := Ground.data }, { on := 11, ground := Ground.data }, { on := 2, ground := Ground.guard }], guard := (some (2, true)) }) (v := ?_) rfl (by kernel_rfl) (by kernel_rfl) (by kernel_rfl) (fun _ _ _ h => h) (Or.inl ⟨by rfl, ?_⟩) hHeld ?_
          rotate_left
          · intro w hSw; (try dsimp only at hSw); go_simp; try with_reducible rfl
          try simp only [Act.put, List.setIfInBounds_toArray, List.set_cons_zero, List.set_cons_succ]
          refine wpAnyH_take (i := 13) (oi := { dst := (some 44), op := (Op.pick (Operand.tmp 33) (Operand.tmp 43) (Operand.const (Value.bool false))), type := 4, pos := "law.go:137", after := #[{ on := 2, ground := Ground.data }, { on := 12, ground := Ground.data }], guard := none }) (v := ?_) rfl (by kernel_rfl) (by kernel_rfl) (by kernel_rfl) (fun _ _ _ h => h) (Or.inl ⟨by rfl, ?_⟩) hHeld ?_
          rotate_left
          · intro w hSw; (try dsimp only at hSw); go_simp; try with_reducible rfl
          try simp only [Act.put, List.setIfInBounds_toArray, List.set_cons_zero, List.set_cons_succ]
          refine wpAnyH_done (by kernel_rfl) ?_ _
          have HW2 := Aside0.mk hHeld.2.2
          have hwi := HWI.out
          clear e1 e2 e3 hs1 hs2 hs3 hs4
          go_wp2_with fail
          go_roundw
          case rel => exact ⟨i + 1, by omega, by go_num, HW2.out⟩
          case measure => simp [intOf]; omega
      · go_upto_block 2 with (fail)
        go_wp2_with fail
        go_loopw [10] (fun iv wx => ∃ (j : Nat), j ≤ l2.length ∧ iv = .int .i64 (j : Int) ∧ Hid (Below w2.heap.size w2 wx)) (fun iv _ => l2.length - (intOf iv).toNat)
        case atStart => exact ⟨0, Nat.zero_le _, rfl, HW.out⟩
        case round =>
          clear HW
          obtain ⟨j, hj, rfl, h1⟩ := hrel
          have HW := Aside0.mk (show Below w2.heap.size w2 wr from h1)
          clear h1
          by_cases hltj : (j : Int) < (l2.length : Int)
          · have hj1 : j < l2.length := by omega
            have hj0 : (0 : Int) ≤ (j : Int) := Int.natCast_nonneg j
            have hwj : IntKind.i64.wrap ((j : Int) + 1) = (j : Int) + 1 := by have := HLL.out; rw [IntKind.wrap_i64]; omega
            have HWJ := Aside0.mk hwj
            clear hwj
            obtain ⟨ade, ee⟩ := HE2.out.addr (by omega)
            have hcells := edge_cell HE2.out ee (W' := wr) HW.out j hj1
            have hmem : l2[j].f0 = fn → l2[j].f1 = pc → l2[j].f2 ∈ t := fun h1 h2 => (HTO.out.2 _).2 (mem_toL.2 ⟨l2[j], List.getElem_mem hj1, h1, h2, rfl⟩)
            generalize l2[j].f0 = x0 at hcells hmem
            generalize l2[j].f1 = x1 at hcells hmem
            generalize l2[j].f2 = x2 at hcells hmem
            obtain ⟨q0, q1, q2⟩ := hcells
            subst ee
            by_cases d1 : x0 = fn
            · by_cases d2 : x1 = pc
              · have HM : Aside0 (decide (x2 ∈ t) = true) := Aside0.mk (decide_eq_true (hmem d1 d2))
                have hwj := HWJ.out
                subst d1 d2
                clear hmem
                go_wp2_with (go_at_call 18; with_reducible refine (has_d t _ _ x2 true _ (HA2.out.below HW.out) HTL.out.2 HM.out).mono ?_; rintro r7 w7 ⟨rfl, hb7⟩; replace HW := Aside0.mk (below_step HW.out hb7); clear hb7)
                go_roundw
                case rel => exact ⟨j + 1, by omega, by go_num, HW.out⟩
                case measure => simp [intOf]; omega
              · have e1 : (x1 == pc) = false := beq_eq_false_iff_ne.mpr d2
                have hwj := HWJ.out
                subst d1
                clear hmem d2
                go_wp2_with fail
                go_roundw
                case rel => exact ⟨j + 1, by omega, by go_num, HW.out⟩
                case measure => simp [intOf]; omega
            · have e1 : (x0 == fn) = false := beq_eq_false_iff_ne.mpr d1
              have hwj := HWJ.out
              clear hmem d1
              go_wp2_with fail
              go_roundw
              case rel => exact ⟨j + 1, by omega, by go_num, HW.out⟩
              case measure => simp [intOf]; omega
          · go_upto_block 4 with (fail)
            go_wp2_with fail
            go_loopw [11, 12] (fun mv iv wx => ∃ (i : Nat), i ≤ t.length ∧ mv = .int .i64 (i : Int) ∧ iv = .int .i64 (i : Int) ∧ Hid (Below w2.heap.size w2 wx)) (fun _ iv _ => t.length - (intOf iv).toNat)
            case atStart => exact ⟨0, Nat.zero_le _, rfl, rfl, HW.out⟩
            case round =>
              clear HW
              obtain ⟨i, hi, rfl, rfl, h1⟩ := hrel
              have HW := Aside0.mk (show Below w2.heap.size w2 wr from h1)
              clear h1
              by_cases hlti : (i : Int) < (t.length : Int)
              · have hi1 : i < t.length := by omega
                have hi0 : (0 : Int) ≤ (i : Int) := Int.natCast_nonneg i
                have hwi : IntKind.i64.wrap ((i : Int) + 1) = (i : Int) + 1 := by have := HTL.out; rw [IntKind.wrap_i64]; omega
                have HWI := Aside0.mk hwi
                clear hwi
                obtain ⟨adt, et, _⟩ := HA2.out.at_ i hi1
                have hc2 : ∀ W', Below w2.heap.size w2 W' → W'.cell? (adt.add i) = some (.int .i64 (t.getD i 0)) := fun W' hb => by
                  obtain ⟨ad', e', q⟩ := (HA2.out.below hb).at_ i hi1
                  rw [et] at e'
                  injection e' with e'
                  subst e'
                  exact q
                have HEND := Aside0.mk (fun m q (h : Cnt l2 fn pc (t.getD i 0) i m q) (hq : ¬ q < l2.length) => cnt_end HTO.out hi1 h hq)
                generalize t.getD i 0 = x at hc2 HEND
                have HC2 := Aside0.mk hc2
                clear hc2
                subst et
                go_upto_block 6 with (fail)
                go_wp2_with fail
                go_loopw [11, 13] (fun mv qv wx => ∃ (m q : Nat), mv = .int .i64 (m : Int) ∧ qv = .int .i64 (q : Int) ∧ Hid (Cnt l2 fn pc x i m q) ∧ Hid (Below w2.heap.size w2 wx)) (fun _ qv _ => l2.length + 1 - (intOf qv).toNat)
                case atStart => exact ⟨i, 0, rfl, rfl, .inl ⟨rfl, Nat.zero_le _, fun j hj => absurd hj (Nat.not_lt_zero _)⟩, HW.out⟩
                case round =>
                  clear HW
                  obtain ⟨m, q, rfl, rfl, h1, h2⟩ := hrel
                  have HCN := Aside0.mk (show Cnt l2 fn pc x i m q from h1)
                  have HW := Aside0.mk (show Below w2.heap.size w2 wr from h2)
                  clear h1 h2
                  by_cases hltq : (q : Int) < (l2.length : Int)
                  · have hq1 : q < l2.length := by omega
                    have hq0 : (0 : Int) ≤ (q : Int) := Int.natCast_nonneg q
                    have hwq : IntKind.i64.wrap ((q : Int) + 1) = (q : Int) + 1 := by have := HLL.out; rw [IntKind.wrap_i64]; omega
                    have hwl : IntKind.i64.wrap ((l2.length : Int) + 1) = (l2.length : Int) + 1 := by have := HLL.out; rw [IntKind.wrap_i64]; omega
                    have hcn := HCN.out
                    rcases hcn with ⟨rfl, hq2, hno⟩ | ⟨_, hq2⟩
                    · obtain ⟨ade, ee⟩ := HE2.out.addr (by omega)
                      have hcells := fun W' hb => edge_cell HE2.out ee (W' := W') hb q hq1
                      have hget : l2.getD q z41 = l2[q] := by rw [List.getD_eq_getElem?_getD, List.getElem?_eq_getElem hq1]; rfl
                      have hnext : isE fn pc x l2[q] = false → Cnt l2 fn pc x m m (q + 1) := fun h => .inl ⟨rfl, by omega, fun j hj => by
                        by_cases hjq : j = q
                        · subst hjq; rw [hget]; exact h
                        · exact hno j (by omega)⟩
                      unfold isE at hnext
                      generalize l2[q].f0 = x0 at hcells hnext
                      generalize l2[q].f1 = x1 at hcells hnext
                      generalize l2[q].f2 = x2 at hcells hnext
                      have HNX := Aside0.mk hnext
                      have HSS := Aside0.mk (show ∀ w', Below w2.heap.size w2 w' → (w'.cell? (ade.add (q * 3)) = some (.int .i64 x0) ∧ w'.cell? ⟨(ade.add (q * 3)).block, (ade.add (q * 3)).off + 1, none⟩ = some (.int .i64 x1) ∧ w'.cell? ⟨(ade.add (q * 3)).block, (ade.add (q * 3)).off + 2, none⟩ = some (.int .i64 x2) ∧ w'.cell? (adt.add m) = some (.int .i64 x) ∧ Below w2.heap.size w2 w') from fun w' hb => ⟨(hcells w' hb).1, (hcells w' hb).2.1, (hcells w' hb).2.2, HC2.out w' hb, hb⟩)
                      obtain ⟨bb, hbb⟩ : ∃ bb, (decide (x0 = fn) && (decide (x1 = pc) && decide (x2 = x))) = bb := ⟨_, rfl⟩
                      have HBB := Aside0.mk hbb
                      clear hcells hnext hget hno hq2 hbb
                      subst ee
                      go_upto_region 22 with (fail)
                      refine wp_region_held_drew (S := fun w' => w'.cell? (ade.add (q * 3)) = some (.int .i64 x0) ∧ w'.cell? ⟨(ade.add (q * 3)).block, (ade.add (q * 3)).off + 1, none⟩ = some (.int .i64 x1) ∧ w'.cell? ⟨(ade.add (q * 3)).block, (ade.add (q * 3)).off + 2, none⟩ = some (.int .i64 x2) ∧ w'.cell? (adt.add m) = some (.int .i64 x) ∧ Below w2.heap.size w2 w') (by kernel_rfl) (HSS.out _ (below_drew HW.out)) (fun hHeld => ?_)
                      refine wpAnyH_take (i := 0) (oi := { dst := (some 89), op := (Op.move (Operand.tmp 0)), type := 22, pos := "law.go:149", after := #[], guard := none }) (v := ?_) rfl (by kernel_rfl) (by kernel_rfl) (by kernel_rfl) (fun _ _ _ h => h) (Or.inl ⟨by rfl, ?_⟩) hHeld ?_
                      rotate_left
                      · intro w hSw; (try dsimp only at hSw); go_simp; try with_reducible rfl
                      try simp only [Act.put, List.setIfInBounds_toArray, List.set_cons_zero, List.set_cons_succ]
                      refine wpAnyH_take (i := 1) (oi := { dst := (some 90), op := (Op.move (Operand.tmp 13)), type := 3, pos := "law.go:149", after := #[], guard := none }) (v := ?_) rfl (by kernel_rfl) (by kernel_rfl) (by kernel_rfl) (fun _ _ _ h => h) (Or.inl ⟨by rfl, ?_⟩) hHeld ?_
                      rotate_left
                      · intro w hSw; (try dsimp only at hSw); go_simp; try with_reducible rfl
                      try simp only [Act.put, List.setIfInBounds_toArray, List.set_cons_zero, List.set_cons_succ]
                      refine wpAnyH_take (i := 2) (oi := { dst := (some 91), op := (Op.indexAddr 22 (Operand.tmp 89) (Operand.tmp 90)), type := 0, pos := "law.go:149", after := #[{ on := 0, ground := Ground.data }, { on := 1, ground := Ground.data }], guard := none }) (v := ?_) rfl (by kernel_rfl) (by kernel_rfl) (by kernel_rfl) (fun _ _ _ h => h) (Or.inl ⟨by rfl, ?_⟩) hHeld ?_
                      rotate_left
                      · intro w hSw; (try dsimp only at hSw); go_simp; try with_reducible rfl
                      try simp only [Act.put, List.setIfInBounds_toArray, List.set_cons_zero, List.set_cons_succ]
                      refine wpAnyH_take (i := 3) (oi := { dst := (some 92), op := (Op.load 41 (Operand.tmp 91)), type := 41, pos := "law.go:149", after := #[{ on := 2, ground := Ground.data }], guard := none }) (v := ?_) rfl (by kernel_rfl) (by kernel_rfl) (by kernel_rfl) (fun _ _ _ h => h) (Or.inl ⟨by rfl, ?_⟩) hHeld ?_
                      rotate_left
                      · intro w hSw; (try dsimp only at hSw); go_simp; try with_reducible rfl
                      try simp only [Act.put, List.setIfInBounds_toArray, List.set_cons_zero, List.set_cons_succ]
                      refine wpAnyH_take (i := 4) (oi := { dst := (some 93), op := (Op.move (Operand.tmp 1)), type := 3, pos := "law.go:149", after := #[], guard := none }) (v := ?_) rfl (by kernel_rfl) (by kernel_rfl) (by kernel_rfl) (fun _ _ _ h => h) (Or.inl ⟨by rfl, ?_⟩) hHeld ?_
                      rotate_left
                      · intro w hSw; (try dsimp only at hSw); go_simp; try with_reducible rfl
                      try simp only [Act.put, List.setIfInBounds_toArray, List.set_cons_zero, List.set_cons_succ]
                      refine wpAnyH_take (i := 5) (oi := { dst := (some 94), op := (Op.move (Operand.tmp 2)), type := 3, pos := "law.go:149", after := #[], guard := none }) (v := ?_) rfl (by kernel_rfl) (by kernel_rfl) (by kernel_rfl) (fun _ _ _ h => h) (Or.inl ⟨by rfl, ?_⟩) hHeld ?_
                      rotate_left
                      · intro w hSw; (try dsimp only at hSw); go_simp; try with_reducible rfl
                      try simp only [Act.put, List.setIfInBounds_toArray, List.set_cons_zero, List.set_cons_succ]
                      refine wpAnyH_take (i := 6) (oi := { dst := (some 95), op := (Op.move (Operand.tmp 8)), type := 35, pos := "law.go:149", after := #[], guard := none }) (v := ?_) rfl (by kernel_rfl) (by kernel_rfl) (by kernel_rfl) (fun _ _ _ h => h) (Or.inl ⟨by rfl, ?_⟩) hHeld ?_
                      rotate_left
                      · intro w hSw; (try dsimp only at hSw); go_simp; try with_reducible rfl
                      try simp only [Act.put, List.setIfInBounds_toArray, List.set_cons_zero, List.set_cons_succ]
                      refine wpAnyH_take (i := 7) (oi := { dst := (some 96), op := (Op.move (Operand.tmp 12)), type := 3, pos := "law.go:149", after := #[], guard := none }) (v := ?_) rfl (by kernel_rfl) (by kernel_rfl) (by kernel_rfl) (fun _ _ _ h => h) (Or.inl ⟨by rfl, ?_⟩) hHeld ?_
                      rotate_left
                      · intro w hSw; (try dsimp only at hSw); go_simp; try with_reducible rfl
                      try simp only [Act.put, List.setIfInBounds_toArray, List.set_cons_zero, List.set_cons_succ]
                      refine wpAnyH_take (i := 8) (oi := { dst := (some 97), op := (Op.indexAddr 35 (Operand.tmp 95) (Operand.tmp 96)), type := 0, pos := "law.go:149", after := #[{ on := 6, ground := Ground.data }, { on := 7, ground := Ground.data }], guard := none }) (v := ?_) rfl (by kernel_rfl) (by kernel_rfl) (by kernel_rfl) (fun _ _ _ h => h) (Or.inl ⟨by rfl, ?_⟩) hHeld ?_
                      rotate_left
                      · intro w hSw; (try dsimp only at hSw); go_simp; try with_reducible rfl
                      try simp only [Act.put, List.setIfInBounds_toArray, List.set_cons_zero, List.set_cons_succ]
                      refine wpAnyH_take (i := 9) (oi := { dst := (some 98), op := (Op.load 3 (Operand.tmp 97)), type := 3, pos := "law.go:149", after := #[{ on := 8, ground := Ground.data }], guard := none }) (v := ?_) rfl (by kernel_rfl) (by kernel_rfl) (by kernel_rfl) (fun _ _ _ h => h) (Or.inl ⟨by rfl, ?_⟩) hHeld ?_
                      rotate_left
                      · intro w hSw; (try dsimp only at hSw); go_simp; try with_reducible rfl
                      try simp only [Act.put, List.setIfInBounds_toArray, List.set_cons_zero, List.set_cons_succ]
                      refine wpAnyH_take (i := 10) (oi := { dst := (some 99), op := (Op.build 41 #[(0, (Operand.tmp 93)), (1, (Operand.tmp 94)), (2, (Operand.tmp 98))]), type := 41, pos := "law.go:149", after := #[{ on := 4, ground := Ground.data }, { on := 5, ground := Ground.data }, { on := 9, ground := Ground.data }], guard := none }) (v := ?_) rfl (by kernel_rfl) (by kernel_rfl) (by kernel_rfl) (fun _ _ _ h => h) (Or.inl ⟨by rfl, ?_⟩) hHeld ?_
                      rotate_left
                      · intro w hSw; (try dsimp only at hSw); go_simp; try with_reducible rfl
                      try simp only [Act.put, List.setIfInBounds_toArray, List.set_cons_zero, List.set_cons_succ]
                      refine wpAnyH_take (i := 11) (oi := { dst := (some 100), op := (Op.binOp BinOp.eql 41 (Operand.tmp 92) (Operand.tmp 99) 41), type := 4, pos := "law.go:149", after := #[{ on := 3, ground := Ground.data }, { on := 10, ground := Ground.data }], guard := none }) (v := .bool bb) rfl (by kernel_rfl) (by kernel_rfl) (by kernel_rfl) (fun _ _ _ h => h) (Or.inl ⟨by rfl, ?_⟩) hHeld ?_
                      · intro w hSw; (try dsimp only at hSw); go_simp; rw [← HBB.out]; by_cases a1 : x0 = fn <;> by_cases a2 : x1 = pc <;> by_cases a3 : x2 = x <;> simp [a1, a2, a3]
                      try simp only [Act.put, List.setIfInBounds_toArray, List.set_cons_zero, List.set_cons_succ]
                      refine wpAnyH_done (by kernel_rfl) ?_ _
                      have HW2 := Aside0.mk hHeld.2.2.2.2
                      have hwm : IntKind.i64.wrap ((m : Int) + 1) = (m : Int) + 1 := by have := HTL.out; rw [IntKind.wrap_i64]; omega
                      cases bb with
                      | false =>
                        go_wp2_with fail
                        go_roundw
                        case rel => exact ⟨m, q + 1, rfl, by go_num, HNX.out HBB.out, HW2.out⟩
                        case measure => simp [intOf]; omega
                      | true =>
                        go_wp2_with fail
                        go_roundw
                        case rel => exact ⟨m + 1, l2.length + 1, by go_num, by go_num, .inr ⟨rfl, rfl⟩, HW2.out⟩
                        case measure => simp [intOf]; omega
                    · exact absurd hq2 (by omega)
                  · have hm := HEND.out m q HCN.out (by omega)
                    have hwi := HWI.out
                    subst hm
                    go_wp2_with fail
                    go_roundw
                    case rel => exact ⟨i + 1, by omega, by go_num, by go_num, HW.out⟩
                    case measure => simp [intOf]; omega
              · have hie : i = t.length := by omega
                subst hie
                go_wp2_with fail
                go_ret
                exact ⟨rfl, below_step HB2.out HW.out⟩

  · have e2 : decide (200 < l.length) = false := decide_eq_false (by omega)
    have e3 : decide ((200 : Int) < (l.length : Int)) = false := decide_eq_false (by omega)
    go_upto_region 4 with (fail)
    rw [← h2]
    clear e2 e3 h1 h2
    go_upto_block 0 with (go_at_call 12; with_reducible refine HTC.out.mono ?_; rintro r2 w2 ⟨A2, c2, rfl, ha2, hb2⟩; have HA2 := Aside0.mk ha2; have HE2 := Aside0.mk (HE1.out.below hb2); have HB2 := Aside0.mk (below_step HB.out hb2); clear ha2 hb2)
    clear HTC HE1 HSL HEE
    go_wp2_with fail
    go_loopw [9] (fun iv wx => ∃ (i : Nat), i ≤ t.length ∧ iv = .int .i64 (i : Int) ∧ Hid (Below w2.heap.size w2 wx)) (fun iv _ => t.length - (intOf iv).toNat)
    case atStart => exact ⟨0, Nat.zero_le _, rfl, Below.refl _ _⟩
    case round =>
      obtain ⟨i, hi, rfl, h1⟩ := hrel
      have HW := Aside0.mk (show Below w2.heap.size w2 wr from h1)
      clear h1
      by_cases hlt : (i : Int) < (t.length : Int)
      · have hi1 : i < t.length := by omega
        have hi0 : (0 : Int) ≤ (i : Int) := Int.natCast_nonneg i
        have hwi : IntKind.i64.wrap ((i : Int) + 1) = (i : Int) + 1 := by have := HTL.out; rw [IntKind.wrap_i64]; omega
        have HWI := Aside0.mk hwi
        clear hwi
        by_cases hz : i = 0
        · have e1 : decide ((0 : Int) < (i : Int)) = false := decide_eq_false (by omega)
          have e2 : decide (0 < i) = false := decide_eq_false (by omega)
          clear hz
          go_upto_region 8 with (fail)
          refine wp_region_held_drew (S := fun w' => Below w2.heap.size w2 w') (by kernel_rfl) (below_drew HW.out) (fun hHeld => ?_)
          refine wpAnyH_take (i := 0) (oi := { dst := (some 31), op := (Op.move (Operand.tmp 9)), type := 3, pos := "law.go:137", after := #[], guard := none }) (v := ?_) rfl (by kernel_rfl) (by kernel_rfl) (by kernel_rfl) (fun _ _ _ h => h) (Or.inl ⟨by rfl, ?_⟩) hHeld ?_
          rotate_left
          · intro w hSw; (try dsimp only at hSw); go_simp; try with_reducible rfl
          try simp only [Act.put, List.setIfInBounds_toArray, List.set_cons_zero, List.set_cons_succ]
          refine wpAnyH_take (i := 1) (oi := { dst := (some 32), op := (Op.binOp BinOp.gtr 3 (Operand.tmp 31) (Operand.const (Value.int IntKind.i64 0)) 3), type := 4, pos := "law.go:137", after := #[{ on := 0, ground := Ground.data }], guard := none }) (v := ?_) rfl (by kernel_rfl) (by kernel_rfl) (by kernel_rfl) (fun _ _ _ h => h) (Or.inl ⟨by rfl, ?_⟩) hHeld ?_
          rotate_left
          · intro w hSw; (try dsimp only at hSw); go_simp; try with_reducible rfl
          try simp only [Act.put, List.setIfInBounds_toArray, List.set_cons_zero, List.set_cons_succ]
          refine wpAnyH_take (i := 2) (oi := { dst := (some 33), op := (Op.move (Operand.tmp 32)), type := 4, pos := "law.go:137", after := #[{ on := 1, ground := Ground.data }], guard := none }) (v := ?_) rfl (by kernel_rfl) (by kernel_rfl) (by kernel_rfl) (fun _ _ _ h => h) (Or.inl ⟨by rfl, ?_⟩) hHeld ?_
          rotate_left
          · intro w hSw; (try dsimp only at hSw); go_simp; try with_reducible rfl
          try simp only [Act.put, List.setIfInBounds_toArray, List.set_cons_zero, List.set_cons_succ]
          refine wpAnyH_take (i := 3) (oi := { dst := (some 34), op := (Op.move (Operand.tmp 8)), type := 35, pos := "law.go:137", after := #[{ on := 2, ground := Ground.guard }], guard := (some (2, true)) }) rfl (by kernel_rfl) (by kernel_rfl) (by kernel_rfl) (fun _ _ _ h => h) (Or.inr ⟨by rfl, rfl⟩) hHeld ?_
          try simp only [Act.put, List.setIfInBounds_toArray, List.set_cons_zero, List.set_cons_succ]
          refine wpAnyH_take (i := 4) (oi := { dst := (some 35), op := (Op.move (Operand.tmp 9)), type := 3, pos := "law.go:137", after := #[{ on := 2, ground := Ground.guard }], guard := (some (2, true)) }) rfl (by kernel_rfl) (by kernel_rfl) (by kernel_rfl) (fun _ _ _ h => h) (Or.inr ⟨by rfl, rfl⟩) hHeld ?_
          try simp only [Act.put, List.setIfInBounds_toArray, List.set_cons_zero, List.set_cons_succ]
          refine wpAnyH_take (i := 5) (oi := { dst := (some 36), op := (Op.indexAddr 35 (Operand.tmp 34) (Operand.tmp 35)), type := 0, pos := "law.go:137", after := #[{ on := 3, ground := Ground.data }, { on := 4, ground := Ground.data }, { on := 2, ground := Ground.guard }], guard := (some (2, true)) }) rfl (by kernel_rfl) (by kernel_rfl) (by kernel_rfl) (fun _ _ _ h => h) (Or.inr ⟨by rfl, rfl⟩) hHeld ?_
          try simp only [Act.put, List.setIfInBounds_toArray, List.set_cons_zero, List.set_cons_succ]
          refine wpAnyH_take (i := 6) (oi := { dst := (some 37), op := (Op.load 3 (Operand.tmp 36)), type := 3, pos := "law.go:137", after := #[{ on := 5, ground := Ground.data }, { on := 2, ground := Ground.guard }], guard := (some (2, true)) }) rfl (by kernel_rfl) (by kernel_rfl) (by kernel_rfl) (fun _ _ _ h => h) (Or.inr ⟨by rfl, rfl⟩) hHeld ?_
          try simp only [Act.put, List.setIfInBounds_toArray, List.set_cons_zero, List.set_cons_succ]
          refine wpAnyH_take (i := 7) (oi := { dst := (some 38), op := (Op.move (Operand.tmp 8)), type := 35, pos := "law.go:137", after := #[{ on := 2, ground := Ground.guard }], guard := (some (2, true)) }) rfl (by kernel_rfl) (by kernel_rfl) (by kernel_rfl) (fun _ _ _ h => h) (Or.inr ⟨by rfl, rfl⟩) hHeld ?_
          try simp only [Act.put, List.setIfInBounds_toArray, List.set_cons_zero, List.set_cons_succ]
          refine wpAnyH_take (i := 8) (oi := { dst := (some 39), op := (Op.move (Operand.tmp 9)), type := 3, pos := "law.go:137", after := #[{ on := 2, ground := Ground.guard }], guard := (some (2, true)) }) rfl (by kernel_rfl) (by kernel_rfl) (by kernel_rfl) (fun _ _ _ h => h) (Or.inr ⟨by rfl, rfl⟩) hHeld ?_
          try simp only [Act.put, List.setIfInBounds_toArray, List.set_cons_zero, List.set_cons_succ]
          refine wpAnyH_take (i := 9) (oi := { dst := (some 40), op := (Op.binOp BinOp.sub 3 (Operand.tmp 39) (Operand.const (Value.int IntKind.i64 1)) 3), type := 3, pos := "law.go:137", after := #[{ on := 8, ground := Ground.data }, { on := 2, ground := Ground.guard }], guard := (some (2, true)) }) rfl (by kernel_rfl) (by kernel_rfl) (by kernel_rfl) (fun _ _ _ h => h) (Or.inr ⟨by rfl, rfl⟩) hHeld ?_
          try simp only [Act.put, List.setIfInBounds_toArray, List.set_cons_zero, List.set_cons_succ]
          refine wpAnyH_take (i := 10) (oi := { dst := (some 41), op := (Op.indexAddr 35 (Operand.tmp 38) (Operand.tmp 40)), type := 0, pos := "law.go:137", after := #[{ on := 7, ground := Ground.data }, { on := 9, ground := Ground.data }, { on := 2, ground := Ground.guard }], guard := (some (2, true)) }) rfl (by kernel_rfl) (by kernel_rfl) (by kernel_rfl) (fun _ _ _ h => h) (Or.inr ⟨by rfl, rfl⟩) hHeld ?_
          try simp only [Act.put, List.setIfInBounds_toArray, List.set_cons_zero, List.set_cons_succ]
          refine wpAnyH_take (i := 11) (oi := { dst := (some 42), op := (Op.load 3 (Operand.tmp 41)), type := 3, pos := "law.go:137", after := #[{ on := 10, ground := Ground.data }, { on := 2, ground := Ground.guard }], guard := (some (2, true)) }) rfl (by kernel_rfl) (by kernel_rfl) (by kernel_rfl) (fun _ _ _ h => h) (Or.inr ⟨by rfl, rfl⟩) hHeld ?_
          try simp only [Act.put, List.setIfInBounds_toArray, List.set_cons_zero, List.set_cons_succ]
          refine wpAnyH_take (i := 12) (oi := { dst := (some 43), op := (Op.binOp BinOp.leq 3 (Operand.tmp 37) (Operand.tmp 42) 3), type := 4, pos := "law.go:137", after := #[{ on := 6, ground := Ground.data }, { on := 11, ground := Ground.data }, { on := 2, ground := Ground.guard }], guard := (some (2, true)) }) rfl (by kernel_rfl) (by kernel_rfl) (by kernel_rfl) (fun _ _ _ h => h) (Or.inr ⟨by rfl, rfl⟩) hHeld ?_
          try simp only [Act.put, List.setIfInBounds_toArray, List.set_cons_zero, List.set_cons_succ]
          refine wpAnyH_take (i := 13) (oi := { dst := (some 44), op := (Op.pick (Operand.tmp 33) (Operand.tmp 43) (Operand.const (Value.bool false))), type := 4, pos := "law.go:137", after := #[{ on := 2, ground := Ground.data }, { on := 12, ground := Ground.data }], guard := none }) (v := ?_) rfl (by kernel_rfl) (by kernel_rfl) (by kernel_rfl) (fun _ _ _ h => h) (Or.inl ⟨by rfl, ?_⟩) hHeld ?_
          rotate_left
          · intro w hSw; (try dsimp only at hSw); go_simp; try with_reducible rfl
          try simp only [Act.put, List.setIfInBounds_toArray, List.set_cons_zero, List.set_cons_succ]
          refine wpAnyH_done (by kernel_rfl) ?_ _
          have HW2 := Aside0.mk hHeld
          have hwi := HWI.out
          clear e1 e2
          go_wp2_with fail
          go_roundw
          case rel => exact ⟨i + 1, by omega, by go_num, HW2.out⟩
          case measure => simp [intOf]; omega
        · have e1 : decide ((0 : Int) < (i : Int)) = true := decide_eq_true (by omega)
          have e2 : decide (0 < i) = true := decide_eq_true (by omega)
          obtain ⟨i', hii⟩ : ∃ i', i = i' + 1 := ⟨i - 1, by omega⟩
          obtain ⟨adt, et, _⟩ := HA2.out.at_ i' (by omega)
          have hc1 : ∀ W', Below w2.heap.size w2 W' → W'.cell? (adt.add i') = some (.int .i64 (t.getD i' 0)) := fun W' hb => by
            obtain ⟨ad', e', q⟩ := (HA2.out.below hb).at_ i' (by omega)
            rw [et] at e'
            injection e' with e'
            subst e'
            exact q
          have hc2 : ∀ W', Below w2.heap.size w2 W' → W'.cell? (adt.add i) = some (.int .i64 (t.getD i 0)) := fun W' hb => by
            obtain ⟨ad', e', q⟩ := (HA2.out.below hb).at_ i hi1
            rw [et] at e'
            injection e' with e'
            subst e'
            exact q
          have hup : t.getD i' 0 < t.getD i 0 := by
            rw [List.getD_eq_getElem?_getD, List.getD_eq_getElem?_getD, List.getElem?_eq_getElem (show i' < t.length by omega), List.getElem?_eq_getElem hi1]
            exact List.pairwise_iff_getElem.1 HTO.out.1 i' i (by omega) hi1 (by omega)
          generalize t.getD i' 0 = ta at hc1 hup
          generalize t.getD i 0 = tb at hc2 hup
          have e3 : decide (tb ≤ ta) = false := decide_eq_false (by omega)
          have HSS := Aside0.mk (show ∀ w', Below w2.heap.size w2 w' → (w'.cell? (adt.add i') = some (.int .i64 ta) ∧ w'.cell? (adt.add i) = some (.int .i64 tb) ∧ Below w2.heap.size w2 w') from fun w' hb => ⟨hc1 w' hb, hc2 w' hb, hb⟩)
          have hs1 : IntKind.i64.wrap ((i : Int) - 1) = (i' : Int) := by have := HTL.out; rw [IntKind.wrap_i64]; omega
          have hs2 : wrap64 ((i : Int) - 1) = (i' : Int) := by have := HTL.out; unfold wrap64; omega
          have hs3 : (0 : Int) ≤ (i' : Int) := by omega
          have hs4 : (i' : Int) < (t.length : Int) := by omega
          clear hz hup hc1 hc2 hii
          subst et
          go_upto_region 8 with (fail)
          refine wp_region_held_drew (S := fun w' => w'.cell? (adt.add i') = some (.int .i64 ta) ∧ w'.cell? (adt.add i) = some (.int .i64 tb) ∧ Below w2.heap.size w2 w') (by kernel_rfl) (HSS.out _ (below_drew HW.out)) (fun hHeld => ?_)
          refine wpAnyH_take (i := 0) (oi := { dst := (some 31), op := (Op.move (Operand.tmp 9)), type := 3, pos := "law.go:137", after := #[], guard := none }) (v := ?_) rfl (by kernel_rfl) (by kernel_rfl) (by kernel_rfl) (fun _ _ _ h => h) (Or.inl ⟨by rfl, ?_⟩) hHeld ?_
          rotate_left
          · intro w hSw; (try dsimp only at hSw); go_simp; try with_reducible rfl
          try simp only [Act.put, List.setIfInBounds_toArray, List.set_cons_zero, List.set_cons_succ]
          refine wpAnyH_take (i := 1) (oi := { dst := (some 32), op := (Op.binOp BinOp.gtr 3 (Operand.tmp 31) (Operand.const (Value.int IntKind.i64 0)) 3), type := 4, pos := "law.go:137", after := #[{ on := 0, ground := Ground.data }], guard := none }) (v := ?_) rfl (by kernel_rfl) (by kernel_rfl) (by kernel_rfl) (fun _ _ _ h => h) (Or.inl ⟨by rfl, ?_⟩) hHeld ?_
          rotate_left
          · intro w hSw; (try dsimp only at hSw); go_simp; try with_reducible rfl
          try simp only [Act.put, List.setIfInBounds_toArray, List.set_cons_zero, List.set_cons_succ]
          refine wpAnyH_take (i := 2) (oi := { dst := (some 33), op := (Op.move (Operand.tmp 32)), type := 4, pos := "law.go:137", after := #[{ on := 1, ground := Ground.data }], guard := none }) (v := ?_) rfl (by kernel_rfl) (by kernel_rfl) (by kernel_rfl) (fun _ _ _ h => h) (Or.inl ⟨by rfl, ?_⟩) hHeld ?_
          rotate_left
          · intro w hSw; (try dsimp only at hSw); go_simp; try with_reducible rfl
          try simp only [Act.put, List.setIfInBounds_toArray, List.set_cons_zero, List.set_cons_succ]
          refine wpAnyH_take (i := 3) (oi := { dst := (some 34), op := (Op.move (Operand.tmp 8)), type := 35, pos := "law.go:137", after := #[{ on := 2, ground := Ground.guard }], guard := (some (2, true)) }) (v := ?_) rfl (by kernel_rfl) (by kernel_rfl) (by kernel_rfl) (fun _ _ _ h => h) (Or.inl ⟨by rfl, ?_⟩) hHeld ?_
          rotate_left
          · intro w hSw; (try dsimp only at hSw); go_simp; try with_reducible rfl
          try simp only [Act.put, List.setIfInBounds_toArray, List.set_cons_zero, List.set_cons_succ]
          refine wpAnyH_take (i := 4) (oi := { dst := (some 35), op := (Op.move (Operand.tmp 9)), type := 3, pos := "law.go:137", after := #[{ on := 2, ground := Ground.guard }], guard := (some (2, true)) }) (v := ?_) rfl (by kernel_rfl) (by kernel_rfl) (by kernel_rfl) (fun _ _ _ h => h) (Or.inl ⟨by rfl, ?_⟩) hHeld ?_
          rotate_left
          · intro w hSw; (try dsimp only at hSw); go_simp; try with_reducible rfl
          try simp only [Act.put, List.setIfInBounds_toArray, List.set_cons_zero, List.set_cons_succ]
          refine wpAnyH_take (i := 5) (oi := { dst := (some 36), op := (Op.indexAddr 35 (Operand.tmp 34) (Operand.tmp 35)), type := 0, pos := "law.go:137", after := #[{ on := 3, ground := Ground.data }, { on := 4, ground := Ground.data }, { on := 2, ground := Ground.guard }], guard := (some (2, true)) }) (v := ?_) rfl (by kernel_rfl) (by kernel_rfl) (by kernel_rfl) (fun _ _ _ h => h) (Or.inl ⟨by rfl, ?_⟩) hHeld ?_
          rotate_left
          · intro w hSw; (try dsimp only at hSw); go_simp; try with_reducible rfl
          try simp only [Act.put, List.setIfInBounds_toArray, List.set_cons_zero, List.set_cons_succ]
          refine wpAnyH_take (i := 6) (oi := { dst := (some 37), op := (Op.load 3 (Operand.tmp 36)), type := 3, pos := "law.go:137", after := #[{ on := 5, ground := Ground.data }, { on := 2, ground := Ground.guard }], guard := (some (2, true)) }) (v := ?_) rfl (by kernel_rfl) (by kernel_rfl) (by kernel_rfl) (fun _ _ _ h => h) (Or.inl ⟨by rfl, ?_⟩) hHeld ?_
          rotate_left
          · intro w hSw; (try dsimp only at hSw); go_simp; try with_reducible rfl
          try simp only [Act.put, List.setIfInBounds_toArray, List.set_cons_zero, List.set_cons_succ]
          refine wpAnyH_take (i := 7) (oi := { dst := (some 38), op := (Op.move (Operand.tmp 8)), type := 35, pos := "law.go:137", after := #[{ on := 2, ground := Ground.guard }], guard := (some (2, true)) }) (v := ?_) rfl (by kernel_rfl) (by kernel_rfl) (by kernel_rfl) (fun _ _ _ h => h) (Or.inl ⟨by rfl, ?_⟩) hHeld ?_
          rotate_left
          · intro w hSw; (try dsimp only at hSw); go_simp; try with_reducible rfl
          try simp only [Act.put, List.setIfInBounds_toArray, List.set_cons_zero, List.set_cons_succ]
          refine wpAnyH_take (i := 8) (oi := { dst := (some 39), op := (Op.move (Operand.tmp 9)), type := 3, pos := "law.go:137", after := #[{ on := 2, ground := Ground.guard }], guard := (some (2, true)) }) (v := ?_) rfl (by kernel_rfl) (by kernel_rfl) (by kernel_rfl) (fun _ _ _ h => h) (Or.inl ⟨by rfl, ?_⟩) hHeld ?_
          rotate_left
          · intro w hSw; (try dsimp only at hSw); go_simp; try with_reducible rfl
          try simp only [Act.put, List.setIfInBounds_toArray, List.set_cons_zero, List.set_cons_succ]
          refine wpAnyH_take (i := 9) (oi := { dst := (some 40), op := (Op.binOp BinOp.sub 3 (Operand.tmp 39) (Operand.const (Value.int IntKind.i64 1)) 3), type := 3, pos := "law.go:137", after := #[{ on := 8, ground := Ground.data }, { on := 2, ground := Ground.guard }], guard := (some (2, true)) }) (v := ?_) rfl (by kernel_rfl) (by kernel_rfl) (by kernel_rfl) (fun _ _ _ h => h) (Or.inl ⟨by rfl, ?_⟩) hHeld ?_
          rotate_left
          · intro w hSw; (try dsimp only at hSw); go_simp; try with_reducible rfl
          try simp only [Act.put, List.setIfInBounds_toArray, List.set_cons_zero, List.set_cons_succ]
          refine wpAnyH_take (i := 10) (oi := { dst := (some 41), op := (Op.indexAddr 35 (Operand.tmp 38) (Operand.tmp 40)), type := 0, pos := "law.go:137", after := #[{ on := 7, ground := Ground.data }, { on := 9, ground := Ground.data }, { on := 2, ground := Ground.guard }], guard := (some (2, true)) }) (v := ?_) rfl (by kernel_rfl) (by kernel_rfl) (by kernel_rfl) (fun _ _ _ h => h) (Or.inl ⟨by rfl, ?_⟩) hHeld ?_
          rotate_left
          · intro w hSw; (try dsimp only at hSw); go_simp; try with_reducible rfl
          try simp only [Act.put, List.setIfInBounds_toArray, List.set_cons_zero, List.set_cons_succ]
          refine wpAnyH_take (i := 11) (oi := { dst := (some 42), op := (Op.load 3 (Operand.tmp 41)), type := 3, pos := "law.go:137", after := #[{ on := 10, ground := Ground.data }, { on := 2, ground := Ground.guard }], guard := (some (2, true)) }) (v := ?_) rfl (by kernel_rfl) (by kernel_rfl) (by kernel_rfl) (fun _ _ _ h => h) (Or.inl ⟨by rfl, ?_⟩) hHeld ?_
          rotate_left
          · intro w hSw; (try dsimp only at hSw); go_simp; try with_reducible rfl
          try simp only [Act.put, List.setIfInBounds_toArray, List.set_cons_zero, List.set_cons_succ]
          refine wpAnyH_take (i := 12) (oi := { dst := (some 43), op := (Op.binOp BinOp.leq 3 (Operand.tmp 37) (Operand.tmp 42) 3), type := 4, pos := "law.go:137", after := #[{ on := 6, ground := Ground.data }, { on := 11, ground := Ground.data }, { on := 2, ground := Ground.guard }], guard := (some (2, true)) }) (v := ?_) rfl (by kernel_rfl) (by kernel_rfl) (by kernel_rfl) (fun _ _ _ h => h) (Or.inl ⟨by rfl, ?_⟩) hHeld ?_
          rotate_left
          · intro w hSw; (try dsimp only at hSw); go_simp; try with_reducible rfl
          try simp only [Act.put, List.setIfInBounds_toArray, List.set_cons_zero, List.set_cons_succ]
          refine wpAnyH_take (i := 13) (oi := { dst := (some 44), op := (Op.pick (Operand.tmp 33) (Operand.tmp 43) (Operand.const (Value.bool false))), type := 4, pos := "law.go:137", after := #[{ on := 2, ground := Ground.data }, { on := 12, ground := Ground.data }], guard := none }) (v := ?_) rfl (by kernel_rfl) (by kernel_rfl) (by kernel_rfl) (fun _ _ _ h => h) (Or.inl ⟨by rfl, ?_⟩) hHeld ?_
          rotate_left
          · intro w hSw; (try dsimp only at hSw); go_simp; try with_reducible rfl
          try simp only [Act.put, List.setIfInBounds_toArray, List.set_cons_zero, List.set_cons_succ]
          refine wpAnyH_done (by kernel_rfl) ?_ _
          have HW2 := Aside0.mk hHeld.2.2
          have hwi := HWI.out
          clear e1 e2 e3 hs1 hs2 hs3 hs4
          go_wp2_with fail
          go_roundw
          case rel => exact ⟨i + 1, by omega, by go_num, HW2.out⟩
          case measure => simp [intOf]; omega
      · go_upto_block 2 with (fail)
        go_wp2_with fail
        go_loopw [10] (fun iv wx => ∃ (j : Nat), j ≤ l2.length ∧ iv = .int .i64 (j : Int) ∧ Hid (Below w2.heap.size w2 wx)) (fun iv _ => l2.length - (intOf iv).toNat)
        case atStart => exact ⟨0, Nat.zero_le _, rfl, HW.out⟩
        case round =>
          clear HW
          obtain ⟨j, hj, rfl, h1⟩ := hrel
          have HW := Aside0.mk (show Below w2.heap.size w2 wr from h1)
          clear h1
          by_cases hltj : (j : Int) < (l2.length : Int)
          · have hj1 : j < l2.length := by omega
            have hj0 : (0 : Int) ≤ (j : Int) := Int.natCast_nonneg j
            have hwj : IntKind.i64.wrap ((j : Int) + 1) = (j : Int) + 1 := by have := HLL.out; rw [IntKind.wrap_i64]; omega
            have HWJ := Aside0.mk hwj
            clear hwj
            obtain ⟨ade, ee⟩ := HE2.out.addr (by omega)
            have hcells := edge_cell HE2.out ee (W' := wr) HW.out j hj1
            have hmem : l2[j].f0 = fn → l2[j].f1 = pc → l2[j].f2 ∈ t := fun h1 h2 => (HTO.out.2 _).2 (mem_toL.2 ⟨l2[j], List.getElem_mem hj1, h1, h2, rfl⟩)
            generalize l2[j].f0 = x0 at hcells hmem
            generalize l2[j].f1 = x1 at hcells hmem
            generalize l2[j].f2 = x2 at hcells hmem
            obtain ⟨q0, q1, q2⟩ := hcells
            subst ee
            by_cases d1 : x0 = fn
            · by_cases d2 : x1 = pc
              · have HM : Aside0 (decide (x2 ∈ t) = true) := Aside0.mk (decide_eq_true (hmem d1 d2))
                have hwj := HWJ.out
                subst d1 d2
                clear hmem
                go_wp2_with (go_at_call 18; with_reducible refine (has_d t _ _ x2 true _ (HA2.out.below HW.out) HTL.out.2 HM.out).mono ?_; rintro r7 w7 ⟨rfl, hb7⟩; replace HW := Aside0.mk (below_step HW.out hb7); clear hb7)
                go_roundw
                case rel => exact ⟨j + 1, by omega, by go_num, HW.out⟩
                case measure => simp [intOf]; omega
              · have e1 : (x1 == pc) = false := beq_eq_false_iff_ne.mpr d2
                have hwj := HWJ.out
                subst d1
                clear hmem d2
                go_wp2_with fail
                go_roundw
                case rel => exact ⟨j + 1, by omega, by go_num, HW.out⟩
                case measure => simp [intOf]; omega
            · have e1 : (x0 == fn) = false := beq_eq_false_iff_ne.mpr d1
              have hwj := HWJ.out
              clear hmem d1
              go_wp2_with fail
              go_roundw
              case rel => exact ⟨j + 1, by omega, by go_num, HW.out⟩
              case measure => simp [intOf]; omega
          · go_upto_block 4 with (fail)
            go_wp2_with fail
            go_loopw [11, 12] (fun mv iv wx => ∃ (i : Nat), i ≤ t.length ∧ mv = .int .i64 (i : Int) ∧ iv = .int .i64 (i : Int) ∧ Hid (Below w2.heap.size w2 wx)) (fun _ iv _ => t.length - (intOf iv).toNat)
            case atStart => exact ⟨0, Nat.zero_le _, rfl, rfl, HW.out⟩
            case round =>
              clear HW
              obtain ⟨i, hi, rfl, rfl, h1⟩ := hrel
              have HW := Aside0.mk (show Below w2.heap.size w2 wr from h1)
              clear h1
              by_cases hlti : (i : Int) < (t.length : Int)
              · have hi1 : i < t.length := by omega
                have hi0 : (0 : Int) ≤ (i : Int) := Int.natCast_nonneg i
                have hwi : IntKind.i64.wrap ((i : Int) + 1) = (i : Int) + 1 := by have := HTL.out; rw [IntKind.wrap_i64]; omega
                have HWI := Aside0.mk hwi
                clear hwi
                obtain ⟨adt, et, _⟩ := HA2.out.at_ i hi1
                have hc2 : ∀ W', Below w2.heap.size w2 W' → W'.cell? (adt.add i) = some (.int .i64 (t.getD i 0)) := fun W' hb => by
                  obtain ⟨ad', e', q⟩ := (HA2.out.below hb).at_ i hi1
                  rw [et] at e'
                  injection e' with e'
                  subst e'
                  exact q
                have HEND := Aside0.mk (fun m q (h : Cnt l2 fn pc (t.getD i 0) i m q) (hq : ¬ q < l2.length) => cnt_end HTO.out hi1 h hq)
                generalize t.getD i 0 = x at hc2 HEND
                have HC2 := Aside0.mk hc2
                clear hc2
                subst et
                go_upto_block 6 with (fail)
                go_wp2_with fail
                go_loopw [11, 13] (fun mv qv wx => ∃ (m q : Nat), mv = .int .i64 (m : Int) ∧ qv = .int .i64 (q : Int) ∧ Hid (Cnt l2 fn pc x i m q) ∧ Hid (Below w2.heap.size w2 wx)) (fun _ qv _ => l2.length + 1 - (intOf qv).toNat)
                case atStart => exact ⟨i, 0, rfl, rfl, .inl ⟨rfl, Nat.zero_le _, fun j hj => absurd hj (Nat.not_lt_zero _)⟩, HW.out⟩
                case round =>
                  clear HW
                  obtain ⟨m, q, rfl, rfl, h1, h2⟩ := hrel
                  have HCN := Aside0.mk (show Cnt l2 fn pc x i m q from h1)
                  have HW := Aside0.mk (show Below w2.heap.size w2 wr from h2)
                  clear h1 h2
                  by_cases hltq : (q : Int) < (l2.length : Int)
                  · have hq1 : q < l2.length := by omega
                    have hq0 : (0 : Int) ≤ (q : Int) := Int.natCast_nonneg q
                    have hwq : IntKind.i64.wrap ((q : Int) + 1) = (q : Int) + 1 := by have := HLL.out; rw [IntKind.wrap_i64]; omega
                    have hwl : IntKind.i64.wrap ((l2.length : Int) + 1) = (l2.length : Int) + 1 := by have := HLL.out; rw [IntKind.wrap_i64]; omega
                    have hcn := HCN.out
                    rcases hcn with ⟨rfl, hq2, hno⟩ | ⟨_, hq2⟩
                    · obtain ⟨ade, ee⟩ := HE2.out.addr (by omega)
                      have hcells := fun W' hb => edge_cell HE2.out ee (W' := W') hb q hq1
                      have hget : l2.getD q z41 = l2[q] := by rw [List.getD_eq_getElem?_getD, List.getElem?_eq_getElem hq1]; rfl
                      have hnext : isE fn pc x l2[q] = false → Cnt l2 fn pc x m m (q + 1) := fun h => .inl ⟨rfl, by omega, fun j hj => by
                        by_cases hjq : j = q
                        · subst hjq; rw [hget]; exact h
                        · exact hno j (by omega)⟩
                      unfold isE at hnext
                      generalize l2[q].f0 = x0 at hcells hnext
                      generalize l2[q].f1 = x1 at hcells hnext
                      generalize l2[q].f2 = x2 at hcells hnext
                      have HNX := Aside0.mk hnext
                      have HSS := Aside0.mk (show ∀ w', Below w2.heap.size w2 w' → (w'.cell? (ade.add (q * 3)) = some (.int .i64 x0) ∧ w'.cell? ⟨(ade.add (q * 3)).block, (ade.add (q * 3)).off + 1, none⟩ = some (.int .i64 x1) ∧ w'.cell? ⟨(ade.add (q * 3)).block, (ade.add (q * 3)).off + 2, none⟩ = some (.int .i64 x2) ∧ w'.cell? (adt.add m) = some (.int .i64 x) ∧ Below w2.heap.size w2 w') from fun w' hb => ⟨(hcells w' hb).1, (hcells w' hb).2.1, (hcells w' hb).2.2, HC2.out w' hb, hb⟩)
                      obtain ⟨bb, hbb⟩ : ∃ bb, (decide (x0 = fn) && (decide (x1 = pc) && decide (x2 = x))) = bb := ⟨_, rfl⟩
                      have HBB := Aside0.mk hbb
                      clear hcells hnext hget hno hq2 hbb
                      subst ee
                      go_upto_region 22 with (fail)
                      refine wp_region_held_drew (S := fun w' => w'.cell? (ade.add (q * 3)) = some (.int .i64 x0) ∧ w'.cell? ⟨(ade.add (q * 3)).block, (ade.add (q * 3)).off + 1, none⟩ = some (.int .i64 x1) ∧ w'.cell? ⟨(ade.add (q * 3)).block, (ade.add (q * 3)).off + 2, none⟩ = some (.int .i64 x2) ∧ w'.cell? (adt.add m) = some (.int .i64 x) ∧ Below w2.heap.size w2 w') (by kernel_rfl) (HSS.out _ (below_drew HW.out)) (fun hHeld => ?_)
                      refine wpAnyH_take (i := 0) (oi := { dst := (some 89), op := (Op.move (Operand.tmp 0)), type := 22, pos := "law.go:149", after := #[], guard := none }) (v := ?_) rfl (by kernel_rfl) (by kernel_rfl) (by kernel_rfl) (fun _ _ _ h => h) (Or.inl ⟨by rfl, ?_⟩) hHeld ?_
                      rotate_left
                      · intro w hSw; (try dsimp only at hSw); go_simp; try with_reducible rfl
                      try simp only [Act.put, List.setIfInBounds_toArray, List.set_cons_zero, List.set_cons_succ]
                      refine wpAnyH_take (i := 1) (oi := { dst := (some 90), op := (Op.move (Operand.tmp 13)), type := 3, pos := "law.go:149", after := #[], guard := none }) (v := ?_) rfl (by kernel_rfl) (by kernel_rfl) (by kernel_rfl) (fun _ _ _ h => h) (Or.inl ⟨by rfl, ?_⟩) hHeld ?_
                      rotate_left
                      · intro w hSw; (try dsimp only at hSw); go_simp; try with_reducible rfl
                      try simp only [Act.put, List.setIfInBounds_toArray, List.set_cons_zero, List.set_cons_succ]
                      refine wpAnyH_take (i := 2) (oi := { dst := (some 91), op := (Op.indexAddr 22 (Operand.tmp 89) (Operand.tmp 90)), type := 0, pos := "law.go:149", after := #[{ on := 0, ground := Ground.data }, { on := 1, ground := Ground.data }], guard := none }) (v := ?_) rfl (by kernel_rfl) (by kernel_rfl) (by kernel_rfl) (fun _ _ _ h => h) (Or.inl ⟨by rfl, ?_⟩) hHeld ?_
                      rotate_left
                      · intro w hSw; (try dsimp only at hSw); go_simp; try with_reducible rfl
                      try simp only [Act.put, List.setIfInBounds_toArray, List.set_cons_zero, List.set_cons_succ]
                      refine wpAnyH_take (i := 3) (oi := { dst := (some 92), op := (Op.load 41 (Operand.tmp 91)), type := 41, pos := "law.go:149", after := #[{ on := 2, ground := Ground.data }], guard := none }) (v := ?_) rfl (by kernel_rfl) (by kernel_rfl) (by kernel_rfl) (fun _ _ _ h => h) (Or.inl ⟨by rfl, ?_⟩) hHeld ?_
                      rotate_left
                      · intro w hSw; (try dsimp only at hSw); go_simp; try with_reducible rfl
                      try simp only [Act.put, List.setIfInBounds_toArray, List.set_cons_zero, List.set_cons_succ]
                      refine wpAnyH_take (i := 4) (oi := { dst := (some 93), op := (Op.move (Operand.tmp 1)), type := 3, pos := "law.go:149", after := #[], guard := none }) (v := ?_) rfl (by kernel_rfl) (by kernel_rfl) (by kernel_rfl) (fun _ _ _ h => h) (Or.inl ⟨by rfl, ?_⟩) hHeld ?_
                      rotate_left
                      · intro w hSw; (try dsimp only at hSw); go_simp; try with_reducible rfl
                      try simp only [Act.put, List.setIfInBounds_toArray, List.set_cons_zero, List.set_cons_succ]
                      refine wpAnyH_take (i := 5) (oi := { dst := (some 94), op := (Op.move (Operand.tmp 2)), type := 3, pos := "law.go:149", after := #[], guard := none }) (v := ?_) rfl (by kernel_rfl) (by kernel_rfl) (by kernel_rfl) (fun _ _ _ h => h) (Or.inl ⟨by rfl, ?_⟩) hHeld ?_
                      rotate_left
                      · intro w hSw; (try dsimp only at hSw); go_simp; try with_reducible rfl
                      try simp only [Act.put, List.setIfInBounds_toArray, List.set_cons_zero, List.set_cons_succ]
                      refine wpAnyH_take (i := 6) (oi := { dst := (some 95), op := (Op.move (Operand.tmp 8)), type := 35, pos := "law.go:149", after := #[], guard := none }) (v := ?_) rfl (by kernel_rfl) (by kernel_rfl) (by kernel_rfl) (fun _ _ _ h => h) (Or.inl ⟨by rfl, ?_⟩) hHeld ?_
                      rotate_left
                      · intro w hSw; (try dsimp only at hSw); go_simp; try with_reducible rfl
                      try simp only [Act.put, List.setIfInBounds_toArray, List.set_cons_zero, List.set_cons_succ]
                      refine wpAnyH_take (i := 7) (oi := { dst := (some 96), op := (Op.move (Operand.tmp 12)), type := 3, pos := "law.go:149", after := #[], guard := none }) (v := ?_) rfl (by kernel_rfl) (by kernel_rfl) (by kernel_rfl) (fun _ _ _ h => h) (Or.inl ⟨by rfl, ?_⟩) hHeld ?_
                      rotate_left
                      · intro w hSw; (try dsimp only at hSw); go_simp; try with_reducible rfl
                      try simp only [Act.put, List.setIfInBounds_toArray, List.set_cons_zero, List.set_cons_succ]
                      refine wpAnyH_take (i := 8) (oi := { dst := (some 97), op := (Op.indexAddr 35 (Operand.tmp 95) (Operand.tmp 96)), type := 0, pos := "law.go:149", after := #[{ on := 6, ground := Ground.data }, { on := 7, ground := Ground.data }], guard := none }) (v := ?_) rfl (by kernel_rfl) (by kernel_rfl) (by kernel_rfl) (fun _ _ _ h => h) (Or.inl ⟨by rfl, ?_⟩) hHeld ?_
                      rotate_left
                      · intro w hSw; (try dsimp only at hSw); go_simp; try with_reducible rfl
                      try simp only [Act.put, List.setIfInBounds_toArray, List.set_cons_zero, List.set_cons_succ]
                      refine wpAnyH_take (i := 9) (oi := { dst := (some 98), op := (Op.load 3 (Operand.tmp 97)), type := 3, pos := "law.go:149", after := #[{ on := 8, ground := Ground.data }], guard := none }) (v := ?_) rfl (by kernel_rfl) (by kernel_rfl) (by kernel_rfl) (fun _ _ _ h => h) (Or.inl ⟨by rfl, ?_⟩) hHeld ?_
                      rotate_left
                      · intro w hSw; (try dsimp only at hSw); go_simp; try with_reducible rfl
                      try simp only [Act.put, List.setIfInBounds_toArray, List.set_cons_zero, List.set_cons_succ]
                      refine wpAnyH_take (i := 10) (oi := { dst := (some 99), op := (Op.build 41 #[(0, (Operand.tmp 93)), (1, (Operand.tmp 94)), (2, (Operand.tmp 98))]), type := 41, pos := "law.go:149", after := #[{ on := 4, ground := Ground.data }, { on := 5, ground := Ground.data }, { on := 9, ground := Ground.data }], guard := none }) (v := ?_) rfl (by kernel_rfl) (by kernel_rfl) (by kernel_rfl) (fun _ _ _ h => h) (Or.inl ⟨by rfl, ?_⟩) hHeld ?_
                      rotate_left
                      · intro w hSw; (try dsimp only at hSw); go_simp; try with_reducible rfl
                      try simp only [Act.put, List.setIfInBounds_toArray, List.set_cons_zero, List.set_cons_succ]
                      refine wpAnyH_take (i := 11) (oi := { dst := (some 100), op := (Op.binOp BinOp.eql 41 (Operand.tmp 92) (Operand.tmp 99) 41), type := 4, pos := "law.go:149", after := #[{ on := 3, ground := Ground.data }, { on := 10, ground := Ground.data }], guard := none }) (v := .bool bb) rfl (by kernel_rfl) (by kernel_rfl) (by kernel_rfl) (fun _ _ _ h => h) (Or.inl ⟨by rfl, ?_⟩) hHeld ?_
                      · intro w hSw; (try dsimp only at hSw); go_simp; rw [← HBB.out]; by_cases a1 : x0 = fn <;> by_cases a2 : x1 = pc <;> by_cases a3 : x2 = x <;> simp [a1, a2, a3]
                      try simp only [Act.put, List.setIfInBounds_toArray, List.set_cons_zero, List.set_cons_succ]
                      refine wpAnyH_done (by kernel_rfl) ?_ _
                      have HW2 := Aside0.mk hHeld.2.2.2.2
                      have hwm : IntKind.i64.wrap ((m : Int) + 1) = (m : Int) + 1 := by have := HTL.out; rw [IntKind.wrap_i64]; omega
                      cases bb with
                      | false =>
                        go_wp2_with fail
                        go_roundw
                        case rel => exact ⟨m, q + 1, rfl, by go_num, HNX.out HBB.out, HW2.out⟩
                        case measure => simp [intOf]; omega
                      | true =>
                        go_wp2_with fail
                        go_roundw
                        case rel => exact ⟨m + 1, l2.length + 1, by go_num, by go_num, .inr ⟨rfl, rfl⟩, HW2.out⟩
                        case measure => simp [intOf]; omega
                    · exact absurd hq2 (by omega)
                  · have hm := HEND.out m q HCN.out (by omega)
                    have hwi := HWI.out
                    subst hm
                    go_wp2_with fail
                    go_roundw
                    case rel => exact ⟨i + 1, by omega, by go_num, by go_num, HW.out⟩
                    case measure => simp [intOf]; omega
              · have hie : i = t.length := by omega
                subst hie
                go_wp2_with fail
                go_ret
                exact ⟨rfl, below_step HB2.out HW.out⟩

end Go.Proofs.Ytjbgealnnlmchaa.G
