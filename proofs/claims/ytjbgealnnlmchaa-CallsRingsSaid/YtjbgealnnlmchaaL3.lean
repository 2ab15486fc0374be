/- The law CallsRings of calls is true: its walk. No condition. -/
import Derived.Test.YtjbgealnnlmchaaRf
set_option linter.unusedVariables false
set_option linter.unusedSimpArgs false
namespace Go.Proofs.Ytjbgealnnlmchaa.G
open Go.RowKit Go.Proofs.Ytjbgealnnlmchaa.B Go.Proofs.YtjbgealnnlmchaaW.PrintWords Go.Proofs.YtjbgealnnlmchaaW.PrintLast Go.Proofs.YtjbgealnnlmchaaW.PrintMore

open Classical in
/-- Does this call lead back to f? -/
noncomputable def backP (k : Nat) (l : List S41) (f : Nat) (e : S41) : Bool := decide (e.f0 = (f : Int) ∧ 0 ≤ e.f2 ∧ e.f2 < (k : Int) ∧ Rch (EE k l) e.f2.toNat f)
theorem back_all {k : Nat} {l : List S41} {f : Nat} (hf : f < k) : l.any (backP k l f) = true ↔ InRing k l f := by
  rw [ring_back_ hf, List.any_eq_true]
  unfold backP
  simp only [decide_eq_true_eq]
theorem back_next (k : Nat) (l : List S41) (f i : Nat) (hi : i < l.length) : (l.take (i + 1)).any (backP k l f) = ((l.take i).any (backP k l f) || backP k l f l[i]) := by
  rw [List.take_succ_eq_append_getElem hi, List.any_append]
  simp
/-- What is known of 'back'. -/
def BackI (k : Nat) (l : List S41) (f : Nat) (b : Bool) (i : Nat) : Prop := b = (l.take i).any (backP k l f)
theorem mem_ints' {s : List Nat} {x : Nat} : (x : Int) ∈ ints s ↔ x ∈ s := by
  unfold ints
  rw [List.mem_map]
  constructor
  · rintro ⟨y, h1, h2⟩
    have : y = x := by omega
    rw [← this]; exact h1
  · exact fun h => ⟨x, h, rfl⟩
theorem sol_cells {W W' : World} {g : Nat} {A : Option Addr} {n c : Nat} (h : W.heap[g]? = some (.cells #[.slice none 0 0, .slice none 0 0, .slice A n c, .int .i64 0] 28 (0, 0))) (hb : Below W.heap.size W W') :
    W'.cell? ⟨g, 0, none⟩ = some (.slice none 0 0) ∧ W'.cell? ⟨g, 1, none⟩ = some (.slice none 0 0) ∧ W'.cell? ⟨g, 2, none⟩ = some (.slice A n c) ∧ W'.cell? ⟨g, 3, none⟩ = some (.int .i64 0) :=
  ⟨(blk_cell (blk_below h hb) 0).trans rfl, (blk_cell (blk_below h hb) 1).trans rfl, (blk_cell (blk_below h hb) 2).trans rfl, (blk_cell (blk_below h hb) 3).trans rfl⟩
theorem edge_cell {W W' : World} {A : Option Addr} {ad : Addr} {l : List S41} {c : Nat} (h : Edg W A l c) (hA : A = some ad) (hb : Below W.heap.size W W') (i : Nat) (hi : i < l.length) :
    W'.cell? (ad.add (i * 3)) = some (.int .i64 l[i].f0) ∧ W'.cell? ⟨(ad.add (i * 3)).block, (ad.add (i * 3)).off + 1, none⟩ = some (.int .i64 l[i].f1) ∧ W'.cell? ⟨(ad.add (i * 3)).block, (ad.add (i * 3)).off + 2, none⟩ = some (.int .i64 l[i].f2) := by
  obtain ⟨ad', e', q0, q1, q2⟩ := at_T41 (Kd.C_below h.C hb) (i : Int) (Int.natCast_nonneg i) (by omega)
  rw [hA] at e'
  injection e' with e'
  subst e'
  rw [Int.toNat_natCast, rd33_at l i hi] at q0 q1 q2
  exact ⟨q0, q1, q2⟩
theorem Edg.addr {W : World} {A : Option Addr} {l : List S41} {c : Nat} (h : Edg W A l c) (hl : 0 < l.length) : ∃ ad, A = some ad := by
  obtain ⟨ad, e, _⟩ := at_T41 h.C 0 (by omega) (by omega)
  exact ⟨ad, e⟩
set_option maxRecDepth 100000 in
set_option maxHeartbeats 4000000 in
theorem CallsRings_walk (n : Int) (hn : 0 ≤ n ∧ n ≤ 255) (l : List S41) (A : Option Addr) (c : Nat) (f : Int) (hf : 0 ≤ f ∧ f ≤ 255) (w : World) (hlc : l.length ≤ c) (hC : Kd.C k41 w A l.length l) :
    Calls Try.prog 5 #[.int .u8 n, .slice A l.length c, .int .u8 f] w fun e w' => e = .returned (.bool true) ∧ Below w.heap.size w w' := by
  obtain ⟨k, l2, hk, hl2, hk40, hF⟩ := few_e n hn l A c w hC hlc
  have HF := Aside0.mk hF
  have HFF := Aside0.mk hf
  have HK40 := Aside0.mk hk40
  clear hC hlc hF hk hl2 hk40 hn hf
  go_enter Try.func5, Try.ntmps5
  go_upto_region 3 with (first
    | (go_at_call 8; with_reducible refine (shown_c _).mono ?_; rintro e w1 ⟨rfl, hk⟩; have HB := Aside0.mk hk; clear hk)
    | (go_at_call 9; with_reducible refine (HF.out _ HB.out).mono ?_; rintro e w2 ⟨rfl, hE, hk⟩; have HE := Aside0.mk hE; replace HB := Aside0.mk hk; clear hE hk))
  clear HF
  by_cases hk0 : k = 0
  · have e1 : ((k : Int) == 0) = true := beq_iff_eq.mpr (by omega)
    have e2 : (k == 0) = true := beq_iff_eq.mpr hk0
    clear hk0
    go_wp2_with fail
    go_ret
    exact ⟨rfl, HB.out⟩
  have hK0 : ((k : Int) == 0) = false := beq_eq_false_iff_ne.mpr (by omega)
  have hK3 : (k == 0) = false := beq_eq_false_iff_ne.mpr hk0
  have hK1 : ¬ (k : Int) = 0 := by omega
  go_upto_region 6 with (fail)
  have HKP : Aside0 (0 < k) := Aside0.mk (by omega)
  clear hK0 hK1 hK3 hk0
  have hcut : 0 ≤ Int.tmod (wrap64 f) (k : Int) ∧ Int.tmod (wrap64 f) (k : Int) < k := by
    have h1 := HFF.out
    have h2 := HKP.out
    rw [show wrap64 f = f by unfold wrap64; omega, Int.tmod_eq_emod_of_nonneg h1.1]
    exact ⟨Int.emod_nonneg _ (by omega), Int.emod_lt_of_pos _ (by omega)⟩
  generalize Int.tmod (wrap64 f) (k : Int) = CC at hcut ⊢
  generalize wrap64 f = cu
  obtain ⟨a, rfl⟩ : ∃ a : Nat, CC = (a : Int) := ⟨CC.toNat, by omega⟩
  have HA : Aside0 (a < k) := Aside0.mk (by omega)
  clear hcut
  go_upto_block 0 with (fail)
  have HX := Aside0.mk (blk_new w2 (.cells #[.slice none 0 0, .slice none 0 0, .slice A l2.length c, .int .i64 0] 28))
  replace HE := Aside0.mk (HE.out.below (below_alloc (Below.refl _ w2) (.cells #[.slice none 0 0, .slice none 0 0, .slice A l2.length c, .int .i64 0] 28)))
  replace HB := Aside0.mk (below_alloc HB.out (.cells #[.slice none 0 0, .slice none 0 0, .slice A l2.length c, .int .i64 0] 28))
  generalize w2.alloc (.cells #[.slice none 0 0, .slice none 0 0, .slice A l2.length c, .int .i64 0] 28) = W3 at HX HE HB ⊢
  generalize w2.heap.size = gs at HX ⊢
  go_wp2_with fail
  go_loopw [12, 13] (fun bv iv wx => ∃ (b : Bool) (i : Nat), i ≤ l2.length ∧ bv = .bool b ∧ iv = .int .i64 (i : Int) ∧ Hid (BackI k l2 a b i) ∧ Hid (Below W3.heap.size W3 wx)) (fun _ iv _ => l2.length - (intOf iv).toNat)
  case atStart => exact ⟨false, 0, Nat.zero_le _, rfl, rfl, rfl, Below.refl _ _⟩
  case round =>
    obtain ⟨b, i, hi, rfl, rfl, h1, h2⟩ := hrel
    have HBV := Aside0.mk (show b = (l2.take i).any (backP k l2 a) from h1)
    have HW := Aside0.mk (show Below W3.heap.size W3 wr from h2)
    clear h1 h2
    by_cases hlt : (i : Int) < (l2.length : Int)
    · have hi1 : i < l2.length := by omega
      have hi0 : (0 : Int) ≤ (i : Int) := Int.natCast_nonneg i
      have hwi : IntKind.i64.wrap ((i : Int) + 1) = (i : Int) + 1 := by have := HE.out.len; rw [IntKind.wrap_i64]; omega
      have HWI := Aside0.mk hwi
      clear hwi
      obtain ⟨ade, ee⟩ := HE.out.addr (by omega)
      have hcells := fun W' hb => edge_cell HE.out ee (W' := W') hb i hi1
      have hst := back_next k l2 a i hi1
      rw [← HBV.out] at hst
      obtain ⟨s, hs⟩ := ROk.exists_ (sizeN (k : Int)) (sizeN_le _) l2 HE.out.len [l2[i].f2] (by simp)
      have hbp : backP k l2 a l2[i] = true ↔ (l2[i].f0 = (a : Int) ∧ 0 ≤ l2[i].f2 ∧ l2[i].f2 < (k : Int) ∧ Rch (EE k l2) l2[i].f2.toNat a) := by unfold backP; simp only [decide_eq_true_eq]
      generalize backP k l2 a l2[i] = bp at hst hbp
      generalize l2[i].f0 = x0 at hcells hbp
      generalize l2[i].f1 = x1 at hcells
      generalize l2[i].f2 = x2 at hcells hbp hs
      have HCE := Aside0.mk hcells
      have HST := Aside0.mk hst
      have HBP := Aside0.mk hbp
      have HS := Aside0.mk hs
      clear hcells hst hbp hs
      have q0 := (HCE.out wr HW.out).1
      have q2 := (HCE.out wr HW.out).2.2
      subst ee
      by_cases d1 : x0 = (a : Int)
      · by_cases d2 : x2 < 0
        · have k2 : decide (0 ≤ x2) = false := decide_eq_false (by omega)
          have hb0 : bp = false := by cases h : bp with | false => rfl | true => exact absurd (HBP.out.1 h).2.1 (by omega)
          have HST2 : Aside0 ((l2.take (i + 1)).any (backP k l2 a) = b) := Aside0.mk (by rw [HST.out, hb0, Bool.or_false])
          have hwi := HWI.out
          subst d1
          clear d2 hb0
          go_wp2_with fail
          go_roundw
          case rel => exact ⟨b, i + 1, by omega, rfl, by go_num, (show BackI k l2 a _ (i + 1) from HST2.out.symm), HW.out⟩
          case measure => simp [intOf]; omega
        · have k2 : decide (0 ≤ x2) = true := decide_eq_true (by omega)
          by_cases d3 : x2 < (k : Int)
          · have k3 : decide (x2 < (k : Int)) = true := decide_eq_true d3
            obtain ⟨u, hux⟩ : ∃ u : Nat, x2 = (u : Int) := ⟨x2.toNat, by omega⟩
            have hu : u < k := by omega
            have hr : bp = decide (a ∈ s) := by
              have h1 := HS.out
              rw [hux] at h1
              rw [sizeN_nat k (by have := HK40.out; omega)] at h1
              have h2 : a ∈ s ↔ Rch (EE k l2) u a := (h1.2 a).trans (rchF_one hu)
              cases h : bp with
              | true =>
                have := (HBP.out.1 h).2.2.2
                rw [hux, Int.toNat_natCast] at this
                exact (decide_eq_true (h2.2 this)).symm
              | false =>
                refine (decide_eq_false (fun hh => ?_)).symm
                have := HBP.out.2 ⟨d1, by omega, d3, by rw [hux, Int.toNat_natCast]; exact h2.1 hh⟩
                rw [this] at h
                cases h
            have HRR := Aside0.mk hr
            subst d1
            clear d2 d3 hu hr hux
            cases b with
            | true =>
              have HST2 : Aside0 ((l2.take (i + 1)).any (backP k l2 a) = true) := Aside0.mk (by rw [HST.out]; rfl)
              go_upto_region 12 with (fail)
              clear q0 q2 k2 k3
              refine wp_region_held_drew (S := fun w' => Below W3.heap.size W3 w') (by kernel_rfl) (below_drew HW.out) (fun hHeld => ?_)
              refine wpAnyH_take (i := 0) (oi := { dst := (some 60), op := (Op.move (Operand.tmp 12)), type := 4, pos := "law.go:96", after := #[], guard := none }) (v := ?_) rfl (by kernel_rfl) (by kernel_rfl) (by kernel_rfl) (fun _ _ _ h => h) (Or.inl ⟨by rfl, ?_⟩) hHeld ?_
              rotate_left
              · intro w hSw; (try dsimp only at hSw); go_simp; try with_reducible rfl
              try simp only [Act.put, List.setIfInBounds_toArray, List.set_cons_zero, List.set_cons_succ]
              refine wpAnyH_take (i := 1) (oi := { dst := (some 61), op := (Op.move (Operand.tmp 60)), type := 4, pos := "law.go:96", after := #[{ on := 0, ground := Ground.data }], guard := none }) (v := ?_) rfl (by kernel_rfl) (by kernel_rfl) (by kernel_rfl) (fun _ _ _ h => h) (Or.inl ⟨by rfl, ?_⟩) hHeld ?_
              rotate_left
              · intro w hSw; (try dsimp only at hSw); go_simp; try with_reducible rfl
              try simp only [Act.put, List.setIfInBounds_toArray, List.set_cons_zero, List.set_cons_succ]
              refine wpAnyH_take (i := 2) (oi := { dst := (some 62), op := (Op.move (Operand.tmp 8)), type := 3, pos := "law.go:96", after := #[{ on := 1, ground := Ground.guard }], guard := (some (1, false)) }) rfl (by kernel_rfl) (by kernel_rfl) (by kernel_rfl) (fun _ _ _ h => h) (Or.inr ⟨by rfl, rfl⟩) hHeld ?_
              try simp only [Act.put, List.setIfInBounds_toArray, List.set_cons_zero, List.set_cons_succ]
              refine wpAnyH_take (i := 3) (oi := { dst := (some 63), op := (Op.move (Operand.tmp 9)), type := 22, pos := "law.go:96", after := #[{ on := 1, ground := Ground.guard }], guard := (some (1, false)) }) rfl (by kernel_rfl) (by kernel_rfl) (by kernel_rfl) (fun _ _ _ h => h) (Or.inr ⟨by rfl, rfl⟩) hHeld ?_
              try simp only [Act.put, List.setIfInBounds_toArray, List.set_cons_zero, List.set_cons_succ]
              refine wpAnyH_take (i := 4) (oi := { dst := (some 64), op := (Op.move (Operand.tmp 13)), type := 3, pos := "law.go:96", after := #[{ on := 1, ground := Ground.guard }], guard := (some (1, false)) }) rfl (by kernel_rfl) (by kernel_rfl) (by kernel_rfl) (fun _ _ _ h => h) (Or.inr ⟨by rfl, rfl⟩) hHeld ?_
              try simp only [Act.put, List.setIfInBounds_toArray, List.set_cons_zero, List.set_cons_succ]
              refine wpAnyH_take (i := 5) (oi := { dst := (some 65), op := (Op.indexAddr 22 (Operand.tmp 63) (Operand.tmp 64)), type := 0, pos := "law.go:96", after := #[{ on := 3, ground := Ground.data }, { on := 4, ground := Ground.data }, { on := 1, ground := Ground.guard }], guard := (some (1, false)) }) rfl (by kernel_rfl) (by kernel_rfl) (by kernel_rfl) (fun _ _ _ h => h) (Or.inr ⟨by rfl, rfl⟩) hHeld ?_
              try simp only [Act.put, List.setIfInBounds_toArray, List.set_cons_zero, List.set_cons_succ]
              refine wpAnyH_take (i := 6) (oi := { dst := (some 66), op := (Op.fieldAddr 41 (Operand.tmp 65) 2), type := 0, pos := "law.go:96", after := #[{ on := 5, ground := Ground.data }, { on := 1, ground := Ground.guard }], guard := (some (1, false)) }) rfl (by kernel_rfl) (by kernel_rfl) (by kernel_rfl) (fun _ _ _ h => h) (Or.inr ⟨by rfl, rfl⟩) hHeld ?_
              try simp only [Act.put, List.setIfInBounds_toArray, List.set_cons_zero, List.set_cons_succ]
              refine wpAnyH_take (i := 7) (oi := { dst := (some 67), op := (Op.load 3 (Operand.tmp 66)), type := 3, pos := "law.go:96", after := #[{ on := 6, ground := Ground.data }, { on := 1, ground := Ground.guard }], guard := (some (1, false)) }) rfl (by kernel_rfl) (by kernel_rfl) (by kernel_rfl) (fun _ _ _ h => h) (Or.inr ⟨by rfl, rfl⟩) hHeld ?_
              try simp only [Act.put, List.setIfInBounds_toArray, List.set_cons_zero, List.set_cons_succ]
              refine wpAnyH_take (i := 8) (oi := { dst := (some 68), op := (Op.call { callee := (Callee.value (Operand.func 10)), args := #[(Operand.tmp 62), (Operand.tmp 67)], argTypes := #[3, 3] }), type := 32, pos := "law.go:96", after := #[{ on := 2, ground := Ground.data }, { on := 7, ground := Ground.data }, { on := 1, ground := Ground.chain }, { on := 1, ground := Ground.guard }], guard := (some (1, false)) }) rfl (by kernel_rfl) (by kernel_rfl) (by kernel_rfl) (fun _ _ _ h => h) (Or.inr ⟨by rfl, rfl⟩) hHeld ?_
              try simp only [Act.put, List.setIfInBounds_toArray, List.set_cons_zero, List.set_cons_succ]
              refine wpAnyH_take (i := 9) (oi := { dst := (some 69), op := (Op.load 28 (Operand.tmp 11)), type := 28, pos := "law.go:96", after := #[{ on := 1, ground := Ground.guard }], guard := (some (1, false)) }) rfl (by kernel_rfl) (by kernel_rfl) (by kernel_rfl) (fun _ _ _ h => h) (Or.inr ⟨by rfl, rfl⟩) hHeld ?_
              try simp only [Act.put, List.setIfInBounds_toArray, List.set_cons_zero, List.set_cons_succ]
              refine wpAnyH_take (i := 10) (oi := { dst := (some 70), op := (Op.call { callee := (Callee.value (Operand.func 14)), args := #[(Operand.tmp 68), (Operand.tmp 69)], argTypes := #[32, 28] }), type := 35, pos := "law.go:96", after := #[{ on := 8, ground := Ground.data }, { on := 9, ground := Ground.data }, { on := 8, ground := Ground.chain }, { on := 1, ground := Ground.guard }], guard := (some (1, false)) }) rfl (by kernel_rfl) (by kernel_rfl) (by kernel_rfl) (fun _ _ _ h => h) (Or.inr ⟨by rfl, rfl⟩) hHeld ?_
              try simp only [Act.put, List.setIfInBounds_toArray, List.set_cons_zero, List.set_cons_succ]
              refine wpAnyH_take (i := 11) (oi := { dst := (some 71), op := (Op.move (Operand.tmp 10)), type := 3, pos := "law.go:96", after := #[{ on := 1, ground := Ground.guard }], guard := (some (1, false)) }) rfl (by kernel_rfl) (by kernel_rfl) (by kernel_rfl) (fun _ _ _ h => h) (Or.inr ⟨by rfl, rfl⟩) hHeld ?_
              try simp only [Act.put, List.setIfInBounds_toArray, List.set_cons_zero, List.set_cons_succ]
              refine wpAnyH_take (i := 12) (oi := { dst := (some 72), op := (Op.call { callee := (Callee.value (Operand.func 18)), args := #[(Operand.tmp 70), (Operand.tmp 71)], argTypes := #[35, 3] }), type := 4, pos := "law.go:96", after := #[{ on := 10, ground := Ground.data }, { on := 11, ground := Ground.data }, { on := 10, ground := Ground.chain }, { on := 1, ground := Ground.guard }], guard := (some (1, false)) }) rfl (by kernel_rfl) (by kernel_rfl) (by kernel_rfl) (fun _ _ _ h => h) (Or.inr ⟨by rfl, rfl⟩) hHeld ?_
              try simp only [Act.put, List.setIfInBounds_toArray, List.set_cons_zero, List.set_cons_succ]
              refine wpAnyH_take (i := 13) (oi := { dst := (some 73), op := (Op.pick (Operand.tmp 61) (Operand.const (Value.bool true)) (Operand.tmp 72)), type := 4, pos := "law.go:96", after := #[{ on := 1, ground := Ground.data }, { on := 12, ground := Ground.data }], guard := none }) (v := ?_) rfl (by kernel_rfl) (by kernel_rfl) (by kernel_rfl) (fun _ _ _ h => h) (Or.inl ⟨by rfl, ?_⟩) hHeld ?_
              rotate_left
              · intro w hSw; (try dsimp only at hSw); go_simp; try with_reducible rfl
              try simp only [Act.put, List.setIfInBounds_toArray, List.set_cons_zero, List.set_cons_succ]
              refine wpAnyH_take (i := 14) (oi := { dst := (some 12), op := (Op.assign (Operand.tmp 73)), type := 4, pos := "law.go:96", after := #[{ on := 13, ground := Ground.data }, { on := 12, ground := Ground.chain }, { on := 0, ground := Ground.phase }, { on := 1, ground := Ground.phase }, { on := 2, ground := Ground.phase }, { on := 3, ground := Ground.phase }, { on := 4, ground := Ground.phase }, { on := 5, ground := Ground.phase }, { on := 6, ground := Ground.phase }, { on := 7, ground := Ground.phase }, { on := 8, ground := Ground.phase }, { on := 9, ground := Ground.phase }, { on := 10, ground := Ground.phase }, { on := 11, ground := Ground.phase }, { on := 12, ground := Ground.phase }, { on := 13, ground := Ground.phase }], guard := none }) (v := ?_) rfl (by kernel_rfl) (by kernel_rfl) (by kernel_rfl) (fun _ _ _ h => h) (Or.inl ⟨by rfl, ?_⟩) hHeld ?_
              rotate_left
              · intro w hSw; (try dsimp only at hSw); go_simp; try with_reducible rfl
              try simp only [Act.put, List.setIfInBounds_toArray, List.set_cons_zero, List.set_cons_succ]
              refine wpAnyH_done (by kernel_rfl) ?_ _
              have HW2 := Aside0.mk hHeld
              have hwi := HWI.out
              go_wp2_with fail
              go_roundw
              case rel => exact ⟨true, i + 1, by omega, rfl, by go_num, (show BackI k l2 a _ (i + 1) from HST2.out.symm), HW2.out⟩
              case measure => simp [intOf]; omega
            | false =>
              have HST2 : Aside0 ((l2.take (i + 1)).any (backP k l2 a) = bp) := Aside0.mk (by rw [HST.out]; rfl)
              go_upto_region 12 with (fail)
              clear q0 q2 k2 k3
              have HQ := Aside0.mk (show ∀ W2 : World, ((W2.cell? ⟨gs, 0, none⟩ = some (.slice none 0 0) ∧ W2.cell? ⟨gs, 1, none⟩ = some (.slice none 0 0) ∧ W2.cell? ⟨gs, 2, none⟩ = some (.slice (some ade) l2.length c) ∧ W2.cell? ⟨gs, 3, none⟩ = some (.int .i64 0)) ∧ W2.cell? ⟨(ade.add (i * 3)).block, (ade.add (i * 3)).off + 2, none⟩ = some (.int .i64 x2) ∧ Below W3.heap.size W3 W2) → Below W3.heap.size W3 W2 from fun _ h => h.2.2)
              have HSS := Aside0.mk (show ∀ W2 : World, Below W3.heap.size W3 W2 → (((W2.cell? ⟨gs, 0, none⟩ = some (.slice none 0 0) ∧ W2.cell? ⟨gs, 1, none⟩ = some (.slice none 0 0) ∧ W2.cell? ⟨gs, 2, none⟩ = some (.slice (some ade) l2.length c) ∧ W2.cell? ⟨gs, 3, none⟩ = some (.int .i64 0)) ∧ W2.cell? ⟨(ade.add (i * 3)).block, (ade.add (i * 3)).off + 2, none⟩ = some (.int .i64 x2) ∧ Below W3.heap.size W3 W2)) from fun W2 hb => ⟨sol_cells HX.out hb, (HCE.out W2 hb).2.2, hb⟩)
              have HD := Aside0.mk (HSS.out _ (below_drew HW.out))
              have HTL : Aside0 ((ints s).length ≤ 1000000) := Aside0.mk (by rw [ints_len]; have := HS.out.len; have := sizeN_le (k : Int); omega)
              obtain ⟨t, ht⟩ : ∃ t, t = ints s := ⟨_, rfl⟩
              have HT := Aside0.mk ht
              have hbv : decide ((a : Int) ∈ t) = bp := by rw [HRR.out, ht, decide_eq_decide]; exact mem_ints'
              have HBB := Aside0.mk hbv
              rw [← ht] at HTL
              clear ht hbv
              go_region_held3 (fun w' => (w'.cell? ⟨gs, 0, none⟩ = some (.slice none 0 0) ∧ w'.cell? ⟨gs, 1, none⟩ = some (.slice none 0 0) ∧ w'.cell? ⟨gs, 2, none⟩ = some (.slice (some ade) l2.length c) ∧ w'.cell? ⟨gs, 3, none⟩ = some (.int .i64 0)) ∧ w'.cell? ⟨(ade.add (i * 3)).block, (ade.add (i * 3)).off + 2, none⟩ = some (.int .i64 x2) ∧ Below W3.heap.size W3 w') (first | assumption | exact HD.out | exact HSS.out _ (below_step (HQ.out _ (by assumption)) hb2)) (first | (go_at_call 10; with_reducible refine (prog_d k _ _ ?aK).mono ?_; (case aK => have := HK40.out; omega); rintro e w5 ⟨pv, rfl, hp, hb2⟩) | (go_at_call 14; with_reducible refine (reached_c k _ _ l2 _ c _ ?aP ?aE s HS.out t HT.out).mono ?_; (case aP => exact hp); (case aE => exact HE.out.below (HQ.out _ (by assumption))); rintro e w5 ⟨A5, c5, rfl, ha, hb2⟩) | (go_at_call 18; with_reducible refine (has_d t _ _ _ bp _ ?aH HTL.out HBB.out).mono ?_; (case aH => exact ha); rintro e w5 ⟨rfl, hb2⟩))
              have HW2 := Aside0.mk (HQ.out _ (by assumption))
              have hwi := HWI.out
              go_wp2_with fail
              go_roundw
              case rel => exact ⟨bp, i + 1, by omega, rfl, by go_num, (show BackI k l2 a _ (i + 1) from HST2.out.symm), HW2.out⟩
              case measure => simp [intOf]; omega
          · have k3 : decide (x2 < (k : Int)) = false := decide_eq_false d3
            have hb0 : bp = false := by cases h : bp with | false => rfl | true => exact absurd (HBP.out.1 h).2.2.1 d3
            have HST2 : Aside0 ((l2.take (i + 1)).any (backP k l2 a) = b) := Aside0.mk (by rw [HST.out, hb0, Bool.or_false])
            have hwi := HWI.out
            subst d1
            clear d2 d3 hb0
            go_wp2_with fail
            go_roundw
            case rel => exact ⟨b, i + 1, by omega, rfl, by go_num, (show BackI k l2 a _ (i + 1) from HST2.out.symm), HW.out⟩
            case measure => simp [intOf]; omega
      · have e1 : (x0 == (a : Int)) = false := beq_eq_false_iff_ne.mpr d1
        have hb0 : bp = false := by cases h : bp with | false => rfl | true => exact absurd (HBP.out.1 h).1 d1
        have HST2 : Aside0 ((l2.take (i + 1)).any (backP k l2 a) = b) := Aside0.mk (by rw [HST.out, hb0, Bool.or_false])
        have hwi := HWI.out
        clear d1 hb0
        go_wp2_with fail
        go_roundw
        case rel => exact ⟨b, i + 1, by omega, rfl, by go_num, (show BackI k l2 a _ (i + 1) from HST2.out.symm), HW.out⟩
        case measure => simp [intOf]; omega
    · have hie : i = l2.length := by omega
      have hb := HBV.out
      rw [hie, List.take_length] at hb
      obtain ⟨g, hg⟩ := RgOk.exists_ k l2
      have HG := Aside0.mk hg
      have HTL : Aside0 ((ints g).length ≤ 1000000) := Aside0.mk (by rw [ints_len]; have := hg.len; have := HK40.out; omega)
      obtain ⟨t, ht⟩ : ∃ t, t = ints g := ⟨_, rfl⟩
      have HT := Aside0.mk ht
      have hbv : decide ((a : Int) ∈ t) = b := by
        have h1 : (a : Int) ∈ t ↔ b = true := by
          rw [ht, mem_ints', hg.2 a, hb, back_all HA.out]
          exact ⟨fun h => h.2, fun h => ⟨HA.out, h⟩⟩
        cases h : b with
        | true => exact decide_eq_true (h1.2 h)
        | false => exact decide_eq_false (fun hh => by rw [h1.1 hh] at h; cases h)
      have HBB := Aside0.mk hbv
      rw [← ht] at HTL
      clear ht hbv hb hg hie HBV
      have e1 : (b == b) = true := beq_self_eq_true _
      go_upto_region 13 with (fail)
      have HQ := Aside0.mk (show ∀ W2 : World, ((W2.cell? ⟨gs, 0, none⟩ = some (.slice none 0 0) ∧ W2.cell? ⟨gs, 1, none⟩ = some (.slice none 0 0) ∧ W2.cell? ⟨gs, 2, none⟩ = some (.slice A l2.length c) ∧ W2.cell? ⟨gs, 3, none⟩ = some (.int .i64 0)) ∧ Below W3.heap.size W3 W2) → Below W3.heap.size W3 W2 from fun _ h => h.2)
      have HSS := Aside0.mk (show ∀ W2 : World, Below W3.heap.size W3 W2 → (((W2.cell? ⟨gs, 0, none⟩ = some (.slice none 0 0) ∧ W2.cell? ⟨gs, 1, none⟩ = some (.slice none 0 0) ∧ W2.cell? ⟨gs, 2, none⟩ = some (.slice A l2.length c) ∧ W2.cell? ⟨gs, 3, none⟩ = some (.int .i64 0)) ∧ Below W3.heap.size W3 W2)) from fun W2 hb => ⟨sol_cells HX.out hb, hb⟩)
      have HD := Aside0.mk (HSS.out _ (below_drew HW.out))
      go_region_held3 (fun w' => (w'.cell? ⟨gs, 0, none⟩ = some (.slice none 0 0) ∧ w'.cell? ⟨gs, 1, none⟩ = some (.slice none 0 0) ∧ w'.cell? ⟨gs, 2, none⟩ = some (.slice A l2.length c) ∧ w'.cell? ⟨gs, 3, none⟩ = some (.int .i64 0)) ∧ Below W3.heap.size W3 w') (first | assumption | exact HD.out | exact HSS.out _ (below_step (HQ.out _ (by assumption)) hb2)) (first | (go_at_call 10; with_reducible refine (prog_d k _ _ ?aK).mono ?_; (case aK => have := HK40.out; omega); rintro e w5 ⟨pv, rfl, hp, hb2⟩) | (go_at_call 16; with_reducible refine (rings_c k 0 _ l2 _ c _ ?aP ?aE ?aK t g HG.out HT.out).mono ?_; (case aK => have := HK40.out; omega); (case aP => exact hp); (case aE => exact HE.out.below (HQ.out _ (by assumption))); rintro e w5 ⟨A5, c5, rfl, ha, hb2⟩) | (go_at_call 18; with_reducible refine (has_d t _ _ _ b _ ?aH HTL.out HBB.out).mono ?_; (case aH => exact ha); rintro e w5 ⟨rfl, hb2⟩))
      go_wp2_with fail
      go_ret
      exact ⟨rfl, below_step HB.out (HQ.out _ (by assumption))⟩
end Go.Proofs.Ytjbgealnnlmchaa.G
