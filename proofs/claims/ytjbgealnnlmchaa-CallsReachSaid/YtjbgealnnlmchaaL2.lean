/- The law CallsReach of calls is true: its walk. No condition. -/
import Derived.Test.YtjbgealnnlmchaaRf
set_option linter.unusedVariables false
set_option linter.unusedSimpArgs false
namespace Go.Proofs.Ytjbgealnnlmchaa.G
open Go.RowKit Go.Proofs.Ytjbgealnnlmchaa.B Go.Proofs.YtjbgealnnlmchaaW.PrintWords Go.Proofs.YtjbgealnnlmchaaW.PrintLast Go.Proofs.YtjbgealnnlmchaaW.PrintMore

theorem mem_ints' {s : List Nat} {x : Nat} : (x : Int) ∈ ints s ↔ x ∈ s := by
  unfold ints
  rw [List.mem_map]
  constructor
  · rintro ⟨y, h1, h2⟩
    have : y = x := by omega
    rw [← this]; exact h1
  · exact fun h => ⟨x, h, rfl⟩
theorem sol_cells {W W' : World} {g : Nat} {A : Option Addr} {n c : Nat} (h : W.heap[g]? = some (.cells #[.slice none 0 0, .slice none 0 0, .slice A n c, .int .i64 0] 28 (0, 0))) (hb : Below W.heap.size W W') :
    W'.cell? ⟨g, 0, none⟩ = some (.slice none 0 0) ∧ W'.cell? ⟨g, 1, none⟩ = some (.slice none 0 0) ∧ W'.cell? ⟨g, 2, none⟩ = some (.slice A n c) ∧ W'.cell? ⟨g, 3, none⟩ = some (.int .i64 0) :=
  ⟨(blk_cell (blk_below h hb) 0).trans rfl, (blk_cell (blk_below h hb) 1).trans rfl, (blk_cell (blk_below h hb) 2).trans rfl, (blk_cell (blk_below h hb) 3).trans rfl⟩
theorem edge_cell {W W' : World} {A : Option Addr} {ad : Addr} {l : List S41} {c : Nat} (h : Edg W A l c) (hA : A = some ad) (hb : Below W.heap.size W W') (i : Nat) (hi : i < l.length) :
    W'.cell? (ad.add (i * 3)) = some (.int .i64 l[i].f0) ∧ W'.cell? ⟨(ad.add (i * 3)).block, (ad.add (i * 3)).off + 1, none⟩ = some (.int .i64 l[i].f1) ∧ W'.cell? ⟨(ad.add (i * 3)).block, (ad.add (i * 3)).off + 2, none⟩ = some (.int .i64 l[i].f2) := by
  obtain ⟨ad', e', q0, q1, q2⟩ := at_T41 (Kd.C_below h.C hb) (i : Int) (Int.natCast_nonneg i) (by omega)
  rw [hA] at e'
  injection e' with e'
  subst e'
  rw [Int.toNat_natCast, rd33_at l i hi] at q0 q1 q2
  exact ⟨q0, q1, q2⟩
theorem Edg.addr {W : World} {A : Option Addr} {l : List S41} {c : Nat} (h : Edg W A l c) (hl : 0 < l.length) : ∃ ad, A = some ad := by
  obtain ⟨ad, e, _⟩ := at_T41 h.C 0 (by omega) (by omega)
  exact ⟨ad, e⟩
/-- This one was called, so far. -/
def calledS (l : List S41) (t : List Int) (a v : Int) : Nat → Bool
  | 0 => decide (v = a)
  | j + 1 => calledS l t a v j || (decide ((l.getD j z41).f2 = v) && decide ((l.getD j z41).f0 ∈ t))
theorem calledS_true (l : List S41) (t : List Int) (a v : Int) : ∀ n, (v = a ∨ ∃ j, j < n ∧ (l.getD j z41).f2 = v ∧ (l.getD j z41).f0 ∈ t) → calledS l t a v n = true
  | 0, h => by
    rcases h with h | ⟨j, h, _⟩
    · exact decide_eq_true h
    · exact absurd h (Nat.not_lt_zero _)
  | n + 1, h => by
    unfold calledS
    rcases h with h | ⟨j, h1, h2, h3⟩
    · rw [calledS_true l t a v n (.inl h)]; rfl
    · by_cases hj : j = n
      · subst hj
        rw [decide_eq_true h2, decide_eq_true h3]
        simp
      · rw [calledS_true l t a v n (.inr ⟨j, by omega, h2, h3⟩)]; rfl
/-- All that CallsReach asks of what is reached. -/
structure RcOk (k : Nat) (l : List S41) (a : Nat) (t : List Int) : Prop where
  main : (a : Int) ∈ t
  on : ∀ i, i < l.length → 0 ≤ (l.getD i z41).f2 → (l.getD i z41).f2 < (k : Int) → (l.getD i z41).f0 ∈ t → (l.getD i z41).f2 ∈ t
  by_ : ∀ v ∈ t, calledS l t (a : Int) v l.length = true
theorem rc_ok {k : Nat} {l : List S41} {a : Nat} {s : List Nat} (h : ROk k l [(a : Int)] s) (ha : a < k) : RcOk k l a (ints s) := by
  have hget : ∀ i, (hi : i < l.length) → l.getD i z41 = l[i] := fun i hi => by rw [List.getD_eq_getElem?_getD, List.getElem?_eq_getElem hi]; rfl
  refine ⟨mem_ints'.2 (reach_main h ha), fun i hi h1 h2 h3 => ?_, fun v hv => ?_⟩
  · rw [hget i hi] at *
    unfold ints at h3
    rw [List.mem_map] at h3
    obtain ⟨u, hu1, hu2⟩ := h3
    have hlt := h.lt hu1
    have hE : EE k l u l[i].f2.toNat := ⟨l[i], List.getElem_mem hi, ⟨by omega, by omega, h1, h2⟩, hu2.symm, by omega⟩
    have := reach_on h ha hu1 hE
    rw [show l[i].f2 = ((l[i].f2.toNat : Nat) : Int) by omega]
    exact mem_ints'.2 this
  · unfold ints at hv
    rw [List.mem_map] at hv
    obtain ⟨u, hu1, rfl⟩ := hv
    refine calledS_true l _ _ _ _ ?_
    rcases reach_by h ha hu1 with rfl | ⟨x, hx, e, he, ho, h1, h2⟩
    · exact .inl rfl
    · obtain ⟨j, hj⟩ := List.getElem?_of_mem he
      have hjl := (List.getElem?_eq_some_iff.1 hj).1
      have hje : l.getD j z41 = e := by rw [List.getD_eq_getElem?_getD, hj]; rfl
      exact .inr ⟨j, hjl, by rw [hje]; exact h2, by rw [hje, h1]; exact mem_ints'.2 hx⟩
set_option maxRecDepth 100000 in
set_option maxHeartbeats 4000000 in
theorem CallsReach_walk (n : Int) (hn : 0 ≤ n ∧ n ≤ 255) (l : List S41) (A : Option Addr) (c : Nat) (f : Int) (hf : 0 ≤ f ∧ f ≤ 255) (w : World) (hlc : l.length ≤ c) (hC : Kd.C k41 w A l.length l) :
    Calls Try.prog 4 #[.int .u8 n, .slice A l.length c, .int .u8 f] w fun e w' => e = .returned (.bool true) ∧ Below w.heap.size w w' := by
  obtain ⟨k, l2, hk, hl2, hk40, hF⟩ := few_e n hn l A c w hC hlc
  have HF := Aside0.mk hF
  have HFF := Aside0.mk hf
  have HK40 := Aside0.mk hk40
  clear hC hlc hF hk hl2 hk40 hn hf
  go_enter Try.func4, Try.ntmps4
  go_upto_region 3 with (first
    | (go_at_call 8; with_reducible refine (shown_c _).mono ?_; rintro e w1 ⟨rfl, hk⟩; have HB := Aside0.mk hk; clear hk)
    | (go_at_call 9; with_reducible refine (HF.out _ HB.out).mono ?_; rintro e w2 ⟨rfl, hE, hk⟩; have HE := Aside0.mk hE; replace HB := Aside0.mk hk; clear hE hk))
  clear HF
  by_cases hk0 : k = 0
  · have e1 : ((k : Int) == 0) = true := beq_iff_eq.mpr (by omega)
    have e2 : (k == 0) = true := beq_iff_eq.mpr hk0
    clear hk0
    go_wp2_with fail
    go_ret
    exact ⟨rfl, HB.out⟩
  have hK0 : ((k : Int) == 0) = false := beq_eq_false_iff_ne.mpr (by omega)
  have hK3 : (k == 0) = false := beq_eq_false_iff_ne.mpr hk0
  have hK1 : ¬ (k : Int) = 0 := by omega
  go_upto_region 7 with (fail)
  have HKP : Aside0 (0 < k) := Aside0.mk (by omega)
  clear hK0 hK1 hK3 hk0
  have hcut : 0 ≤ Int.tmod (wrap64 f) (k : Int) ∧ Int.tmod (wrap64 f) (k : Int) < k := by
    have h1 := HFF.out
    have h2 := HKP.out
    rw [show wrap64 f = f by unfold wrap64; omega, Int.tmod_eq_emod_of_nonneg h1.1]
    exact ⟨Int.emod_nonneg _ (by omega), Int.emod_lt_of_pos _ (by omega)⟩
  generalize Int.tmod (wrap64 f) (k : Int) = CC at hcut ⊢
  generalize wrap64 f = cu
  obtain ⟨a, hca⟩ : ∃ a : Nat, CC = (a : Int) := ⟨CC.toNat, by omega⟩
  have HA : Aside0 (a < k) := Aside0.mk (by omega)
  clear hcut
  have HX := Aside0.mk (blk_new w2 (.cells #[.slice none 0 0, .slice none 0 0, .slice A l2.length c, .int .i64 0] 28))
  replace HE := Aside0.mk (HE.out.below (below_alloc (Below.refl _ w2) (.cells #[.slice none 0 0, .slice none 0 0, .slice A l2.length c, .int .i64 0] 28)))
  replace HB := Aside0.mk (below_alloc HB.out (.cells #[.slice none 0 0, .slice none 0 0, .slice A l2.length c, .int .i64 0] 28))
  generalize w2.alloc (.cells #[.slice none 0 0, .slice none 0 0, .slice A l2.length c, .int .i64 0] 28) = W3 at HX HE HB ⊢
  generalize w2.heap.size = gs at HX ⊢
  obtain ⟨s, hs⟩ := ROk.exists_ (sizeN (k : Int)) (sizeN_le _) l2 HE.out.len [CC] (by simp)
  have HS := Aside0.mk hs
  have hsl : s.length ≤ 20000 := Nat.le_trans hs.len (sizeN_le _)
  obtain ⟨t, ht⟩ : ∃ t, t = ints s := ⟨_, rfl⟩
  have HT := Aside0.mk ht
  have htl : t.length ≤ 20000 := by rw [ht, ints_len]; exact hsl
  have HTL : Aside0 (t.length ≤ 1000000) := Aside0.mk (by omega)
  have HTL2 := Aside0.mk htl
  have hrc : RcOk k l2 a t := by
    rw [ht]
    rw [hca, sizeN_nat k (by have := HK40.out; omega)] at hs
    exact rc_ok hs HA.out
  have HRC := Aside0.mk hrc
  have HCA := Aside0.mk hca
  have hbv : decide (CC ∈ t) = true := by rw [hca]; exact decide_eq_true hrc.main
  have HBB := Aside0.mk hbv
  clear hs hsl ht htl hrc hbv hca
  have HQ := Aside0.mk (show ∀ W2 : World, ((W2.cell? ⟨gs, 0, none⟩ = some (.slice none 0 0) ∧ W2.cell? ⟨gs, 1, none⟩ = some (.slice none 0 0) ∧ W2.cell? ⟨gs, 2, none⟩ = some (.slice A l2.length c) ∧ W2.cell? ⟨gs, 3, none⟩ = some (.int .i64 0)) ∧ Below W3.heap.size W3 W2) → Below W3.heap.size W3 W2 from fun _ h => h.2)
  have HSS := Aside0.mk (show ∀ W2 : World, Below W3.heap.size W3 W2 → (((W2.cell? ⟨gs, 0, none⟩ = some (.slice none 0 0) ∧ W2.cell? ⟨gs, 1, none⟩ = some (.slice none 0 0) ∧ W2.cell? ⟨gs, 2, none⟩ = some (.slice A l2.length c) ∧ W2.cell? ⟨gs, 3, none⟩ = some (.int .i64 0)) ∧ Below W3.heap.size W3 W2)) from fun W2 hb => ⟨sol_cells HX.out hb, hb⟩)
  have HD := Aside0.mk (HSS.out _ (below_drew (Below.refl W3.heap.size W3)))
  go_region_held3 (fun w' => (w'.cell? ⟨gs, 0, none⟩ = some (.slice none 0 0) ∧ w'.cell? ⟨gs, 1, none⟩ = some (.slice none 0 0) ∧ w'.cell? ⟨gs, 2, none⟩ = some (.slice A l2.length c) ∧ w'.cell? ⟨gs, 3, none⟩ = some (.int .i64 0)) ∧ Below W3.heap.size W3 w') (first | assumption | exact HD.out | exact HSS.out _ (below_step (HQ.out _ (by assumption)) hb2)) (first | (go_at_call 10; with_reducible refine (prog_d k _ _ ?aK).mono ?_; (case aK => have := HK40.out; omega); rintro e w5 ⟨pv, rfl, hp, hb2⟩) | (go_at_call 14; with_reducible refine (reached_c k _ _ l2 _ c _ ?aP ?aE s HS.out t HT.out).mono ?_; (case aP => exact hp); (case aE => exact HE.out.below (HQ.out _ (by assumption))); rintro e w5 ⟨A5, c5, rfl, ha, hb2⟩))
  have HW5 := Aside0.mk (HQ.out _ (by assumption))
  have HN5 := Aside0.mk ha
  clear HQ HSS HD
  go_upto_block 0 with (go_at_call 18; with_reducible refine (has_d t _ _ _ true _ HN5.out HTL.out HBB.out).mono ?_; rintro e w6 ⟨rfl, hb6⟩; have HW6 := Aside0.mk (below_step HW5.out hb6); have HN6 := Aside0.mk (HN5.out.below hb6); clear hb6)
  clear HW5 HN5
  have HE6 := Aside0.mk (HE.out.below HW6.out)
  replace HB := Aside0.mk (below_step HB.out HW6.out)
  clear HE HX HW6
  go_wp2_with fail
  go_loopw [13] (fun iv wx => ∃ (i : Nat), i ≤ l2.length ∧ iv = .int .i64 (i : Int) ∧ Hid (Below w6.heap.size w6 wx)) (fun iv _ => l2.length - (intOf iv).toNat)
  case atStart => exact ⟨0, Nat.zero_le _, rfl, Below.refl _ _⟩
  case round =>
    obtain ⟨i, hi, rfl, h1⟩ := hrel
    have HW := Aside0.mk (show Below w6.heap.size w6 wr from h1)
    clear h1
    by_cases hlt : (i : Int) < (l2.length : Int)
    · have hi1 : i < l2.length := by omega
      have hi0 : (0 : Int) ≤ (i : Int) := Int.natCast_nonneg i
      have hwi : IntKind.i64.wrap ((i : Int) + 1) = (i : Int) + 1 := by have := HE6.out.len; rw [IntKind.wrap_i64]; omega
      have HWI := Aside0.mk hwi
      clear hwi
      obtain ⟨ade, ee⟩ := HE6.out.addr (by omega)
      have hcells := fun W' hb => edge_cell HE6.out ee (W' := W') hb i hi1
      have hon := HRC.out.on i hi1
      have hget : l2.getD i z41 = l2[i] := by rw [List.getD_eq_getElem?_getD, List.getElem?_eq_getElem hi1]; rfl
      rw [hget] at hon
      generalize l2[i].f0 = x0 at hcells hon
      generalize l2[i].f1 = x1 at hcells
      generalize l2[i].f2 = x2 at hcells hon
      have HCE := Aside0.mk hcells
      have HON := Aside0.mk hon
      clear hcells hon hget
      have q0 := (HCE.out wr HW.out).1
      have q2 := (HCE.out wr HW.out).2.2
      subst ee
      by_cases d2 : x2 < 0
      · have k2 : decide (0 ≤ x2) = false := decide_eq_false (by omega)
        have hwi := HWI.out
        clear d2
        go_wp2_with fail
        go_roundw
        case rel => exact ⟨i + 1, by omega, by go_num, HW.out⟩
        case measure => simp [intOf]; omega
      · have k2 : decide (0 ≤ x2) = true := decide_eq_true (by omega)
        by_cases d3 : x2 < (k : Int)
        · have k3 : decide (x2 < (k : Int)) = true := decide_eq_true d3
          obtain ⟨b, hb⟩ : ∃ b, decide (x0 ∈ t) = b := ⟨_, rfl⟩
          have HB0 := Aside0.mk hb
          cases b with
          | false =>
            have hwi := HWI.out
            clear d2 d3 hb
            go_wp2_with (go_at_call 18; with_reducible refine (has_d t _ _ _ false _ (HN6.out.below HW.out) HTL.out HB0.out).mono ?_; rintro e w7 ⟨rfl, hb7⟩; replace HW := Aside0.mk (below_step HW.out hb7); clear hb7)
            go_roundw
            case rel => exact ⟨i + 1, by omega, by go_num, HW.out⟩
            case measure => simp [intOf]; omega
          | true =>
            have HB2 : Aside0 (decide (x2 ∈ t) = true) := Aside0.mk (decide_eq_true (HON.out (by omega) d3 (of_decide_eq_true hb)))
            have hwi := HWI.out
            clear d2 d3 hb
            go_wp2_with (first
              | (go_at_call_of 18 (Value.int IntKind.i64 x0); with_reducible refine (has_d t _ _ x0 true _ (HN6.out.below HW.out) HTL.out HB0.out).mono ?_; rintro e w7 ⟨rfl, hb7⟩; replace HW := Aside0.mk (below_step HW.out hb7); have q2 := (HCE.out _ HW.out).2.2; clear hb7)
              | (go_at_call_of 18 (Value.int IntKind.i64 x2); with_reducible refine (has_d t _ _ x2 true _ (HN6.out.below HW.out) HTL.out HB2.out).mono ?_; rintro e w7 ⟨rfl, hb7⟩; replace HW := Aside0.mk (below_step HW.out hb7); clear hb7))
            go_roundw
            case rel => exact ⟨i + 1, by omega, by go_num, HW.out⟩
            case measure => simp [intOf]; omega
        · have k3 : decide (x2 < (k : Int)) = false := decide_eq_false d3
          have hwi := HWI.out
          clear d2 d3
          go_wp2_with fail
          go_roundw
          case rel => exact ⟨i + 1, by omega, by go_num, HW.out⟩
          case measure => simp [intOf]; omega
    · go_upto_block 2 with (fail)
      go_wp2_with fail
      go_loopw [14] (fun iv wx => ∃ (i : Nat), i ≤ t.length ∧ iv = .int .i64 (i : Int) ∧ Hid (Below w6.heap.size w6 wx)) (fun iv _ => t.length - (intOf iv).toNat)
      case atStart => exact ⟨0, Nat.zero_le _, rfl, HW.out⟩
      case round =>
        clear HW
        obtain ⟨i2, hi2, rfl, h1⟩ := hrel
        have HW := Aside0.mk (show Below w6.heap.size w6 wr from h1)
        clear h1
        by_cases hlt2 : (i2 : Int) < (t.length : Int)
        · have hi1 : i2 < t.length := by omega
          have hi0 : (0 : Int) ≤ (i2 : Int) := Int.natCast_nonneg i2
          have hwi : IntKind.i64.wrap ((i2 : Int) + 1) = (i2 : Int) + 1 := by have := HTL2.out; rw [IntKind.wrap_i64]; omega
          have HWI := Aside0.mk hwi
          clear hwi
          obtain ⟨adt, et, _⟩ := (HN6.out).at_ i2 hi1
          have htc : ∀ W', Below w6.heap.size w6 W' → W'.cell? (adt.add i2) = some (.int .i64 (t.getD i2 0)) := fun W' hb => by
            obtain ⟨ad', e', q⟩ := (HN6.out.below hb).at_ i2 hi1
            rw [et] at e'
            injection e' with e'
            subst e'
            exact q
          have hby := HRC.out.by_ (t.getD i2 0) (by rw [List.getD_eq_getElem?_getD, List.getElem?_eq_getElem hi1]; exact List.getElem_mem hi1)
          generalize t.getD i2 0 = v at htc hby
          have HTC := Aside0.mk htc
          rw [← HCA.out] at hby
          have HBY2 := Aside0.mk hby
          have r0 := htc wr HW.out
          clear htc hby
          obtain ⟨b0, hb0⟩ : ∃ b, calledS l2 t CC v 0 = b := ⟨_, rfl⟩
          have HC0 := Aside0.mk hb0
          have e0 : (v == CC) = b0 := by rw [← hb0]; unfold calledS; by_cases h : v = CC <;> simp [h]
          subst et
          clear hb0
          go_upto_block 4 with (fail)
          clear r0 e0
          go_wp2_with fail
          go_loopw [15, 16] (fun bv jv wx => ∃ (b : Bool) (j : Nat), j ≤ l2.length ∧ bv = .bool b ∧ jv = .int .i64 (j : Int) ∧ Hid (calledS l2 t CC v j = b) ∧ Hid (Below w6.heap.size w6 wx)) (fun _ jv _ => l2.length - (intOf jv).toNat)
          case atStart => exact ⟨b0, 0, Nat.zero_le _, rfl, rfl, HC0.out, HW.out⟩
          case round =>
            clear HW
            obtain ⟨b, j, hj, rfl, rfl, h1, h2⟩ := hrel
            have HCB := Aside0.mk (show calledS l2 t CC v j = b from h1)
            have HW := Aside0.mk (show Below w6.heap.size w6 wr from h2)
            clear h1 h2
            by_cases hltj : (j : Int) < (l2.length : Int)
            · have hj1 : j < l2.length := by omega
              have hj0 : (0 : Int) ≤ (j : Int) := Int.natCast_nonneg j
              have hwj : IntKind.i64.wrap ((j : Int) + 1) = (j : Int) + 1 := by have := HE6.out.len; rw [IntKind.wrap_i64]; omega
              have HWJ := Aside0.mk hwj
              clear hwj
              obtain ⟨ade, ee⟩ := HE6.out.addr (by omega)
              have hcells := fun W' hb => edge_cell HE6.out ee (W' := W') hb j hj1
              have hget : l2.getD j z41 = l2[j] := by rw [List.getD_eq_getElem?_getD, List.getElem?_eq_getElem hj1]; rfl
              have hst : calledS l2 t CC v (j + 1) = (b || (decide (l2[j].f2 = v) && decide (l2[j].f0 ∈ t))) := by
                rw [← HCB.out, ← hget]
                rfl
              generalize l2[j].f0 = y0 at hcells hst
              generalize l2[j].f1 = y1 at hcells
              generalize l2[j].f2 = y2 at hcells hst
              have HSS2 := Aside0.mk (show ∀ w', Below w6.heap.size w6 w' → (w'.cell? (ade.add (j * 3)) = some (.int .i64 y0) ∧ w'.cell? ⟨(ade.add (j * 3)).block, (ade.add (j * 3)).off + 2, none⟩ = some (.int .i64 y2) ∧ w'.cell? (adt.add i2) = some (.int .i64 v) ∧ Below w6.heap.size w6 w') from fun w' hb => ⟨(hcells w' hb).1, (hcells w' hb).2.2, HTC.out w' hb, hb⟩)
              have HST := Aside0.mk hst
              clear hcells hst hget
              subst ee
              cases b with
              | true =>
                have HST2 : Aside0 (calledS l2 t CC v (j + 1) = true) := Aside0.mk (by rw [HST.out]; rfl)
                go_upto_region 22 with (fail)
                refine wp_region_held_drew (S := fun w' => Below w6.heap.size w6 w') (by kernel_rfl) (below_drew HW.out) (fun hHeld => ?_)
                refine wpAnyH_take (i := 0) (oi := { dst := (some 100), op := (Op.move (Operand.tmp 15)), type := 4, pos := "law.go:75", after := #[], guard := none }) (v := ?_) rfl (by kernel_rfl) (by kernel_rfl) (by kernel_rfl) (fun _ _ _ h => h) (Or.inl ⟨by rfl, ?_⟩) hHeld ?_
                rotate_left
                · intro w hSw; (try dsimp only at hSw); go_simp; try with_reducible rfl
                try simp only [Act.put, List.setIfInBounds_toArray, List.set_cons_zero, List.set_cons_succ]
                refine wpAnyH_take (i := 1) (oi := { dst := (some 101), op := (Op.move (Operand.tmp 100)), type := 4, pos := "law.go:75", after := #[{ on := 0, ground := Ground.data }], guard := none }) (v := ?_) rfl (by kernel_rfl) (by kernel_rfl) (by kernel_rfl) (fun _ _ _ h => h) (Or.inl ⟨by rfl, ?_⟩) hHeld ?_
                rotate_left
                · intro w hSw; (try dsimp only at hSw); go_simp; try with_reducible rfl
                try simp only [Act.put, List.setIfInBounds_toArray, List.set_cons_zero, List.set_cons_succ]
                refine wpAnyH_take (i := 2) (oi := { dst := (some 102), op := (Op.move (Operand.tmp 9)), type := 22, pos := "law.go:75", after := #[{ on := 1, ground := Ground.guard }], guard := (some (1, false)) }) rfl (by kernel_rfl) (by kernel_rfl) (by kernel_rfl) (fun _ _ _ h => h) (Or.inr ⟨by rfl, rfl⟩) hHeld ?_
                try simp only [Act.put, List.setIfInBounds_toArray, List.set_cons_zero, List.set_cons_succ]
                refine wpAnyH_take (i := 3) (oi := { dst := (some 103), op := (Op.move (Operand.tmp 16)), type := 3, pos := "law.go:75", after := #[{ on := 1, ground := Ground.guard }], guard := (some (1, false)) }) rfl (by kernel_rfl) (by kernel_rfl) (by kernel_rfl) (fun _ _ _ h => h) (Or.inr ⟨by rfl, rfl⟩) hHeld ?_
                try simp only [Act.put, List.setIfInBounds_toArray, List.set_cons_zero, List.set_cons_succ]
                refine wpAnyH_take (i := 4) (oi := { dst := (some 104), op := (Op.indexAddr 22 (Operand.tmp 102) (Operand.tmp 103)), type := 0, pos := "law.go:75", after := #[{ on := 2, ground := Ground.data }, { on := 3, ground := Ground.data }, { on := 1, ground := Ground.guard }], guard := (some (1, false)) }) rfl (by kernel_rfl) (by kernel_rfl) (by kernel_rfl) (fun _ _ _ h => h) (Or.inr ⟨by rfl, rfl⟩) hHeld ?_
                try simp only [Act.put, List.setIfInBounds_toArray, List.set_cons_zero, List.set_cons_succ]
                refine wpAnyH_take (i := 5) (oi := { dst := (some 105), op := (Op.fieldAddr 41 (Operand.tmp 104) 2), type := 0, pos := "law.go:75", after := #[{ on := 4, ground := Ground.data }, { on := 1, ground := Ground.guard }], guard := (some (1, false)) }) rfl (by kernel_rfl) (by kernel_rfl) (by kernel_rfl) (fun _ _ _ h => h) (Or.inr ⟨by rfl, rfl⟩) hHeld ?_
                try simp only [Act.put, List.setIfInBounds_toArray, List.set_cons_zero, List.set_cons_succ]
                refine wpAnyH_take (i := 6) (oi := { dst := (some 106), op := (Op.load 3 (Operand.tmp 105)), type := 3, pos := "law.go:75", after := #[{ on := 5, ground := Ground.data }, { on := 1, ground := Ground.guard }], guard := (some (1, false)) }) rfl (by kernel_rfl) (by kernel_rfl) (by kernel_rfl) (fun _ _ _ h => h) (Or.inr ⟨by rfl, rfl⟩) hHeld ?_
                try simp only [Act.put, List.setIfInBounds_toArray, List.set_cons_zero, List.set_cons_succ]
                refine wpAnyH_take (i := 7) (oi := { dst := (some 107), op := (Op.move (Operand.tmp 12)), type := 35, pos := "law.go:75", after := #[{ on := 1, ground := Ground.guard }], guard := (some (1, false)) }) rfl (by kernel_rfl) (by kernel_rfl) (by kernel_rfl) (fun _ _ _ h => h) (Or.inr ⟨by rfl, rfl⟩) hHeld ?_
                try simp only [Act.put, List.setIfInBounds_toArray, List.set_cons_zero, List.set_cons_succ]
                refine wpAnyH_take (i := 8) (oi := { dst := (some 108), op := (Op.move (Operand.tmp 14)), type := 3, pos := "law.go:75", after := #[{ on := 1, ground := Ground.guard }], guard := (some (1, false)) }) rfl (by kernel_rfl) (by kernel_rfl) (by kernel_rfl) (fun _ _ _ h => h) (Or.inr ⟨by rfl, rfl⟩) hHeld ?_
                try simp only [Act.put, List.setIfInBounds_toArray, List.set_cons_zero, List.set_cons_succ]
                refine wpAnyH_take (i := 9) (oi := { dst := (some 109), op := (Op.indexAddr 35 (Operand.tmp 107) (Operand.tmp 108)), type := 0, pos := "law.go:75", after := #[{ on := 7, ground := Ground.data }, { on := 8, ground := Ground.data }, { on := 1, ground := Ground.guard }], guard := (some (1, false)) }) rfl (by kernel_rfl) (by kernel_rfl) (by kernel_rfl) (fun _ _ _ h => h) (Or.inr ⟨by rfl, rfl⟩) hHeld ?_
                try simp only [Act.put, List.setIfInBounds_toArray, List.set_cons_zero, List.set_cons_succ]
                refine wpAnyH_take (i := 10) (oi := { dst := (some 110), op := (Op.load 3 (Operand.tmp 109)), type := 3, pos := "law.go:75", after := #[{ on := 9, ground := Ground.data }, { on := 1, ground := Ground.guard }], guard := (some (1, false)) }) rfl (by kernel_rfl) (by kernel_rfl) (by kernel_rfl) (fun _ _ _ h => h) (Or.inr ⟨by rfl, rfl⟩) hHeld ?_
                try simp only [Act.put, List.setIfInBounds_toArray, List.set_cons_zero, List.set_cons_succ]
                refine wpAnyH_take (i := 11) (oi := { dst := (some 111), op := (Op.binOp BinOp.eql 3 (Operand.tmp 106) (Operand.tmp 110) 3), type := 4, pos := "law.go:75", after := #[{ on := 6, ground := Ground.data }, { on := 10, ground := Ground.data }, { on := 1, ground := Ground.guard }], guard := (some (1, false)) }) rfl (by kernel_rfl) (by kernel_rfl) (by kernel_rfl) (fun _ _ _ h => h) (Or.inr ⟨by rfl, rfl⟩) hHeld ?_
                try simp only [Act.put, List.setIfInBounds_toArray, List.set_cons_zero, List.set_cons_succ]
                refine wpAnyH_take (i := 12) (oi := { dst := (some 112), op := (Op.move (Operand.tmp 111)), type := 4, pos := "law.go:75", after := #[{ on := 11, ground := Ground.data }, { on := 1, ground := Ground.chain }, { on := 1, ground := Ground.guard }], guard := (some (1, false)) }) rfl (by kernel_rfl) (by kernel_rfl) (by kernel_rfl) (fun _ _ _ h => h) (Or.inr ⟨by rfl, rfl⟩) hHeld ?_
                try simp only [Act.put, List.setIfInBounds_toArray, List.set_cons_zero, List.set_cons_succ]
                refine wpAnyH_take (i := 13) (oi := { dst := (some 113), op := (Op.move (Operand.tmp 12)), type := 35, pos := "law.go:75", after := #[{ on := 12, ground := Ground.guard }], guard := (some (12, true)) }) rfl (by kernel_rfl) (by kernel_rfl) (by kernel_rfl) (fun _ _ _ h => h) (Or.inr ⟨by rfl, rfl⟩) hHeld ?_
                try simp only [Act.put, List.setIfInBounds_toArray, List.set_cons_zero, List.set_cons_succ]
                refine wpAnyH_take (i := 14) (oi := { dst := (some 114), op := (Op.move (Operand.tmp 9)), type := 22, pos := "law.go:75", after := #[{ on := 12, ground := Ground.guard }], guard := (some (12, true)) }) rfl (by kernel_rfl) (by kernel_rfl) (by kernel_rfl) (fun _ _ _ h => h) (Or.inr ⟨by rfl, rfl⟩) hHeld ?_
                try simp only [Act.put, List.setIfInBounds_toArray, List.set_cons_zero, List.set_cons_succ]
                refine wpAnyH_take (i := 15) (oi := { dst := (some 115), op := (Op.move (Operand.tmp 16)), type := 3, pos := "law.go:75", after := #[{ on := 12, ground := Ground.guard }], guard := (some (12, true)) }) rfl (by kernel_rfl) (by kernel_rfl) (by kernel_rfl) (fun _ _ _ h => h) (Or.inr ⟨by rfl, rfl⟩) hHeld ?_
                try simp only [Act.put, List.setIfInBounds_toArray, List.set_cons_zero, List.set_cons_succ]
                refine wpAnyH_take (i := 16) (oi := { dst := (some 116), op := (Op.indexAddr 22 (Operand.tmp 114) (Operand.tmp 115)), type := 0, pos := "law.go:75", after := #[{ on := 14, ground := Ground.data }, { on := 15, ground := Ground.data }, { on := 12, ground := Ground.guard }], guard := (some (12, true)) }) rfl (by kernel_rfl) (by kernel_rfl) (by kernel_rfl) (fun _ _ _ h => h) (Or.inr ⟨by rfl, rfl⟩) hHeld ?_
                try simp only [Act.put, List.setIfInBounds_toArray, List.set_cons_zero, List.set_cons_succ]
                refine wpAnyH_take (i := 17) (oi := { dst := (some 117), op := (Op.fieldAddr 41 (Operand.tmp 116) 0), type := 0, pos := "law.go:75", after := #[{ on := 16, ground := Ground.data }, { on := 12, ground := Ground.guard }], guard := (some (12, true)) }) rfl (by kernel_rfl) (by kernel_rfl) (by kernel_rfl) (fun _ _ _ h => h) (Or.inr ⟨by rfl, rfl⟩) hHeld ?_
                try simp only [Act.put, List.setIfInBounds_toArray, List.set_cons_zero, List.set_cons_succ]
                refine wpAnyH_take (i := 18) (oi := { dst := (some 118), op := (Op.load 3 (Operand.tmp 117)), type := 3, pos := "law.go:75", after := #[{ on := 17, ground := Ground.data }, { on := 12, ground := Ground.guard }], guard := (some (12, true)) }) rfl (by kernel_rfl) (by kernel_rfl) (by kernel_rfl) (fun _ _ _ h => h) (Or.inr ⟨by rfl, rfl⟩) hHeld ?_
                try simp only [Act.put, List.setIfInBounds_toArray, List.set_cons_zero, List.set_cons_succ]
                refine wpAnyH_take (i := 19) (oi := { dst := (some 119), op := (Op.call { callee := (Callee.value (Operand.func 18)), args := #[(Operand.tmp 113), (Operand.tmp 118)], argTypes := #[35, 3] }), type := 4, pos := "law.go:75", after := #[{ on := 13, ground := Ground.data }, { on := 18, ground := Ground.data }, { on := 12, ground := Ground.chain }, { on := 12, ground := Ground.guard }], guard := (some (12, true)) }) rfl (by kernel_rfl) (by kernel_rfl) (by kernel_rfl) (fun _ _ _ h => h) (Or.inr ⟨by rfl, rfl⟩) hHeld ?_
                try simp only [Act.put, List.setIfInBounds_toArray, List.set_cons_zero, List.set_cons_succ]
                refine wpAnyH_take (i := 20) (oi := { dst := (some 120), op := (Op.pick (Operand.tmp 112) (Operand.tmp 119) (Operand.const (Value.bool false))), type := 4, pos := "law.go:75", after := #[{ on := 12, ground := Ground.data }, { on := 19, ground := Ground.data }, { on := 1, ground := Ground.guard }], guard := (some (1, false)) }) rfl (by kernel_rfl) (by kernel_rfl) (by kernel_rfl) (fun _ _ _ h => h) (Or.inr ⟨by rfl, rfl⟩) hHeld ?_
                try simp only [Act.put, List.setIfInBounds_toArray, List.set_cons_zero, List.set_cons_succ]
                refine wpAnyH_take (i := 21) (oi := { dst := (some 121), op := (Op.pick (Operand.tmp 101) (Operand.const (Value.bool true)) (Operand.tmp 120)), type := 4, pos := "law.go:75", after := #[{ on := 1, ground := Ground.data }, { on := 20, ground := Ground.data }], guard := none }) (v := ?_) rfl (by kernel_rfl) (by kernel_rfl) (by kernel_rfl) (fun _ _ _ h => h) (Or.inl ⟨by rfl, ?_⟩) hHeld ?_
                rotate_left
                · intro w hSw; (try dsimp only at hSw); go_simp; try with_reducible rfl
                try simp only [Act.put, List.setIfInBounds_toArray, List.set_cons_zero, List.set_cons_succ]
                refine wpAnyH_take (i := 22) (oi := { dst := (some 15), op := (Op.assign (Operand.tmp 121)), type := 4, pos := "law.go:75", after := #[{ on := 21, ground := Ground.data }, { on := 19, ground := Ground.chain }, { on := 0, ground := Ground.phase }, { on := 1, ground := Ground.phase }, { on := 2, ground := Ground.phase }, { on := 3, ground := Ground.phase }, { on := 4, ground := Ground.phase }, { on := 5, ground := Ground.phase }, { on := 6, ground := Ground.phase }, { on := 7, ground := Ground.phase }, { on := 8, ground := Ground.phase }, { on := 9, ground := Ground.phase }, { on := 10, ground := Ground.phase }, { on := 11, ground := Ground.phase }, { on := 12, ground := Ground.phase }, { on := 13, ground := Ground.phase }, { on := 14, ground := Ground.phase }, { on := 15, ground := Ground.phase }, { on := 16, ground := Ground.phase }, { on := 17, ground := Ground.phase }, { on := 18, ground := Ground.phase }, { on := 19, ground := Ground.phase }, { on := 20, ground := Ground.phase }, { on := 21, ground := Ground.phase }], guard := none }) (v := ?_) rfl (by kernel_rfl) (by kernel_rfl) (by kernel_rfl) (fun _ _ _ h => h) (Or.inl ⟨by rfl, ?_⟩) hHeld ?_
                rotate_left
                · intro w hSw; (try dsimp only at hSw); go_simp; try with_reducible rfl
                try simp only [Act.put, List.setIfInBounds_toArray, List.set_cons_zero, List.set_cons_succ]
                refine wpAnyH_done (by kernel_rfl) ?_ _
                have HW2 := Aside0.mk hHeld
                have hwj := HWJ.out
                go_wp2_with fail
                go_roundw
                case rel => exact ⟨true, j + 1, by omega, rfl, by go_num, HST2.out, HW2.out⟩
                case measure => simp [intOf]; omega
              | false =>
                by_cases hyv : y2 = v
                · obtain ⟨b2, hb2⟩ : ∃ b, decide (y0 ∈ t) = b := ⟨_, rfl⟩
                  have HB2 := Aside0.mk hb2
                  have HST2 : Aside0 (calledS l2 t CC v (j + 1) = b2) := Aside0.mk (by rw [HST.out, decide_eq_true hyv, hb2]; rfl)
                  subst hyv
                  clear hb2
                  go_upto_region 22 with (fail)
                  have HQ2 := Aside0.mk (show ∀ w', (w'.cell? (ade.add (j * 3)) = some (.int .i64 y0) ∧ w'.cell? ⟨(ade.add (j * 3)).block, (ade.add (j * 3)).off + 2, none⟩ = some (.int .i64 y2) ∧ w'.cell? (adt.add i2) = some (.int .i64 y2) ∧ Below w6.heap.size w6 w') → Below w6.heap.size w6 w' from fun _ h => h.2.2.2)
                  have HD2 := Aside0.mk (HSS2.out _ (below_drew HW.out))
                  go_region_held3 (fun w' => w'.cell? (ade.add (j * 3)) = some (.int .i64 y0) ∧ w'.cell? ⟨(ade.add (j * 3)).block, (ade.add (j * 3)).off + 2, none⟩ = some (.int .i64 y2) ∧ w'.cell? (adt.add i2) = some (.int .i64 y2) ∧ Below w6.heap.size w6 w') (first | assumption | exact HD2.out | exact HSS2.out _ (below_step (HQ2.out _ (by assumption)) hb2)) (first | (go_at_call 18; with_reducible refine (has_d t _ _ y0 b2 _ ?aH HTL.out HB2.out).mono ?_; (case aH => exact HN6.out.below (HQ2.out _ (by assumption))); rintro e w5 ⟨rfl, hb2⟩))
                  have HW2 := Aside0.mk (HQ2.out _ (by assumption))
                  have hwj := HWJ.out
                  go_wp2_with fail
                  go_roundw
                  case rel => exact ⟨b2, j + 1, by omega, rfl, by go_num, HST2.out, HW2.out⟩
                  case measure => simp [intOf]; omega
                · have e1 : (y2 == v) = false := beq_eq_false_iff_ne.mpr hyv
                  have HST2 : Aside0 (calledS l2 t CC v (j + 1) = false) := Aside0.mk (by rw [HST.out, decide_eq_false hyv]; rfl)
                  clear hyv
                  go_upto_region 22 with (fail)
                  refine wp_region_held_drew (S := fun w' => w'.cell? (ade.add (j * 3)) = some (.int .i64 y0) ∧ w'.cell? ⟨(ade.add (j * 3)).block, (ade.add (j * 3)).off + 2, none⟩ = some (.int .i64 y2) ∧ w'.cell? (adt.add i2) = some (.int .i64 v) ∧ Below w6.heap.size w6 w') (by kernel_rfl) (HSS2.out _ (below_drew HW.out)) (fun hHeld => ?_)
                  refine wpAnyH_take (i := 0) (oi := { dst := (some 100), op := (Op.move (Operand.tmp 15)), type := 4, pos := "law.go:75", after := #[], guard := none }) (v := ?_) rfl (by kernel_rfl) (by kernel_rfl) (by kernel_rfl) (fun _ _ _ h => h) (Or.inl ⟨by rfl, ?_⟩) hHeld ?_
                  rotate_left
                  · intro w hSw; (try dsimp only at hSw); go_simp; try with_reducible rfl
                  try simp only [Act.put, List.setIfInBounds_toArray, List.set_cons_zero, List.set_cons_succ]
                  refine wpAnyH_take (i := 1) (oi := { dst := (some 101), op := (Op.move (Operand.tmp 100)), type := 4, pos := "law.go:75", after := #[{ on := 0, ground := Ground.data }], guard := none }) (v := ?_) rfl (by kernel_rfl) (by kernel_rfl) (by kernel_rfl) (fun _ _ _ h => h) (Or.inl ⟨by rfl, ?_⟩) hHeld ?_
                  rotate_left
                  · intro w hSw; (try dsimp only at hSw); go_simp; try with_reducible rfl
                  try simp only [Act.put, List.setIfInBounds_toArray, List.set_cons_zero, List.set_cons_succ]
                  refine wpAnyH_take (i := 2) (oi := { dst := (some 102), op := (Op.move (Operand.tmp 9)), type := 22, pos := "law.go:75", after := #[{ on := 1, ground := Ground.guard }], guard := (some (1, false)) }) (v := ?_) rfl (by kernel_rfl) (by kernel_rfl) (by kernel_rfl) (fun _ _ _ h => h) (Or.inl ⟨by rfl, ?_⟩) hHeld ?_
                  rotate_left
                  · intro w hSw; (try dsimp only at hSw); go_simp; try with_reducible rfl
                  try simp only [Act.put, List.setIfInBounds_toArray, List.set_cons_zero, List.set_cons_succ]
                  refine wpAnyH_take (i := 3) (oi := { dst := (some 103), op := (Op.move (Operand.tmp 16)), type := 3, pos := "law.go:75", after := #[{ on := 1, ground := Ground.guard }], guard := (some (1, false)) }) (v := ?_) rfl (by kernel_rfl) (by kernel_rfl) (by kernel_rfl) (fun _ _ _ h => h) (Or.inl ⟨by rfl, ?_⟩) hHeld ?_
                  rotate_left
                  · intro w hSw; (try dsimp only at hSw); go_simp; try with_reducible rfl
                  try simp only [Act.put, List.setIfInBounds_toArray, List.set_cons_zero, List.set_cons_succ]
                  refine wpAnyH_take (i := 4) (oi := { dst := (some 104), op := (Op.indexAddr 22 (Operand.tmp 102) (Operand.tmp 103)), type := 0, pos := "law.go:75", after := #[{ on := 2, ground := Ground.data }, { on := 3, ground := Ground.data }, { on := 1, ground := Ground.guard }], guard := (some (1, false)) }) (v := ?_) rfl (by kernel_rfl) (by kernel_rfl) (by kernel_rfl) (fun _ _ _ h => h) (Or.inl ⟨by rfl, ?_⟩) hHeld ?_
                  rotate_left
                  · intro w hSw; (try dsimp only at hSw); go_simp; try with_reducible rfl
                  try simp only [Act.put, List.setIfInBounds_toArray, List.set_cons_zero, List.set_cons_succ]
                  refine wpAnyH_take (i := 5) (oi := { dst := (some 105), op := (Op.fieldAddr 41 (Operand.tmp 104) 2), type := 0, pos := "law.go:75", after := #[{ on := 4, ground := Ground.data }, { on := 1, ground := Ground.guard }], guard := (some (1, false)) }) (v := ?_) rfl (by kernel_rfl) (by kernel_rfl) (by kernel_rfl) (fun _ _ _ h => h) (Or.inl ⟨by rfl, ?_⟩) hHeld ?_
                  rotate_left
                  · intro w hSw; (try dsimp only at hSw); go_simp; try with_reducible rfl
                  try simp only [Act.put, List.setIfInBounds_toArray, List.set_cons_zero, List.set_cons_succ]
                  refine wpAnyH_take (i := 6) (oi := { dst := (some 106), op := (Op.load 3 (Operand.tmp 105)), type := 3, pos := "law.go:75", after := #[{ on := 5, ground := Ground.data }, { on := 1, ground := Ground.guard }], guard := (some (1, false)) }) (v := ?_) rfl (by kernel_rfl) (by kernel_rfl) (by kernel_rfl) (fun _ _ _ h => h) (Or.inl ⟨by rfl, ?_⟩) hHeld ?_
                  rotate_left
                  · intro w hSw; (try dsimp only at hSw); go_simp; try with_reducible rfl
                  try simp only [Act.put, List.setIfInBounds_toArray, List.set_cons_zero, List.set_cons_succ]
                  refine wpAnyH_take (i := 7) (oi := { dst := (some 107), op := (Op.move (Operand.tmp 12)), type := 35, pos := "law.go:75", after := #[{ on := 1, ground := Ground.guard }], guard := (some (1, false)) }) (v := ?_) rfl (by kernel_rfl) (by kernel_rfl) (by kernel_rfl) (fun _ _ _ h => h) (Or.inl ⟨by rfl, ?_⟩) hHeld ?_
                  rotate_left
                  · intro w hSw; (try dsimp only at hSw); go_simp; try with_reducible rfl
                  try simp only [Act.put, List.setIfInBounds_toArray, List.set_cons_zero, List.set_cons_succ]
                  refine wpAnyH_take (i := 8) (oi := { dst := (some 108), op := (Op.move (Operand.tmp 14)), type := 3, pos := "law.go:75", after := #[{ on := 1, ground := Ground.guard }], guard := (some (1, false)) }) (v := ?_) rfl (by kernel_rfl) (by kernel_rfl) (by kernel_rfl) (fun _ _ _ h => h) (Or.inl ⟨by rfl, ?_⟩) hHeld ?_
                  rotate_left
                  · intro w hSw; (try dsimp only at hSw); go_simp; try with_reducible rfl
                  try simp only [Act.put, List.setIfInBounds_toArray, List.set_cons_zero, List.set_cons_succ]
                  refine wpAnyH_take (i := 9) (oi := { dst := (some 109), op := (Op.indexAddr 35 (Operand.tmp 107) (Operand.tmp 108)), type := 0, pos := "law.go:75", after := #[{ on := 7, ground := Ground.data }, { on := 8, ground := Ground.data }, { on := 1, ground := Ground.guard }], guard := (some (1, false)) }) (v := ?_) rfl (by kernel_rfl) (by kernel_rfl) (by kernel_rfl) (fun _ _ _ h => h) (Or.inl ⟨by rfl, ?_⟩) hHeld ?_
                  rotate_left
                  · intro w hSw; (try dsimp only at hSw); go_simp; try with_reducible rfl
                  try simp only [Act.put, List.setIfInBounds_toArray, List.set_cons_zero, List.set_cons_succ]
                  refine wpAnyH_take (i := 10) (oi := { dst := (some 110), op := (Op.load 3 (Operand.tmp 109)), type := 3, pos := "law.go:75", after := #[{ on := 9, ground := Ground.data }, { on := 1, ground := Ground.guard }], guard := (some (1, false)) }) (v := ?_) rfl (by kernel_rfl) (by kernel_rfl) (by kernel_rfl) (fun _ _ _ h => h) (Or.inl ⟨by rfl, ?_⟩) hHeld ?_
                  rotate_left
                  · intro w hSw; (try dsimp only at hSw); go_simp; try with_reducible rfl
                  try simp only [Act.put, List.setIfInBounds_toArray, List.set_cons_zero, List.set_cons_succ]
                  refine wpAnyH_take (i := 11) (oi := { dst := (some 111), op := (Op.binOp BinOp.eql 3 (Operand.tmp 106) (Operand.tmp 110) 3), type := 4, pos := "law.go:75", after := #[{ on := 6, ground := Ground.data }, { on := 10, ground := Ground.data }, { on := 1, ground := Ground.guard }], guard := (some (1, false)) }) (v := ?_) rfl (by kernel_rfl) (by kernel_rfl) (by kernel_rfl) (fun _ _ _ h => h) (Or.inl ⟨by rfl, ?_⟩) hHeld ?_
                  rotate_left
                  · intro w hSw; (try dsimp only at hSw); go_simp; try with_reducible rfl
                  try simp only [Act.put, List.setIfInBounds_toArray, List.set_cons_zero, List.set_cons_succ]
                  refine wpAnyH_take (i := 12) (oi := { dst := (some 112), op := (Op.move (Operand.tmp 111)), type := 4, pos := "law.go:75", after := #[{ on := 11, ground := Ground.data }, { on := 1, ground := Ground.chain }, { on := 1, ground := Ground.guard }], guard := (some (1, false)) }) (v := ?_) rfl (by kernel_rfl) (by kernel_rfl) (by kernel_rfl) (fun _ _ _ h => h) (Or.inl ⟨by rfl, ?_⟩) hHeld ?_
                  rotate_left
                  · intro w hSw; (try dsimp only at hSw); go_simp; try with_reducible rfl
                  try simp only [Act.put, List.setIfInBounds_toArray, List.set_cons_zero, List.set_cons_succ]
                  refine wpAnyH_take (i := 13) (oi := { dst := (some 113), op := (Op.move (Operand.tmp 12)), type := 35, pos := "law.go:75", after := #[{ on := 12, ground := Ground.guard }], guard := (some (12, true)) }) rfl (by kernel_rfl) (by kernel_rfl) (by kernel_rfl) (fun _ _ _ h => h) (Or.inr ⟨by rfl, rfl⟩) hHeld ?_
                  try simp only [Act.put, List.setIfInBounds_toArray, List.set_cons_zero, List.set_cons_succ]
                  refine wpAnyH_take (i := 14) (oi := { dst := (some 114), op := (Op.move (Operand.tmp 9)), type := 22, pos := "law.go:75", after := #[{ on := 12, ground := Ground.guard }], guard := (some (12, true)) }) rfl (by kernel_rfl) (by kernel_rfl) (by kernel_rfl) (fun _ _ _ h => h) (Or.inr ⟨by rfl, rfl⟩) hHeld ?_
                  try simp only [Act.put, List.setIfInBounds_toArray, List.set_cons_zero, List.set_cons_succ]
                  refine wpAnyH_take (i := 15) (oi := { dst := (some 115), op := (Op.move (Operand.tmp 16)), type := 3, pos := "law.go:75", after := #[{ on := 12, ground := Ground.guard }], guard := (some (12, true)) }) rfl (by kernel_rfl) (by kernel_rfl) (by kernel_rfl) (fun _ _ _ h => h) (Or.inr ⟨by rfl, rfl⟩) hHeld ?_
                  try simp only [Act.put, List.setIfInBounds_toArray, List.set_cons_zero, List.set_cons_succ]
                  refine wpAnyH_take (i := 16) (oi := { dst := (some 116), op := (Op.indexAddr 22 (Operand.tmp 114) (Operand.tmp 115)), type := 0, pos := "law.go:75", after := #[{ on := 14, ground := Ground.data }, { on := 15, ground := Ground.data }, { on := 12, ground := Ground.guard }], guard := (some (12, true)) }) rfl (by kernel_rfl) (by kernel_rfl) (by kernel_rfl) (fun _ _ _ h => h) (Or.inr ⟨by rfl, rfl⟩) hHeld ?_
                  try simp only [Act.put, List.setIfInBounds_toArray, List.set_cons_zero, List.set_cons_succ]
                  refine wpAnyH_take (i := 17) (oi := { dst := (some 117), op := (Op.fieldAddr 41 (Operand.tmp 116) 0), type := 0, pos := "law.go:75", after := #[{ on := 16, ground := Ground.data }, { on := 12, ground := Ground.guard }], guard := (some (12, true)) }) rfl (by kernel_rfl) (by kernel_rfl) (by kernel_rfl) (fun _ _ _ h => h) (Or.inr ⟨by rfl, rfl⟩) hHeld ?_
                  try simp only [Act.put, List.setIfInBounds_toArray, List.set_cons_zero, List.set_cons_succ]
                  refine wpAnyH_take (i := 18) (oi := { dst := (some 118), op := (Op.load 3 (Operand.tmp 117)), type := 3, pos := "law.go:75", after := #[{ on := 17, ground := Ground.data }, { on := 12, ground := Ground.guard }], guard := (some (12, true)) }) rfl (by kernel_rfl) (by kernel_rfl) (by kernel_rfl) (fun _ _ _ h => h) (Or.inr ⟨by rfl, rfl⟩) hHeld ?_
                  try simp only [Act.put, List.setIfInBounds_toArray, List.set_cons_zero, List.set_cons_succ]
                  refine wpAnyH_take (i := 19) (oi := { dst := (some 119), op := (Op.call { callee := (Callee.value (Operand.func 18)), args := #[(Operand.tmp 113), (Operand.tmp 118)], argTypes := #[35, 3] }), type := 4, pos := "law.go:75", after := #[{ on := 13, ground := Ground.data }, { on := 18, ground := Ground.data }, { on := 12, ground := Ground.chain }, { on := 12, ground := Ground.guard }], guard := (some (12, true)) }) rfl (by kernel_rfl) (by kernel_rfl) (by kernel_rfl) (fun _ _ _ h => h) (Or.inr ⟨by rfl, rfl⟩) hHeld ?_
                  try simp only [Act.put, List.setIfInBounds_toArray, List.set_cons_zero, List.set_cons_succ]
                  refine wpAnyH_take (i := 20) (oi := { dst := (some 120), op := (Op.pick (Operand.tmp 112) (Operand.tmp 119) (Operand.const (Value.bool false))), type := 4, pos := "law.go:75", after := #[{ on := 12, ground := Ground.data }, { on := 19, ground := Ground.data }, { on := 1, ground := Ground.guard }], guard := (some (1, false)) }) (v := ?_) rfl (by kernel_rfl) (by kernel_rfl) (by kernel_rfl) (fun _ _ _ h => h) (Or.inl ⟨by rfl, ?_⟩) hHeld ?_
                  rotate_left
                  · intro w hSw; (try dsimp only at hSw); go_simp; try with_reducible rfl
                  try simp only [Act.put, List.setIfInBounds_toArray, List.set_cons_zero, List.set_cons_succ]
                  refine wpAnyH_take (i := 21) (oi := { dst := (some 121), op := (Op.pick (Operand.tmp 101) (Operand.const (Value.bool true)) (Operand.tmp 120)), type := 4, pos := "law.go:75", after := #[{ on := 1, ground := Ground.data }, { on := 20, ground := Ground.data }], guard := none }) (v := ?_) rfl (by kernel_rfl) (by kernel_rfl) (by kernel_rfl) (fun _ _ _ h => h) (Or.inl ⟨by rfl, ?_⟩) hHeld ?_
                  rotate_left
                  · intro w hSw; (try dsimp only at hSw); go_simp; try with_reducible rfl
                  try simp only [Act.put, List.setIfInBounds_toArray, List.set_cons_zero, List.set_cons_succ]
                  refine wpAnyH_take (i := 22) (oi := { dst := (some 15), op := (Op.assign (Operand.tmp 121)), type := 4, pos := "law.go:75", after := #[{ on := 21, ground := Ground.data }, { on := 19, ground := Ground.chain }, { on := 0, ground := Ground.phase }, { on := 1, ground := Ground.phase }, { on := 2, ground := Ground.phase }, { on := 3, ground := Ground.phase }, { on := 4, ground := Ground.phase }, { on := 5, ground := Ground.phase }, { on := 6, ground := Ground.phase }, { on := 7, ground := Ground.phase }, { on := 8, ground := Ground.phase }, { on := 9, ground := Ground.phase }, { on := 10, ground := Ground.phase }, { on := 11, ground := Ground.phase }, { on := 12, ground := Ground.phase }, { on := 13, ground := Ground.phase }, { on := 14, ground := Ground.phase }, { on := 15, ground := Ground.phase }, { on := 16, ground := Ground.phase }, { on := 17, ground := Ground.phase }, { on := 18, ground := Ground.phase }, { on := 19, ground := Ground.phase }, { on := 20, ground := Ground.phase }, { on := 21, ground := Ground.phase }], guard := none }) (v := ?_) rfl (by kernel_rfl) (by kernel_rfl) (by kernel_rfl) (fun _ _ _ h => h) (Or.inl ⟨by rfl, ?_⟩) hHeld ?_
                  rotate_left
                  · intro w hSw; (try dsimp only at hSw); go_simp; try with_reducible rfl
                  try simp only [Act.put, List.setIfInBounds_toArray, List.set_cons_zero, List.set_cons_succ]
                  refine wpAnyH_done (by kernel_rfl) ?_ _
                  have HW2 := Aside0.mk hHeld.2.2.2
                  have hwj := HWJ.out
                  go_wp2_with fail
                  go_roundw
                  case rel => exact ⟨false, j + 1, by omega, rfl, by go_num, HST2.out, HW2.out⟩
                  case measure => simp [intOf]; omega
            · have hje : j = l2.length := by omega
              have hcb := HCB.out
              rw [hje, HBY2.out] at hcb
              have hwi := HWI.out
              subst hcb
              clear hje
              go_wp2_with fail
              go_roundw
              case rel => exact ⟨i2 + 1, by omega, by go_num, HW.out⟩
              case measure => simp [intOf]; omega
        · go_wp2_with fail
          go_ret
          exact ⟨rfl, below_step HB.out HW.out⟩
end Go.Proofs.Ytjbgealnnlmchaa.G
