/- norm.Norm as a plain function. The arguments read as types and records. -/
import Derived.Test.YtndcnhbcconbcaaNc
set_option linter.unusedVariables false
set_option linter.unusedSimpArgs false
namespace Go.Proofs.Ytndcnhbcconbcaa.G
open Go.RowKit Go.Proofs.Ytndcnhbcconbcaa.B Go.Proofs.YtndcnhbcconbcaaW.PrintWords Go.Proofs.YtndcnhbcconbcaaW.PrintLast Go.Proofs.YtndcnhbcconbcaaW.PrintMore

/-- A place's normal place, and the error, out of the type's size and what norm tells. -/
def normT (s : Int × Int × Int) (off : Int) (r : Option Int) : Option (Int × Int) :=
  if s.2.2 = 0 then (if off < 0 then some (0, 8) else if s.1 < off then some (0, 8) else if off = s.1 then some (s.1, 0) else r.map (fun a => (a, 0))) else some (0, s.2.2)
set_option maxRecDepth 100000 in
set_option maxHeartbeats 2000000 in
theorem norm12_c (l : List S51) (A : Option Addr) (c : Nat) (hl : l.length ≤ c) (k : Nat) (u : S24) (off a e : Int) (D : Option Addr) (q : Nat) (W : World) (ho : I64 off) (hC : k51.C W A l.length l) (hD : k24.C W D u.f3.length u.f3) (hq : u.f3.length ≤ q) (hr : normT (sizeS l u) off (normF k l u off) = some (a, e)) :
    Calls Try.prog 12 #[.slice A l.length c, .agg #[.int .i64 u.f0, .int .i64 u.f1, .string u.f2, .slice D u.f3.length q], .int .i64 off] W fun e' w' => e' = .returned (.tuple #[.int .i64 a, .int .i64 e]) ∧ Below W.heap.size W w' := by
  have HC := Aside0.mk hC
  have HD := Aside0.mk hD
  obtain ⟨s1, s2, s3, hs⟩ : ∃ s1 s2 s3, sizeS l u = (s1, s2, s3) := ⟨_, _, _, rfl⟩
  have HS := Aside0.mk (fun W h1 h2 => size_c l A c hl _ u (Nat.le_refl _) D q W h1 h2 hq s1 s2 s3 hs)
  have HN := Aside0.mk (fun r W h1 h2 h3 => norm_c l A c hl k u off r D q W ho h1 h2 hq h3)
  rw [hs] at hr
  unfold normT at hr
  dsimp only at hr
  have HX := Aside0.mk (blk_new W (.cells #[.int .i64 u.f0, .int .i64 u.f1, .string u.f2, .slice D u.f3.length q] 24))
  have HB0 := Aside0.mk (below_alloc (Below.refl W.heap.size W) (.cells #[.int .i64 u.f0, .int .i64 u.f1, .string u.f2, .slice D u.f3.length q] 24))
  have HR := Aside0.mk hr
  clear hC hD hs hr ho hq hl
  go_enter Try.func12, Try.ntmps12
  go_upto_region 1 with (fail)
  generalize W.alloc (.cells #[.int .i64 u.f0, .int .i64 u.f1, .string u.f2, .slice D u.f3.length q] 24) = W0 at HB0 HX ⊢
  generalize hg4 : W.heap.size = g4 at HX ⊢
  clear hg4
  obtain ⟨z0, z1, z2, z3⟩ := cell4 HX.out
  go_upto_block 0 with (go_at_call 19; with_reducible refine (HS.out _ (Kd.C_below HC.out HB0.out) (Kd.C_below HD.out HB0.out)).mono ?_; rintro e1 w1 ⟨rfl, hb⟩; have HB1 := Aside0.mk (below_step HB0.out hb); have HX1 := Aside0.mk (blk_below HX.out hb); clear hb)
  clear z0 z1 z2 z3
  obtain ⟨z0, z1, z2, z3⟩ := cell4 HX1.out
  by_cases h3 : s3 = 0
  · have hr := HR.out
    rw [if_pos h3] at hr
    subst h3
    by_cases h4 : off < 0
    · have hb4 : decide (off < 0) = true := decide_eq_true h4
      rw [if_pos h4] at hr
      injection hr with hr
      injection hr with e1 e2
      subst e1 e2
      go_wp2_with fail
      go_ret2
      exact ⟨rfl, HB1.out⟩
    · have hb4 : decide (off < 0) = false := decide_eq_false h4
      rw [if_neg h4] at hr
      by_cases h5 : s1 < off
      · have hb5 : decide (s1 < off) = true := decide_eq_true h5
        rw [if_pos h5] at hr
        injection hr with hr
        injection hr with e1 e2
        subst e1 e2
        clear h4 h5
        go_wp2_with fail
        go_ret2
        exact ⟨rfl, HB1.out⟩
      · have hb5 : decide (s1 < off) = false := decide_eq_false h5
        rw [if_neg h5] at hr
        by_cases h6 : off = s1
        · have hb6 : (off == s1) = true := beq_iff_eq.mpr h6
          rw [if_pos h6] at hr
          injection hr with hr
          injection hr with e1 e2
          subst e1 e2
          clear h4 h5 h6
          go_wp2_with fail
          go_ret2
          exact ⟨rfl, HB1.out⟩
        · have hb6 : (off == s1) = false := beq_eq_false_iff_ne.mpr h6
          rw [if_neg h6] at hr
          obtain ⟨a', ha, hra⟩ := Option.map_eq_some_iff.1 hr
          injection hra with e1 e2
          subst e1 e2
          have HA := Aside0.mk (fun W h1 h2 => HN.out a' W h1 h2 ha)
          clear h4 h5 h6 ha hr HN HR
          go_wp2_with (go_at_call 22; with_reducible refine (HA.out _ (Kd.C_below HC.out HB1.out) (Kd.C_below HD.out HB1.out)).mono ?_; rintro e1 w2 ⟨rfl, hb⟩; have HB2 := Aside0.mk (below_step HB1.out hb); clear hb)
          go_ret2
          exact ⟨rfl, HB2.out⟩
  · have hr := HR.out
    rw [if_neg h3] at hr
    have hb3 : (s3 == 0) = false := beq_eq_false_iff_ne.mpr h3
    injection hr with hr
    injection hr with e1 e2
    subst e1 e2
    go_wp2_with fail
    go_ret2
    exact ⟨rfl, HB1.out⟩
end Go.Proofs.Ytndcnhbcconbcaa.G
