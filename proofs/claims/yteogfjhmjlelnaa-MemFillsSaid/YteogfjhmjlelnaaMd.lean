/- Mem.part and Mem.wide by one test of the place. The Mem has these blocks. -/
import Derived.Test.YteogfjhmjlelnaaMc
set_option linter.unusedVariables false
set_option linter.unusedSimpArgs false
namespace Go.Proofs.Yteogfjhmjlelnaa.G
open Go.RowKit Go.Proofs.Yteogfjhmjlelnaa.B Go.Proofs.YteogfjhmjlelnaaW.PrintWords Go.Proofs.YteogfjhmjlelnaaW.PrintLast Go.Proofs.YteogfjhmjlelnaaW.PrintMore

/-- The block that n bytes at p lie in, if they may be. -/
def okAt (bs : List Blk) (p : Vl) (n : Int) : Option Blk :=
  if (decide (0 < p.b) && p.f == 0) = true then
    match bs[p.b.toNat - 1]? with
    | some b => if b.there = true ∧ 0 ≤ n ∧ n ≤ 4096 ∧ 0 ≤ p.n ∧ p.n ≤ (b.n : Int) - n then some b else none
    | none => none
  else none
theorem part_good (p : Vl) (n : Int) (gm : Nat) (v : Value) (bs : List Blk) (b : Blk) (w : World) (hM : IsMem w gm v bs) (hs : ∀ b ∈ bs, b.n ≤ 4096) (h : okAt bs p n = some b) :
    Calls Try.prog 37 #[.pointer (some ⟨gm, 0, none⟩), .agg #[.int .i64 p.n, .int .i64 p.b, .int .i64 p.f], .int .i64 n] w fun e w' => ∃ A, e = .returned (.tuple #[.slice A n.toNat n.toNat, .bool true]) ∧ (0 < n → A = some ⟨b.gb, p.n.toNat * 5, none⟩) ∧ Below w.heap.size w w' := by
  unfold okAt at h
  split at h
  · rename_i hp
    split at h
    · rename_i b' hb
      split at h
      · rename_i hc
        cases h
        obtain ⟨g, cap, rfl, _⟩ := hM.form (by have := (List.getElem?_eq_some_iff.1 hb).1; omega)
        exact part_ok p n gm g cap bs b w hM hp hb (hs b (List.mem_of_getElem? hb)) hc.1 hc.2.1 hc.2.2.1 hc.2.2.2.1 hc.2.2.2.2
      · cases h
    · cases h
  · cases h
theorem part_bad (p : Vl) (n : Int) (gm : Nat) (v : Value) (bs : List Blk) (w : World) (hM : IsMem w gm v bs) (hs : ∀ b ∈ bs, b.n ≤ 4096) (h : okAt bs p n = none) :
    Calls Try.prog 37 #[.pointer (some ⟨gm, 0, none⟩), .agg #[.int .i64 p.n, .int .i64 p.b, .int .i64 p.f], .int .i64 n] w fun e w' => e = .returned (.tuple #[.slice none 0 0, .bool false]) ∧ Below w.heap.size w w' := by
  unfold okAt at h
  split at h
  · rename_i hp
    split at h
    · rename_i b hb
      obtain ⟨g, cap, rfl, _⟩ := hM.form (by have := (List.getElem?_eq_some_iff.1 hb).1; omega)
      have hsb := hs b (List.mem_of_getElem? hb)
      split at h
      · cases h
      · rename_i hc
        cases ht : b.there with
        | false => exact part_gone p n gm g cap bs b w hM hp hb hsb ht
        | true =>
          by_cases h4 : 0 ≤ n
          · by_cases h5 : n ≤ 4096
            · by_cases h6 : 0 ≤ p.n
              · exact part_high p n gm g cap bs b w hM hp hb hsb ht h4 h5 h6 (by
                  by_cases h7 : p.n ≤ (b.n : Int) - n
                  · exact absurd ⟨ht, h4, h5, h6, h7⟩ hc
                  · omega)
              · exact part_low p n gm g cap bs b w hM hp hb hsb ht h4 h5 (by omega)
            · exact part_big p n gm g cap bs b w hM hp hb hsb ht h4 (by omega)
          · exact part_neg p n gm g cap bs b w hM hp hb hsb ht (by omega)
    · rename_i hb
      have h1 : 0 < p.b := by simp at hp; exact hp.1
      have h2 := List.getElem?_eq_none_iff.1 hb
      exact part_miss p n gm v bs w hM hp (by omega)
  · rename_i hp
    exact part_nop p n gm v bs w hM (by simpa using hp)
theorem wide_arg (p : Vl) (k : Int) (q : Option Addr) (w : World) (h1 : k ≠ 1) (h4 : k ≠ 4) (h8 : k ≠ 8) :
    Calls Try.prog 32 #[.pointer q, .agg #[.int .i64 p.n, .int .i64 p.b, .int .i64 p.f], .int .i64 k] w fun e w' => e = .returned (.tuple #[.slice none 0 0, .int .i64 1]) ∧ Below w.heap.size w w' := by
  have hB := Aside0.mk (below_alloc (Below.refl w.heap.size w) (.cells #[.int .i64 p.n, .int .i64 p.b, .int .i64 p.f] 23))
  have k1 : (k != 1) = true := bne_iff_ne.mpr h1
  have k4 : (k != 4) = true := bne_iff_ne.mpr h4
  have k8 : (k != 8) = true := bne_iff_ne.mpr h8
  clear h1 h4 h8
  go_enter Try.func32, Try.ntmps32
  go_wp2_with fail
  exact bodyPost_ret (v := .tuple #[.slice none 0 0, .int .i64 1]) (by simp [results, Try.results32, go_sem]) rfl ⟨rfl, hB.out⟩
theorem wide_good (p : Vl) (k : Nat) (hk : k = 1 ∨ k = 4 ∨ k = 8) (gm : Nat) (v : Value) (bs : List Blk) (b : Blk) (w : World) (hM : IsMem w gm v bs) (hs : ∀ b ∈ bs, b.n ≤ 4096) (h : okAt bs p k = some b) :
    Calls Try.prog 32 #[.pointer (some ⟨gm, 0, none⟩), .agg #[.int .i64 p.n, .int .i64 p.b, .int .i64 p.f], .int .i64 k] w fun e w' => e = .returned (.tuple #[.slice (some ⟨b.gb, p.n.toNat * 5, none⟩) k k, .int .i64 0]) ∧ Below w.heap.size w w' := by
  rcases hk with rfl | rfl | rfl
  · have hB := Aside0.mk (below_alloc (Below.refl w.heap.size w) (.cells #[.int .i64 p.n, .int .i64 p.b, .int .i64 p.f] 23))
    have hX := Aside0.mk (blk_new w (.cells #[.int .i64 p.n, .int .i64 p.b, .int .i64 p.f] 23))
    have HM := Aside0.mk (IsMem.alloc hM (.cells #[.int .i64 p.n, .int .i64 p.b, .int .i64 p.f] 23))
    have HS := Aside0.mk hs
    have HO := Aside0.mk h
    clear hM hs h
    go_enter Try.func32, Try.ntmps32
    go_upto_region 3 with (fail)
    generalize w.alloc (.cells #[.int .i64 p.n, .int .i64 p.b, .int .i64 p.f] 23) = W at hB hX HM ⊢
    have hx := cell3 hX.out
    go_wp2_with fail
    refine (part_good p 1 gm v bs b _ HM.out HS.out HO.out).mono ?_
    rintro e w1 ⟨A, rfl, hA, hb1⟩
    have HB1 := Aside0.mk (below_step hB.out hb1)
    have HA := Aside0.mk hA
    clear hx hX HM HS HO hB hb1 hA
    go_wp2_with fail
    exact bodyPost_ret (v := .tuple #[.slice A 1 1, .int .i64 0]) (by simp [results, Try.results32, go_sem]) rfl ⟨by rw [HA.out (by omega)], HB1.out⟩
  · have hB := Aside0.mk (below_alloc (Below.refl w.heap.size w) (.cells #[.int .i64 p.n, .int .i64 p.b, .int .i64 p.f] 23))
    have hX := Aside0.mk (blk_new w (.cells #[.int .i64 p.n, .int .i64 p.b, .int .i64 p.f] 23))
    have HM := Aside0.mk (IsMem.alloc hM (.cells #[.int .i64 p.n, .int .i64 p.b, .int .i64 p.f] 23))
    have HS := Aside0.mk hs
    have HO := Aside0.mk h
    clear hM hs h
    go_enter Try.func32, Try.ntmps32
    go_upto_region 3 with (fail)
    generalize w.alloc (.cells #[.int .i64 p.n, .int .i64 p.b, .int .i64 p.f] 23) = W at hB hX HM ⊢
    have hx := cell3 hX.out
    go_wp2_with fail
    refine (part_good p 4 gm v bs b _ HM.out HS.out HO.out).mono ?_
    rintro e w1 ⟨A, rfl, hA, hb1⟩
    have HB1 := Aside0.mk (below_step hB.out hb1)
    have HA := Aside0.mk hA
    clear hx hX HM HS HO hB hb1 hA
    go_wp2_with fail
    exact bodyPost_ret (v := .tuple #[.slice A 4 4, .int .i64 0]) (by simp [results, Try.results32, go_sem]) rfl ⟨by rw [HA.out (by omega)], HB1.out⟩
  · have hB := Aside0.mk (below_alloc (Below.refl w.heap.size w) (.cells #[.int .i64 p.n, .int .i64 p.b, .int .i64 p.f] 23))
    have hX := Aside0.mk (blk_new w (.cells #[.int .i64 p.n, .int .i64 p.b, .int .i64 p.f] 23))
    have HM := Aside0.mk (IsMem.alloc hM (.cells #[.int .i64 p.n, .int .i64 p.b, .int .i64 p.f] 23))
    have HS := Aside0.mk hs
    have HO := Aside0.mk h
    clear hM hs h
    go_enter Try.func32, Try.ntmps32
    go_upto_region 3 with (fail)
    generalize w.alloc (.cells #[.int .i64 p.n, .int .i64 p.b, .int .i64 p.f] 23) = W at hB hX HM ⊢
    have hx := cell3 hX.out
    go_wp2_with fail
    refine (part_good p 8 gm v bs b _ HM.out HS.out HO.out).mono ?_
    rintro e w1 ⟨A, rfl, hA, hb1⟩
    have HB1 := Aside0.mk (below_step hB.out hb1)
    have HA := Aside0.mk hA
    clear hx hX HM HS HO hB hb1 hA
    go_wp2_with fail
    exact bodyPost_ret (v := .tuple #[.slice A 8 8, .int .i64 0]) (by simp [results, Try.results32, go_sem]) rfl ⟨by rw [HA.out (by omega)], HB1.out⟩
theorem wide_bad (p : Vl) (k : Nat) (hk : k = 1 ∨ k = 4 ∨ k = 8) (gm : Nat) (v : Value) (bs : List Blk) (w : World) (hM : IsMem w gm v bs) (hs : ∀ b ∈ bs, b.n ≤ 4096) (h : okAt bs p k = none) :
    Calls Try.prog 32 #[.pointer (some ⟨gm, 0, none⟩), .agg #[.int .i64 p.n, .int .i64 p.b, .int .i64 p.f], .int .i64 k] w fun e w' => e = .returned (.tuple #[.slice none 0 0, .int .i64 9]) ∧ Below w.heap.size w w' := by
  rcases hk with rfl | rfl | rfl
  · have hB := Aside0.mk (below_alloc (Below.refl w.heap.size w) (.cells #[.int .i64 p.n, .int .i64 p.b, .int .i64 p.f] 23))
    have hX := Aside0.mk (blk_new w (.cells #[.int .i64 p.n, .int .i64 p.b, .int .i64 p.f] 23))
    have HM := Aside0.mk (IsMem.alloc hM (.cells #[.int .i64 p.n, .int .i64 p.b, .int .i64 p.f] 23))
    have HS := Aside0.mk hs
    have HO := Aside0.mk h
    clear hM hs h
    go_enter Try.func32, Try.ntmps32
    go_upto_region 3 with (fail)
    generalize w.alloc (.cells #[.int .i64 p.n, .int .i64 p.b, .int .i64 p.f] 23) = W at hB hX HM ⊢
    have hx := cell3 hX.out
    go_wp2_with fail
    refine (part_bad p 1 gm v bs _ HM.out HS.out HO.out).mono ?_
    rintro e w1 ⟨rfl, hb1⟩
    have HB1 := Aside0.mk (below_step hB.out hb1)
    clear hx hX HM HS HO hB hb1
    go_wp2_with fail
    exact bodyPost_ret (v := .tuple #[.slice none 0 0, .int .i64 9]) (by simp [results, Try.results32, go_sem]) rfl ⟨rfl, HB1.out⟩
  · have hB := Aside0.mk (below_alloc (Below.refl w.heap.size w) (.cells #[.int .i64 p.n, .int .i64 p.b, .int .i64 p.f] 23))
    have hX := Aside0.mk (blk_new w (.cells #[.int .i64 p.n, .int .i64 p.b, .int .i64 p.f] 23))
    have HM := Aside0.mk (IsMem.alloc hM (.cells #[.int .i64 p.n, .int .i64 p.b, .int .i64 p.f] 23))
    have HS := Aside0.mk hs
    have HO := Aside0.mk h
    clear hM hs h
    go_enter Try.func32, Try.ntmps32
    go_upto_region 3 with (fail)
    generalize w.alloc (.cells #[.int .i64 p.n, .int .i64 p.b, .int .i64 p.f] 23) = W at hB hX HM ⊢
    have hx := cell3 hX.out
    go_wp2_with fail
    refine (part_bad p 4 gm v bs _ HM.out HS.out HO.out).mono ?_
    rintro e w1 ⟨rfl, hb1⟩
    have HB1 := Aside0.mk (below_step hB.out hb1)
    clear hx hX HM HS HO hB hb1
    go_wp2_with fail
    exact bodyPost_ret (v := .tuple #[.slice none 0 0, .int .i64 9]) (by simp [results, Try.results32, go_sem]) rfl ⟨rfl, HB1.out⟩
  · have hB := Aside0.mk (below_alloc (Below.refl w.heap.size w) (.cells #[.int .i64 p.n, .int .i64 p.b, .int .i64 p.f] 23))
    have hX := Aside0.mk (blk_new w (.cells #[.int .i64 p.n, .int .i64 p.b, .int .i64 p.f] 23))
    have HM := Aside0.mk (IsMem.alloc hM (.cells #[.int .i64 p.n, .int .i64 p.b, .int .i64 p.f] 23))
    have HS := Aside0.mk hs
    have HO := Aside0.mk h
    clear hM hs h
    go_enter Try.func32, Try.ntmps32
    go_upto_region 3 with (fail)
    generalize w.alloc (.cells #[.int .i64 p.n, .int .i64 p.b, .int .i64 p.f] 23) = W at hB hX HM ⊢
    have hx := cell3 hX.out
    go_wp2_with fail
    refine (part_bad p 8 gm v bs _ HM.out HS.out HO.out).mono ?_
    rintro e w1 ⟨rfl, hb1⟩
    have HB1 := Aside0.mk (below_step hB.out hb1)
    clear hx hX HM HS HO hB hb1
    go_wp2_with fail
    exact bodyPost_ret (v := .tuple #[.slice none 0 0, .int .i64 9]) (by simp [results, Try.results32, go_sem]) rfl ⟨rfl, HB1.out⟩
end Go.Proofs.Yteogfjhmjlelnaa.G
