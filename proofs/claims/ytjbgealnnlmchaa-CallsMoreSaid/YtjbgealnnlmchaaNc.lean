/- scc.Groups tells what groupsT tells. Its contract names its state. -/
import Derived.Test.YtjbgealnnlmchaaNa
import Derived.Test.YtjbgealnnlmchaaNb
import Derived.BigRegion
set_option linter.unusedVariables false
set_option linter.unusedSimpArgs false
namespace Go.Proofs.Ytjbgealnnlmchaa.G
open Go.RowKit Go.Proofs.Ytjbgealnnlmchaa.B Go.Proofs.YtjbgealnnlmchaaW.PrintWords Go.Proofs.YtjbgealnnlmchaaW.PrintLast Go.Proofs.YtjbgealnnlmchaaW.PrintMore

/-- When all rows of numbers are made. -/
structure Mid (w1 W : World) (ag : Option Addr) (cg N gb ru bu bn rn bw rw : Nat) : Prop where
  g : W.heap[gb]? = some (.cells #[.slice ag N cg] 26 (0, 0))
  outr : W.heap[ru]? = some (.cells (madeCells #[.int .i64 0] N) 3 (0, 0))
  out : W.heap[bu]? = some (.cells #[.slice (some ⟨ru, 0, none⟩) N N] 35 (0, 0))
  numr : W.heap[rn]? = some (.cells (madeCells #[.int .i64 0] N) 3 (0, 0))
  num : W.heap[bn]? = some (.cells #[.slice (some ⟨rn, 0, none⟩) N N] 35 (0, 0))
  lowr : W.heap[rw]? = some (.cells (madeCells #[.int .i64 0] N) 3 (0, 0))
  low : W.heap[bw]? = some (.cells #[.slice (some ⟨rw, 0, none⟩) N N] 35 (0, 0))
  ne : rn ≠ rw ∧ rn ≠ ru ∧ rw ≠ ru ∧ bn ≠ bw ∧ bn ≠ bu ∧ bw ≠ bu
  lo : w1.heap.size ≤ rn ∧ w1.heap.size ≤ rw ∧ w1.heap.size ≤ ru
  below : Below w1.heap.size w1 W
theorem heap4 (W : World) (o0 o1 o2 o3 : Obj) :
    ((((W.alloc o0).alloc o1).alloc o2).alloc o3).drew.heap[W.heap.size]? = some o0 ∧ ((((W.alloc o0).alloc o1).alloc o2).alloc o3).drew.heap[W.heap.size + 1]? = some o1 ∧
    ((((W.alloc o0).alloc o1).alloc o2).alloc o3).drew.heap[W.heap.size + 2]? = some o2 ∧ ((((W.alloc o0).alloc o1).alloc o2).alloc o3).drew.heap[W.heap.size + 3]? = some o3 ∧
    ∀ (k : Nat) o, W.heap[k]? = some o → ((((W.alloc o0).alloc o1).alloc o2).alloc o3).drew.heap[k]? = some o :=
  ⟨blk_alloc (blk_alloc (blk_alloc (blk_at_ o0 rfl) o1) o2) o3, blk_alloc (blk_alloc (blk_at_ (W := W.alloc o0) o1 (by simp)) o2) o3, blk_alloc (blk_at_ (W := (W.alloc o0).alloc o1) o2 (by simp)) o3, blk_at_ (W := ((W.alloc o0).alloc o1).alloc o2) o3 (by simp),
    fun k o h => blk_alloc (blk_alloc (blk_alloc (blk_alloc h o0) o1) o2) o3⟩
theorem heap5 (W : World) (o0 o1 o2 o3 o4 : Obj) :
    (((((W.alloc o0).alloc o1).alloc o2).alloc o3).alloc o4).heap[W.heap.size]? = some o0 ∧ (((((W.alloc o0).alloc o1).alloc o2).alloc o3).alloc o4).heap[W.heap.size + 1]? = some o1 ∧
    (((((W.alloc o0).alloc o1).alloc o2).alloc o3).alloc o4).heap[W.heap.size + 1 + 1]? = some o2 ∧ (((((W.alloc o0).alloc o1).alloc o2).alloc o3).alloc o4).heap[W.heap.size + 1 + 1 + 1]? = some o3 ∧
    (((((W.alloc o0).alloc o1).alloc o2).alloc o3).alloc o4).heap[W.heap.size + 1 + 1 + 1 + 1]? = some o4 ∧ (((((W.alloc o0).alloc o1).alloc o2).alloc o3).alloc o4).heap.size = W.heap.size + 5 ∧
    ∀ (k : Nat) o, W.heap[k]? = some o → (((((W.alloc o0).alloc o1).alloc o2).alloc o3).alloc o4).heap[k]? = some o :=
  ⟨blk_alloc (blk_alloc (blk_alloc (blk_alloc (blk_at_ o0 rfl) o1) o2) o3) o4, blk_alloc (blk_alloc (blk_alloc (blk_at_ (W := W.alloc o0) o1 (by simp)) o2) o3) o4, blk_alloc (blk_alloc (blk_at_ (W := (W.alloc o0).alloc o1) o2 (by simp)) o3) o4, blk_alloc (blk_at_ (W := ((W.alloc o0).alloc o1).alloc o2) o3 (by simp)) o4, blk_at_ (W := (((W.alloc o0).alloc o1).alloc o2).alloc o3) o4 (by simp), by simp,
    fun k o h => blk_alloc (blk_alloc (blk_alloc (blk_alloc (blk_alloc h o0) o1) o2) o3) o4⟩
theorem below5 {w1 W : World} (h : Below w1.heap.size w1 W) (o0 o1 o2 o3 o4 : Obj) : Below w1.heap.size w1 (((((W.alloc o0).alloc o1).alloc o2).alloc o3).alloc o4) :=
  below_alloc (below_alloc (below_alloc (below_alloc (below_alloc h o0) o1) o2) o3) o4
theorem below4 {w1 W : World} (h : Below w1.heap.size w1 W) (o0 o1 o2 o3 : Obj) : Below w1.heap.size w1 ((((W.alloc o0).alloc o1).alloc o2).alloc o3).drew :=
  below_drew (below_alloc (below_alloc (below_alloc (below_alloc h o0) o1) o2) o3)
set_option maxRecDepth 100000 in
set_option maxHeartbeats 8000000 in
theorem groups_c (n0 : Int) (A1 : Option Addr) (cE : Nat) (l1 : List S41) (w : World) (G : List (List Nat)) (k : Nat) (hr1 : Kd.C k41 w A1 l1.length l1) (hc1 : l1.length ≤ cE) (hf : scc_graph.f k n0 l1 = some (G.map ints)) (hn : G.length ≤ 20000)
    (hg : ∀ v, ∀ w ∈ G.getD v [], w < G.length) (hGl : ∀ v, (G.getD v []).length ≤ 1000000) (sE : TS) (hs : groupsT G = some sE) :
    Calls Try.prog 24 #[.int .i64 n0, .slice A1 l1.length cE] w fun e w' => ∃ A c, e = .returned (.slice A G.length c) ∧ G.length ≤ c ∧ Kd.C (Kd.int .i64) w' A G.length (ints sE.out) ∧ Below w.heap.size w w' := by
  have HRG := Aside0.mk (scc_graph.calls k n0 A1 cE l1 _ w hr1 hc1 hf)
  have HGE := Aside0.mk hg
  have HGL := Aside0.mk hGl
  have HSE := Aside0.mk hs
  clear hr1 hc1 hf hg hGl hs
  obtain ⟨N, hN⟩ : ∃ N, N = G.length := ⟨_, rfl⟩
  have HN := Aside0.mk hN
  have HN2 := Aside0.mk hn
  rw [← hN]
  clear hn hN
  go_enter Try.func24, Try.ntmps24
  go_wp2_with fail
  refine HRG.out.mono ?_
  rintro e w1 ⟨v0, rfl, hS, hb1⟩
  obtain ⟨inner, hin⟩ := Kd.S_own hS
  obtain ⟨ag, cg, rfl⟩ := own_form hin
  obtain ⟨_, hcg, hCG⟩ := Kd.S_reads' hS
  rw [List.length_map, ← HN.out] at hcg hCG
  have HCG := Aside0.mk hCG
  have HB1 := Aside0.mk hb1
  rw [List.length_map, ← HN.out]
  clear hS hin hCG hcg hb1
  have hmk := run_make_row' (P := Try.prog) 35 3 (.int .i64 0) 8 Try.underlying35 info3 rfl .i64 .i64 N (by have := HN.out; have := HN2.out; omega) (by have := HN.out; have := HN2.out; omega)
  have hmk4 := run_make_row' (P := Try.prog) 56 4 (.bool false) 1 Try.underlying56 info4 rfl .i64 .i64 N (by have := HN.out; have := HN2.out; omega) (by have := HN.out; have := HN2.out; omega)
  go_upto_region 2 with (fail)
  have HX := Aside0.mk (blk_new w1 (.cells #[.slice ag N cg] 26))
  have HB := Aside0.mk (below_alloc (Below.refl w1.heap.size w1) (.cells #[.slice ag N cg] 26))
  generalize hW1 : w1.alloc (.cells #[.slice ag N cg] 26) = W1 at HX HB ⊢
  have c1 := cell1 HX.out
  go_upto_region 3 with (fail)
  rename_i K hK
  have HRU := Aside0.mk (blk_alloc (blk_new W1 (.cells (madeCells #[.int .i64 0] N) 3)) (.cells #[.slice (some ⟨W1.heap.size, 0, none⟩) N N] 35))
  have HBU := Aside0.mk (blk_at_ (W := W1.alloc (.cells (madeCells #[.int .i64 0] N) 3)) (n := W1.heap.size + 1) (.cells #[.slice (some ⟨W1.heap.size, 0, none⟩) N N] 35) (by simp))
  replace HX := Aside0.mk (blk_alloc (blk_alloc HX.out (.cells (madeCells #[.int .i64 0] N) 3)) (.cells #[.slice (some ⟨W1.heap.size, 0, none⟩) N N] 35))
  replace HB := Aside0.mk (below_alloc (below_alloc HB.out (.cells (madeCells #[.int .i64 0] N) 3)) (.cells #[.slice (some ⟨W1.heap.size, 0, none⟩) N N] 35))
  have HSZ := Aside0.mk (show W1.heap.size + 2 = ((W1.alloc (.cells (madeCells #[.int .i64 0] N) 3)).alloc (.cells #[.slice (some ⟨W1.heap.size, 0, none⟩) N N] 35)).heap.size by simp)
  have HSW : Aside0 (W1.heap.size = w1.heap.size + 1) := Aside0.mk (by rw [← hW1]; simp)
  clear hW1 c1
  generalize (W1.alloc (.cells (madeCells #[.int .i64 0] N) 3)).alloc (.cells #[.slice (some ⟨W1.heap.size, 0, none⟩) N N] 35) = W2 at HX HB HRU HBU HSZ ⊢
  generalize W1.heap.size = z1 at HRU HBU HSZ HSW ⊢
  have c1 := cell1 HX.out
  have hlt : w1.heap.size < W2.heap.size := blk_lt HX.out
  have HW1 := Aside0.mk (show w1.heap.size ≤ z1 ∧ w1.heap.size < W2.heap.size from ⟨by have := HSW.out; omega, hlt⟩)
  generalize hgb : w1.heap.size = gb at HX hlt c1 ⊢
  have HGB := Aside0.mk hgb
  clear hgb
  have rest : ∀ (W : World) (bn rn bw rw : Nat), Mid w1 W ag cg N gb z1 (z1 + 1) bn rn bw rw → K { tmps := #[.int .i64 n0, .slice A1 l1.length cE, undef, undef, .slice none 0 0, .pointer (some ⟨gb, 0, none⟩), .pointer (some ⟨z1 + 1, 0, none⟩), .pointer (some ⟨bn, 0, none⟩), .pointer (some ⟨bw, 0, none⟩), undef, undef, undef, undef, undef, .int .i64 n0, .slice A1 l1.length cE, .slice ag N cg, .slice ag N cg, .int .i64 (N : Int), .slice (some ⟨z1, 0, none⟩) N N, .slice ag N cg, .int .i64 (N : Int), .slice (some ⟨rn, 0, none⟩) N N, .slice ag N cg, .int .i64 (N : Int), .slice (some ⟨rw, 0, none⟩) N N, undef, undef, undef, undef, undef, undef, undef, undef, undef, undef, undef, undef, undef, undef, undef, undef, undef, undef, undef], defers := [] } W := by
    intro W bn rn bw rw hM
    have HM := Aside0.mk hM
    clear hM c1 hlt
    refine hK _ _ ?_
    go_upto_region 5 with (fail)
    have c1 := cell1 (blk_alloc HM.out.g (.cells #[.slice none 0 0] 35))
    go_upto_region 6 with (fail)
    go_upto_region 8 with (fail)
    obtain ⟨p0, p1, p2, p3, p4, psz, po⟩ := heap5 W (.cells #[.slice none 0 0] 35) (.cells (madeCells #[.bool false] N) 4) (.cells #[.slice (some ⟨W.heap.size + 1, 0, none⟩) N N] 56) (.cells #[.int .i64 0] 3) (.cells #[Value.nilFunc] 59)
    have pb := below5 HM.out.below (.cells #[.slice none 0 0] 35) (.cells (madeCells #[.bool false] N) 4) (.cells #[.slice (some ⟨W.heap.size + 1, 0, none⟩) N N] 56) (.cells #[.int .i64 0] 3) (.cells #[Value.nilFunc] 59)
    have hold : ∀ (k : Nat) o, W.heap[k]? = some o → k < W.heap.size := fun k o h => blk_lt h
    have HOLD := Aside0.mk hold
    clear hold c1
    generalize ((((W.alloc (.cells #[.slice none 0 0] 35)).alloc (.cells (madeCells #[.bool false] N) 4)).alloc (.cells #[.slice (some ⟨W.heap.size + 1, 0, none⟩) N N] 56)).alloc (.cells #[.int .i64 0] 3)).alloc (.cells #[Value.nilFunc] 59) = W5 at p0 p1 p2 p3 p4 psz po pb ⊢
    generalize h4 : W.heap.size + 1 + 1 + 1 + 1 = z4 at p4 ⊢
    generalize h3 : W.heap.size + 1 + 1 + 1 = z3 at p3 ⊢
    generalize h2 : W.heap.size + 1 + 1 = z2 at p2 ⊢
    generalize h1 : W.heap.size + 1 = zr at p1 p2 ⊢
    generalize h0 : W.heap.size = z at p0 ⊢
    have HZ := Aside0.mk (show z3 = z + 3 ∧ z2 = z + 2 ∧ zr = z + 1 ∧ z4 = z + 4 ∧ z = W.heap.size ∧ W5.heap.size = z + 5 by omega)
    have P := Aside0.mk (And.intro p0 (And.intro p1 (And.intro p2 (And.intro p3 (And.intro p4 (And.intro po pb))))))
    clear p0 p1 p2 p3 po pb psz h4 h3 h2 h1 h0
    have c1 := cell1 p4
    have f1 := blk_frozen p4 0
    have hst : Sem.run Try.prog (store ⟨z4, 0, none⟩ (.func (.func 33) #[] #[.pointer (some ⟨z3, 0, none⟩), .pointer (some ⟨bn, 0, none⟩), .pointer (some ⟨bw, 0, none⟩), .pointer (some ⟨z, 0, none⟩), .pointer (some ⟨z2, 0, none⟩), .pointer (some ⟨gb, 0, none⟩), .pointer (some ⟨z4, 0, none⟩), .pointer (some ⟨z1 + 1, 0, none⟩)])) W5 = .ok () (W5.setCell ⟨z4, 0, none⟩ (.func (.func 33) #[] #[.pointer (some ⟨z3, 0, none⟩), .pointer (some ⟨bn, 0, none⟩), .pointer (some ⟨bw, 0, none⟩), .pointer (some ⟨z, 0, none⟩), .pointer (some ⟨z2, 0, none⟩), .pointer (some ⟨gb, 0, none⟩), .pointer (some ⟨z4, 0, none⟩), .pointer (some ⟨z1 + 1, 0, none⟩)])) := by rw [run_store _ _ _ _ _ rfl, c1, f1]; rfl
    go_upto_region 9 with (fail)
    clear c1 f1 p4 hst
    have hdiff : ∀ (k : Nat) o, W5.heap[k]? = some o → k ≠ z4 → (W5.setCell ⟨z4, 0, none⟩ (.func (.func 33) #[] #[.pointer (some ⟨z3, 0, none⟩), .pointer (some ⟨bn, 0, none⟩), .pointer (some ⟨bw, 0, none⟩), .pointer (some ⟨z, 0, none⟩), .pointer (some ⟨z2, 0, none⟩), .pointer (some ⟨gb, 0, none⟩), .pointer (some ⟨z4, 0, none⟩), .pointer (some ⟨z1 + 1, 0, none⟩)])).heap[k]? = some o := fun k o h hk => (Below.heap_setCell W5 ⟨z4, 0, none⟩ _ k hk).trans h
    have hz := HZ.out
    have holdz : ∀ (k : Nat) o, W.heap[k]? = some o → k < z := fun k o h => by have := HOLD.out k o h; omega
    have hRep : Rep w1 ⟨N, z3, bn, rn, bw, rw, z, z2, zr, gb, z4, z1 + 1, z1, ag, cg, z + 5⟩ (W5.setCell ⟨z4, 0, none⟩ (.func (.func 33) #[] #[.pointer (some ⟨z3, 0, none⟩), .pointer (some ⟨bn, 0, none⟩), .pointer (some ⟨bw, 0, none⟩), .pointer (some ⟨z, 0, none⟩), .pointer (some ⟨z2, 0, none⟩), .pointer (some ⟨gb, 0, none⟩), .pointer (some ⟨z4, 0, none⟩), .pointer (some ⟨z1 + 1, 0, none⟩)])) (initS N) (.slice none 0 0) := by
      obtain ⟨p0, p1, p2, p3, p4, po, pb⟩ := P.out
      have hM := HM.out
      have hlow : w1.heap.size ≤ z := by have := hM.lo.1; have := holdz _ _ hM.numr; omega
      have d1 : z3 ≠ z4 := by omega
      have d2 : bn ≠ z4 := by have := holdz _ _ hM.num; omega
      have d3 : rn ≠ z4 := by have := holdz _ _ hM.numr; omega
      have d4 : bw ≠ z4 := by have := holdz _ _ hM.low; omega
      have d5 : rw ≠ z4 := by have := holdz _ _ hM.lowr; omega
      have d6 : z ≠ z4 := by omega
      have d7 : z2 ≠ z4 := by omega
      have d8 : zr ≠ z4 := by omega
      have d9 : gb ≠ z4 := by have := holdz _ _ hM.g; omega
      have d10 : z1 + 1 ≠ z4 := by have := holdz _ _ hM.out; omega
      have d11 : z1 ≠ z4 := by have := holdz _ _ hM.outr; omega
      have m1 := po _ _ hM.numr
      have m2 := po _ _ hM.lowr
      have m3 := po _ _ hM.outr
      rw [made_nats] at m1 m2 m3
      rw [made_bools] at p1
      refine ⟨⟨hdiff z3 _ p3 d1, hdiff bn _ (po _ _ hM.num) d2, hdiff rn _ m1 d3, hdiff bw _ (po _ _ hM.low) d4, hdiff rw _ m2 d5, hdiff z _ p0 d6, hdiff z2 _ p2 d7, hdiff zr _ p1 d8, hdiff gb _ (po _ _ hM.g) d9, blk_put p4 0 _ rfl, hdiff (z1 + 1) _ (po _ _ hM.out) d10, hdiff z1 _ m3 d11⟩, ?_, ?_, World.ownsRow_nil _ _ _ _, ?_⟩
      · exact (init_inv (fun _ _ => False) N).wf
      · exact below_put pb rfl (by omega) 0 _
      · rw [size_put]; show z + 5 ≤ _; omega
    have hL : LayOk w1 ⟨N, z3, bn, rn, bw, rw, z, z2, zr, gb, z4, z1 + 1, z1, ag, cg, z + 5⟩ := by
      have hM := HM.out
      have a1 := holdz _ _ hM.num
      have a2 := holdz _ _ hM.numr
      have a3 := holdz _ _ hM.low
      have a4 := holdz _ _ hM.lowr
      have a5 := holdz _ _ hM.g
      have a6 := holdz _ _ hM.out
      have a7 := holdz _ _ hM.outr
      have hlo := hM.lo
      have hne := hM.ne
      exact ⟨by show z3 ≠ rn ∧ z3 ≠ rw ∧ z3 ≠ z1 ∧ rn ≠ rw ∧ rn ≠ z1 ∧ rw ≠ z1 ∧ bn ≠ bw ∧ bn ≠ z ∧ bn ≠ z1 + 1 ∧ bw ≠ z ∧ bw ≠ z1 + 1 ∧ z ≠ z1 + 1; omega, by show w1.heap.size ≤ z3 ∧ w1.heap.size ≤ rn ∧ w1.heap.size ≤ rw ∧ w1.heap.size ≤ z1 ∧ w1.heap.size ≤ zr ∧ w1.heap.size ≤ z; omega, by show z3 < z + 5 ∧ bn < z + 5 ∧ rn < z + 5 ∧ bw < z + 5 ∧ rw < z + 5 ∧ z < z + 5 ∧ z2 < z + 5 ∧ zr < z + 5 ∧ gb < z + 5 ∧ z4 < z + 5 ∧ z1 + 1 < z + 5 ∧ z1 < z + 5; omega⟩
    have HR := Aside0.mk hRep
    have HL := Aside0.mk hL
    clear hRep hL holdz hdiff hz P HZ HOLD
    generalize W5.setCell ⟨z4, 0, none⟩ (.func (.func 33) #[] #[.pointer (some ⟨z3, 0, none⟩), .pointer (some ⟨bn, 0, none⟩), .pointer (some ⟨bw, 0, none⟩), .pointer (some ⟨z, 0, none⟩), .pointer (some ⟨z2, 0, none⟩), .pointer (some ⟨gb, 0, none⟩), .pointer (some ⟨z4, 0, none⟩), .pointer (some ⟨z1 + 1, 0, none⟩)]) = W6 at HR ⊢
    have c1 := cell1 HR.out.b.g
    go_upto_block 0 with (fail)
    clear c1
    go_wp2_with fail
    have HVC : Aside0 (∀ (v : Nat) (s s' : TS) (vs : Value) (W : World), Rep w1 ⟨N, z3, bn, rn, bw, rw, z, z2, zr, gb, z4, z1 + 1, z1, ag, cg, z + 5⟩ W s vs → v < N → vis G (N + 1) v s = some s' → Calls Try.prog 33 #[.int .i64 (v : Int), .pointer (some ⟨z3, 0, none⟩), .pointer (some ⟨bn, 0, none⟩), .pointer (some ⟨bw, 0, none⟩), .pointer (some ⟨z, 0, none⟩), .pointer (some ⟨z2, 0, none⟩), .pointer (some ⟨gb, 0, none⟩), .pointer (some ⟨z4, 0, none⟩), .pointer (some ⟨z1 + 1, 0, none⟩)] W fun e W' => e = .returned (.tuple #[]) ∧ ∃ vs', Rep w1 ⟨N, z3, bn, rn, bw, rw, z, z2, zr, gb, z4, z1 + 1, z1, ag, cg, z + 5⟩ W' s' vs') :=
      Aside0.mk (fun v s s' vs W hR hv he => vis_c w1 ⟨N, z3, bn, rn, bw, rw, z, z2, zr, gb, z4, z1 + 1, z1, ag, cg, z + 5⟩ HL.out G HN.out (fun v w hw => by show w < N; rw [HN.out]; exact HGE.out v w hw) HGL.out HCG.out (N + 1) v s s' vs W hR hv he)
    have hse := HSE.out
    unfold groupsT at hse
    rw [← HN.out] at hse
    have HFE := Aside0.mk hse
    clear hse
    go_loopw [32] (fun iv wx => ∃ (i : Nat) (si : TS) (vi : Value), i ≤ N ∧ iv = .int .i64 (i : Int) ∧ Hid (((List.range N).drop i).foldlM (stepA G (N + 1)) si = some sE) ∧ Hid (Rep w1 ⟨N, z3, bn, rn, bw, rw, z, z2, zr, gb, z4, z1 + 1, z1, ag, cg, z + 5⟩ wx si vi)) (fun iv _ => N - (intOf iv).toNat)
    case atStart => exact ⟨0, initS N, .slice none 0 0, Nat.zero_le _, rfl, HFE.out, HR.out⟩
    case round =>
      obtain ⟨i, si, vi, hi, rfl, hf, hr⟩ := hrel
      have HF := Aside0.mk (show ((List.range N).drop i).foldlM (stepA G (N + 1)) si = some sE from hf)
      replace HR : Aside0 (Rep w1 ⟨N, z3, bn, rn, bw, rw, z, z2, zr, gb, z4, z1 + 1, z1, ag, cg, z + 5⟩ wr si vi) := Aside0.mk hr
      clear hf hr
      by_cases hlt : (i : Int) < (N : Int)
      · have hi1 : i < N := by omega
        have hf := HF.out
        rw [List.drop_eq_getElem_cons (by rw [List.length_range]; exact hi1), List.getElem_range, List.foldlM_cons] at hf
        obtain ⟨s2, h1, h2⟩ := Option.bind_eq_some_iff.1 hf
        replace HF := Aside0.mk h2
        have hwi : IntKind.i64.wrap ((i : Int) + 1) = (i : Int) + 1 := by have := HN.out; have := HN2.out; rw [IntKind.wrap_i64]; omega
        have HWI := Aside0.mk hwi
        clear hf h2 hwi
        have hi0 : (0 : Int) ≤ (i : Int) := Int.natCast_nonneg i
        have c1 := cell1 HR.out.b.num
        have c2 := HR.out.num_at (i := i) hi1
        dsimp only at c1 c2
        unfold stepA at h1
        by_cases hN0 : si.N i = 0
        · rw [if_pos hN0] at h1
          rw [hN0] at c2
          have HV1 := Aside0.mk h1
          clear h1
          have c7 : wr.cell? ⟨z4, 0, none⟩ = some (.func (.func 33) #[] #[.pointer (some ⟨z3, 0, none⟩), .pointer (some ⟨bn, 0, none⟩), .pointer (some ⟨bw, 0, none⟩), .pointer (some ⟨z, 0, none⟩), .pointer (some ⟨z2, 0, none⟩), .pointer (some ⟨gb, 0, none⟩), .pointer (some ⟨z4, 0, none⟩), .pointer (some ⟨z1 + 1, 0, none⟩)]) := cell1 HR.out.b.v
          have hwi := HWI.out
          go_wp2_with (go_at_call 33; with_reducible refine (HVC.out i si s2 vi _ HR.out hi1 HV1.out).mono ?_; rintro e W7 ⟨rfl, vs7, hR7⟩; replace HR := Aside0.mk hR7; clear hR7)
          go_roundw
          case rel => exact ⟨i + 1, s2, vs7, by omega, by go_num, HF.out, HR.out⟩
          case measure => simp [intOf]; omega
        · rw [if_neg hN0] at h1
          injection h1 with h1
          subst h1
          have hN1 : (((si.N i : Nat) : Int) == 0) = false := beq_eq_false_iff_ne.mpr (by omega)
          have hN2 : ((si.N i) == 0) = false := beq_eq_false_iff_ne.mpr hN0
          have hwi := HWI.out
          go_wp2_with fail
          go_roundw
          case rel => exact ⟨i + 1, si, vi, by omega, by go_num, HF.out, HR.out⟩
          case measure => simp [intOf]; omega
      · have hs1 : si = sE := by
          have hf := HF.out
          rw [List.drop_eq_nil_of_le (by rw [List.length_range]; omega)] at hf
          injection hf
        subst hs1
        have c1 := cell1 HR.out.b.out
        dsimp only at c1
        go_wp2_with fail
        go_ret
        have hl : si.out.length = N := HR.out.wf.out
        have hC := C_row si.out HR.out.b.outr (by rw [hl]; have := HN.out; have := HN2.out; omega)
        rw [hl] at hC
        exact ⟨_, _, rfl, Nat.le_refl _, hC, below_step HB1.out HR.out.below⟩
  clear hK
  have hlt1 : gb < W2.heap.size + 1 := by omega
  have hlt2 : gb < W2.heap.size + 2 := by omega
  have hlt3 : gb < W2.heap.size + 3 := by omega
  have hlt4 : gb < W2.heap.size + 1 + 1 := by omega
  have hlt5 : gb < W2.heap.size + 1 + 1 + 1 := by omega
  have hn1 : ¬ gb = W2.heap.size := by omega
  have hn2 : ¬ gb = W2.heap.size + 1 := by omega
  have hn3 : ¬ gb = W2.heap.size + 2 := by omega
  have hn4 : ¬ gb = W2.heap.size + 3 := by omega
  go_region
  all_goals
    clear hlt1 hlt2 hlt3 hlt4 hlt5 hn1 hn2 hn3 hn4 c1 hmk hmk4
    have h4 := heap4 W2
    refine rest _ _ _ _ _ ?_
    have hz := HSZ.out
    have hw := HW1.out
    obtain ⟨p0, p1, p2, p3, po⟩ := heap4 W2 _ _ _ _
    refine ⟨po _ _ HX.out, po _ _ HRU.out, po _ _ HBU.out, ?_, ?_, ?_, ?_, by omega, by omega, below4 HB.out _ _ _ _⟩
    all_goals (first | exact p0 | exact p1 | exact p2 | exact p3)
end Go.Proofs.Ytjbgealnnlmchaa.G
