/- The law CallsMore of calls is true: its walk. No condition. -/
import Derived.Test.YtjbgealnnlmchaaRf
import Derived.Deep.RegionLaw
import Derived.Deep.RegionHeld3
set_option linter.unusedVariables false
set_option linter.unusedSimpArgs false
namespace Go.Proofs.Ytjbgealnnlmchaa.G
open Go.RowKit Go.Proofs.Ytjbgealnnlmchaa.B Go.Proofs.YtjbgealnnlmchaaW.PrintWords Go.Proofs.YtjbgealnnlmchaaW.PrintLast Go.Proofs.YtjbgealnnlmchaaW.PrintMore

theorem mem_ints' {s : List Nat} {x : Nat} : (x : Int) ∈ ints s ↔ x ∈ s := by
  unfold ints
  rw [List.mem_map]
  constructor
  · rintro ⟨y, h1, h2⟩
    have : y = x := by omega
    rw [← this]; exact h1
  · exact fun h => ⟨x, h, rfl⟩
theorem sol_cells {W W' : World} {g : Nat} {A : Option Addr} {n c : Nat} (h : W.heap[g]? = some (.cells #[.slice none 0 0, .slice none 0 0, .slice A n c, .int .i64 0] 28 (0, 0))) (hb : Below W.heap.size W W') :
    W'.cell? ⟨g, 0, none⟩ = some (.slice none 0 0) ∧ W'.cell? ⟨g, 1, none⟩ = some (.slice none 0 0) ∧ W'.cell? ⟨g, 2, none⟩ = some (.slice A n c) ∧ W'.cell? ⟨g, 3, none⟩ = some (.int .i64 0) :=
  ⟨(blk_cell (blk_below h hb) 0).trans rfl, (blk_cell (blk_below h hb) 1).trans rfl, (blk_cell (blk_below h hb) 2).trans rfl, (blk_cell (blk_below h hb) 3).trans rfl⟩
theorem R_empty41 {W : World} {base g : Nat} (h : W.heap[g]? = some (.cells #[] 41 (0, 0))) (hb : base ≤ g) : Kd.R k41 41 W base (fun _ => True) (.slice (some ⟨g, 0, none⟩) 0 0) [] :=
  ⟨fun _ _ => trivial, [], ⟨rfl, .inr ⟨g, 0, #[], rfl, hb, h, Nat.le_refl _, by unfold maxLen; omega, by simp, rfl⟩⟩, ⟨rfl, fun j p hj => by simp at hj⟩⟩
theorem C_blk41 {W : World} {g : Nat} {e : S41} (h : W.heap[g]? = some (.cells #[.int .i64 e.f0, .int .i64 e.f1, .int .i64 e.f2] 41 (0, 0))) : Kd.C k41 W (some ⟨g, 0, none⟩) 1 [e] := by
  refine ⟨rfl, by omega, fun _ => ⟨_, rfl, fun j p hj => ⟨_, rfl, k41_mk _ p, fun i u hu => ?_⟩⟩⟩
  show W.cell? ((⟨g, 0, none⟩ : Addr).add (j * 3 + i)) = _
  rw [add_plain, blk_cell h]
  match j, hj with
  | 0, hj =>
    obtain rfl : e = p := by simpa using hj
    rw [Nat.zero_mul, Nat.zero_add, ← hu]
    match i with
    | 0 => rfl
    | 1 => rfl
    | 2 => rfl
    | i + 3 => rfl
/-- append(v, l...) of edges, as one step of a region that draws. -/
theorem step_edges {ops : Array Oper} {o : Oper} {a : Act} {Q : Exit → Act → World → Prop} {Kc : Act → World → Prop} {W : World} (base : Nat) (hw : Region.wanted o (yielded ops a.tmps) = true) (s x : Operand)
    (ho : o.op = .call { callee := .builtin .append, args := #[s, x], argTypes := #[22, 22] })
    (v : Value) (xs ys : List S41) (A : Option Addr) (m c : Nat) (hs : a.eval s = v) (hx : a.eval x = .slice A m c) (HO : Kd.R k41 41 W base (fun _ => True) v xs) (HC : Kd.C k41 W A m ys) (hbase : base ≤ W.heap.size) (hl : xs.length + m ≤ 1000000)
    (h : ∀ v1 w1, Kd.R k41 41 w1 base (fun _ => True) v1 (xs ++ ys) → Below base W w1 → (∀ (g : Nat) (o : Obj), some g ≠ v.ownBlock → W.heap[g]? = some o → w1.heap[g]? = some o) → Kc (a.put o.dst v1) w1) :
    if Region.wanted o (yielded ops a.tmps) = true then Oper.wp Try.prog o a W Kc Q else Kc (a.put o.dst undef) W :=
  Kd.R_append_rows_step k41 (w0 := W) base hw s x 22 41 (.agg #[.int .i64 0, .int .i64 0, .int .i64 0]) 24 ho Try.underlying22 info41 rfl (by show 0 < 3; decide) (by decide) v xs ys A m c (fun _ => True) (fun _ => False) hs hx HO HC (fun x cs hK => by rw [k41_open hK]; exact k41_mkM _ _ _ _) (fun _ h => h.elim) (fun _ _ => trivial) (Below.refl _ _) hbase (by omega) (fun v1 w1 h1 h2 h3 _ => h v1 w1 h1 h2 (fun g o hne hz => (h3.block g (blk_lt hz) hne).trans hz))

abbrev ops7 : Array Oper := #[
  { dst := (some 39), op := (Op.buildSlice 22 0 #[]), type := 22, pos := "law.go:111", after := #[], guard := none },
  { dst := (some 40), op := (Op.move (Operand.tmp 11)), type := 22, pos := "law.go:111", after := #[], guard := none },
  { dst := (some 41), op := (Op.call { callee := (Callee.builtin Builtin.append), args := #[(Operand.tmp 39), (Operand.tmp 40)], argTypes := #[22, 22] }), type := 22, pos := "law.go:111", after := #[{ on := 0, ground := Ground.data }, { on := 1, ground := Ground.data }], guard := none },
  { dst := (some 42), op := (Op.load 41 (Operand.tmp 6)), type := 41, pos := "law.go:111", after := #[], guard := none },
  { dst := (some 43), op := (Op.buildSlice 22 1 #[(0, (Operand.tmp 42))]), type := 22, pos := "law.go:111", after := #[{ on := 3, ground := Ground.data }], guard := none },
  { dst := (some 44), op := (Op.call { callee := (Callee.builtin Builtin.append), args := #[(Operand.tmp 41), (Operand.tmp 43)], argTypes := #[22, 22] }), type := 22, pos := "law.go:111", after := #[{ on := 2, ground := Ground.data }, { on := 4, ground := Ground.data }, { on := 2, ground := Ground.chain }], guard := none },
  { dst := (some 45), op := (Op.build 28 #[(2, (Operand.tmp 44))]), type := 28, pos := "law.go:111", after := #[{ on := 5, ground := Ground.data }], guard := none },
  { dst := (some 14), op := (Op.alloc 28), type := 0, pos := "law.go:111", after := #[], guard := none },
  { dst := none, op := (Op.store 28 (Operand.tmp 14) (Operand.tmp 45)), type := 0, pos := "law.go:111", after := #[{ on := 7, ground := Ground.data }, { on := 6, ground := Ground.data }, { on := 5, ground := Ground.chain }, { on := 0, ground := Ground.phase }, { on := 1, ground := Ground.phase }, { on := 2, ground := Ground.phase }, { on := 3, ground := Ground.phase }, { on := 4, ground := Ground.phase }, { on := 5, ground := Ground.phase }, { on := 6, ground := Ground.phase }, { on := 7, ground := Ground.phase }], guard := none }]
section
variable (n f cu CC : Int) (k : Nat) (e : S41) (A A0 A1 : Option Addr) (ll c lc c0 c1 l0 l1 gm gp gs : Nat) (x14 x39 x40 x41 x42 x43 x44 x45 : Value)
abbrev T7 : Act := { tmps := #[.int .u8 n, .slice A ll c, .agg #[.int .i64 e.f0, .int .i64 e.f1, .int .i64 e.f2], .int .u8 f, undef, undef, .pointer (some ⟨gm, 0, none⟩), undef, .bool false, .bool true, .int .i64 (k : Int), .slice A lc c, .pointer (some ⟨gp, 0, none⟩), .pointer (some ⟨gs, 0, none⟩), x14, undef, undef, undef, undef, undef, undef, .bool true, .tuple #[.int .i64 (k : Int), .slice A lc c], .int .u8 n, .slice A ll c, .tuple #[.int .i64 (k : Int), .slice A lc c], .int .i64 (k : Int), .slice A lc c, .int .i64 (k : Int), .bool false, undef, .int .i64 (k : Int), .int .u8 f, .int .i64 cu, .int .i64 (k : Int), .int .i64 CC, .agg #[.slice A0 l0 c0, .slice A1 l1 c1, .int .i64 CC], .slice A lc c, .agg #[.slice none 0 0, .slice none 0 0, .slice A lc c, .int .i64 0], x39, x40, x41, x42, x43, x44, x45, undef, undef, undef, undef, undef, undef, undef, undef, undef, undef, undef, undef, undef, undef, undef, undef, undef, undef, undef, undef, undef, undef, undef, undef, undef, undef, undef, undef, undef, undef, undef, undef, undef, undef, undef, undef, undef, undef, undef, undef, undef, undef, undef, undef, undef, undef, undef, undef, undef, undef], defers := [] }
end
abbrev Z28 : Array Value := #[.slice none 0 0, .slice none 0 0, .slice none 0 0, .int .i64 0]
abbrev E41 (e : S41) : Array Value := #[.int .i64 e.f0, .int .i64 e.f1, .int .i64 e.f2]
section
variable {n f cu CC : Int} {k : Nat} {e : S41} {A A0 A1 : Option Addr} {ll c c0 c1 l0 l1 gm gp gs : Nat} {l2 l3 : List S41} {W4 : World} {Q : Exit → Act → World → Prop}

variable (HE : Edg W4 A l2 c) (HX : W4.heap[gm]? = some (.cells (E41 e) 41 (0, 0))) (hl2 : l2.length ≤ 150) (hl3 : l2 ++ [e] = l3)
  (hP : ∀ (c : List PanicEntry) (a : Act) (d : Nat) (v : Value) (w : World), Q (.panic c) (Act.put a (some d) v) w → Q (.panic c) a w) (hQ : ∀ (W : World) (x39 x41 x43 x44 x45 : Value) (g14 : Nat) (Am : Option Addr) (cm : Nat), W.heap[g14]? = some (.cells #[.slice none 0 0, .slice none 0 0, .slice Am l3.length cm, .int .i64 0] 28 (0, 0)) → Edg W Am l3 cm → Below W4.heap.size W4 W → Q .normal (T7 n f cu CC k e A A0 A1 ll c l2.length c0 c1 l0 l1 gm gp gs (.pointer (some ⟨g14, 0, none⟩)) x39 (.slice A l2.length c) x41 (.agg (E41 e)) x43 x44 x45) W)

include HE HX hl2 hl3 hP hQ
set_option maxHeartbeats 2000000 in
theorem s7_last (W : World) (hb : Below W4.heap.size W4 W) (g7 : Nat) (x39 x41 x43 x44 : Value) (hg7 : W4.heap.size ≤ g7) (h7 : W.heap[g7]? = some (.cells Z28 28 (0, 0))) (HR : Kd.R k41 41 W W4.heap.size (fun _ => True) x44 (l2 ++ [e])) :
    wpAnyH Try.prog .any ops7 Q (fun w => Below W4.heap.size W4 w) 1 #[true, true, true, true, true, true, true, true, false] (T7 n f cu CC k e A A0 A1 ll c l2.length c0 c1 l0 l1 gm gp gs (.pointer (some ⟨g7, 0, none⟩)) x39 (.slice A l2.length c) x41 (.agg (E41 e)) x43 x44 (.agg #[.slice none 0 0, .slice none 0 0, x44, .int .i64 0])) W := by
  have hu1 := HE
  have hu2 := HX
  clear hu1 hu2
  obtain ⟨Am, cm, rfl⟩ := Kd.R_slice HR
  obtain ⟨z0, z1, z2, z3⟩ := cell4 h7
  have y0 := blk_frozen h7 0
  have y1 := blk_frozen h7 1
  have y2 := blk_frozen h7 2
  have y3 := blk_frozen h7 3
  have HZ := Aside0.mk (blk_put4 h7 (.slice none 0 0) (.slice none 0 0) (.slice Am (l2 ++ [e]).length cm) (.int .i64 0))
  have ne : ∀ q, q ∈ 41 :: k41.E → q ≠ 28 := by decide
  have HR1 := Kd.R_set HR h7 ne 0 (.slice none 0 0)
  have b1 := blk_put h7 0 (.slice none 0 0) rfl
  have HR2 := Kd.R_set HR1 b1 ne 1 (.slice none 0 0)
  have b2 := blk_put b1 1 (.slice none 0 0) rfl
  have HR3 := Kd.R_set HR2 b2 ne 2 (.slice Am (l2 ++ [e]).length cm)
  have b3 := blk_put b2 2 (.slice Am (l2 ++ [e]).length cm) rfl
  have HR4 := Aside0.mk (Kd.R_set HR3 b3 ne 3 (.int .i64 0))
  have HB := Aside0.mk ((((hb.setCell (p := ⟨g7, 0, none⟩) hg7 (.slice none 0 0)).setCell (p := ⟨g7, 1, none⟩) hg7 (.slice none 0 0)).setCell (p := ⟨g7, 2, none⟩) hg7 (.slice Am (l2 ++ [e]).length cm)).setCell (p := ⟨g7, 3, none⟩) hg7 (.int .i64 0))
  have HLE := Aside0.mk hl3
  have HQ := Aside0.mk hQ
  have HP := Aside0.mk hP
  have HL2 := Aside0.mk hl2
  clear HR HR1 HR2 HR3 b1 b2 b3 h7 ne hl3 hP hQ hl2 hb hg7 HE HX
  generalize hll : (l2 ++ [e]).length = ln at HZ HB HR4 ⊢
  have HLL := Aside0.mk hll
  clear hll
  unfold T7
  refine wpAnyH_ready (rs := [8]) (by kernel_rfl) (by simp) ?_
  refine AllReadyH.cons (o := { dst := none, op := (Op.store 28 (Operand.tmp 14) (Operand.tmp 45)), type := 0, pos := "law.go:111", after := #[{ on := 7, ground := Ground.data }, { on := 6, ground := Ground.data }, { on := 5, ground := Ground.chain }, { on := 0, ground := Ground.phase }, { on := 1, ground := Ground.phase }, { on := 2, ground := Ground.phase }, { on := 3, ground := Ground.phase }, { on := 4, ground := Ground.phase }, { on := 5, ground := Ground.phase }, { on := 6, ground := Ground.phase }, { on := 7, ground := Ground.phase }], guard := none }) rfl (fun K hK => ?_) AllReadyH.nil
  go_simp
  refine hK.out _ _ HB.out (fun hHeld => ?_)
  refine wpAnyH_done (by kernel_rfl) ?_ _
  obtain ⟨_, hcm, hCm⟩ := Kd.R_reads' HR4.out
  have he := HLE.out
  subst he
  have hl := HLL.out
  subst hl
  exact HQ.out _ x39 x41 x43 _ _ g7 Am cm HZ.out ⟨hCm, hcm, by rw [List.length_append, List.length_singleton]; have := HL2.out; omega⟩ HB.out

set_option maxHeartbeats 2000000 in
theorem s7_e_1 (W : World) (hb : Below W4.heap.size W4 W) (g7 : Nat) (x39 x41 x43 x44 : Value) (hg7 : W4.heap.size ≤ g7) (h7 : W.heap[g7]? = some (.cells Z28 28 (0, 0))) (HR : Kd.R k41 41 W W4.heap.size (fun _ => True) x44 (l2 ++ [e])) :
    wpAnyH Try.prog .any ops7 Q (fun w => Below W4.heap.size W4 w) 2 #[true, true, true, true, true, true, false, true, false] (T7 n f cu CC k e A A0 A1 ll c l2.length c0 c1 l0 l1 gm gp gs (.pointer (some ⟨g7, 0, none⟩)) x39 (.slice A l2.length c) x41 (.agg (E41 e)) x43 x44 undef) W := by
  have HX2 := Aside0.mk HX
  have HE2 := Aside0.mk HE
  have HL2 := Aside0.mk hl2
  have HL3 := Aside0.mk hl3
  have HQ := Aside0.mk hQ
  have HP := Aside0.mk hP
  obtain ⟨Am, cm, rfl⟩ := Kd.R_slice HR
  have HR2 := Aside0.mk HR
  generalize hll : (l2 ++ [e]).length = ln at HR2 ⊢
  have HLN := Aside0.mk hll
  clear hll
  have HB := Aside0.mk hb
  have H7 := Aside0.mk h7
  have HG7 := Aside0.mk hg7
  clear HX HE hl2 hl3 hP hQ HR hb h7 hg7
  unfold T7
  refine wpAnyH_take (i := 6) (oi := { dst := (some 45), op := (Op.build 28 #[(2, (Operand.tmp 44))]), type := 28, pos := "law.go:111", after := #[{ on := 5, ground := Ground.data }], guard := none }) (v := (.agg #[.slice none 0 0, .slice none 0 0, .slice Am ln cm, .int .i64 0])) rfl (by kernel_rfl) (by kernel_rfl) (by kernel_rfl) (fun c a w h => HP.out c a _ _ w h) (Or.inl ⟨by rfl, ?_⟩) HB.out ?_
  · intro w hSw
    clear hSw
    go_simp
  try simp only [Act.put, List.setIfInBounds_toArray, List.set_cons_zero, List.set_cons_succ]
  exact s7_last HE2.out HX2.out HL2.out HL3.out HP.out HQ.out W HB.out g7 x39 x41 x43 _ HG7.out H7.out HR2.out
set_option maxHeartbeats 2000000 in
theorem s7_e_0 (W : World) (hb : Below W4.heap.size W4 W) (x39 x41 x43 x44 : Value)  (HR : Kd.R k41 41 W W4.heap.size (fun _ => True) x44 (l2 ++ [e])) :
    wpAnyH Try.prog .any ops7 Q (fun w => Below W4.heap.size W4 w) 3 #[true, true, true, true, true, true, false, false, false] (T7 n f cu CC k e A A0 A1 ll c l2.length c0 c1 l0 l1 gm gp gs undef x39 (.slice A l2.length c) x41 (.agg (E41 e)) x43 x44 undef) W := by
  have HX2 := Aside0.mk HX
  have HE2 := Aside0.mk HE
  have HL2 := Aside0.mk hl2
  have HL3 := Aside0.mk hl3
  have HQ := Aside0.mk hQ
  have HP := Aside0.mk hP
  obtain ⟨Am, cm, rfl⟩ := Kd.R_slice HR
  have HR2 := Aside0.mk HR
  generalize hll : (l2 ++ [e]).length = ln at HR2 ⊢
  have HLN := Aside0.mk hll
  clear hll
  have HB := Aside0.mk hb
  
  
  clear HX HE hl2 hl3 hP hQ HR hb 
  unfold T7
  refine wpAnyH_take (i := 6) (oi := { dst := (some 45), op := (Op.build 28 #[(2, (Operand.tmp 44))]), type := 28, pos := "law.go:111", after := #[{ on := 5, ground := Ground.data }], guard := none }) (v := (.agg #[.slice none 0 0, .slice none 0 0, .slice Am ln cm, .int .i64 0])) rfl (by kernel_rfl) (by kernel_rfl) (by kernel_rfl) (fun c a w h => HP.out c a _ _ w h) (Or.inl ⟨by rfl, ?_⟩) HB.out ?_
  · intro w hSw
    clear hSw
    go_simp
  try simp only [Act.put, List.setIfInBounds_toArray, List.set_cons_zero, List.set_cons_succ]
  refine wpAnyH_ready (rs := [7]) (by kernel_rfl) (by simp) ?_
  refine AllReadyH.cons (o := { dst := (some 14), op := (Op.alloc 28), type := 0, pos := "law.go:111", after := #[], guard := none }) rfl (fun K hK => ?_) AllReadyH.nil
  go_simp
  refine hK.out _ _ (HB.out.alloc HB.out.size _) (fun hHeld => ?_)
  exact s7_last HE2.out HX2.out HL2.out HL3.out HP.out HQ.out _ hHeld W.heap.size x39 x41 x43 _ HB.out.size (blk_new W _) (Kd.R_alloc HR2.out _)
set_option maxHeartbeats 2000000 in
theorem s7_2_1_1 (W : World) (hb : Below W4.heap.size W4 W) (g4 g7 : Nat) (x39 x41 : Value) (HR : Kd.R k41 41 W W4.heap.size (fun _ => True) x41 l2) (h4 : W.heap[g4]? = some (.cells (E41 e) 41 (0, 0))) (hg7 : W4.heap.size ≤ g7) (h7 : W.heap[g7]? = some (.cells Z28 28 (0, 0))) :
    wpAnyH Try.prog .any ops7 Q (fun w => Below W4.heap.size W4 w) 3 #[true, true, true, true, true, false, false, true, false] (T7 n f cu CC k e A A0 A1 ll c l2.length c0 c1 l0 l1 gm gp gs (.pointer (some ⟨g7, 0, none⟩)) x39 (.slice A l2.length c) x41 (.agg (E41 e)) (.slice (some ⟨g4, 0, none⟩) 1 1) undef undef) W := by
  have HALL := Aside0.mk (And.intro HE (And.intro HX (And.intro hl2 (And.intro hl3 (And.intro hP hQ)))))
  have HB := Aside0.mk hb
  have HRA := Aside0.mk HR
  have h4A := Aside0.mk h4
  have hg7A := Aside0.mk hg7
  have h7A := Aside0.mk h7
  clear HE HX hl2 hl3 hP hQ hb HR h4 hg7 h7
  unfold T7
  refine wpAnyH_ready (rs := [5]) (by kernel_rfl) (by simp) ?_
  refine AllReadyH.cons (o := { dst := (some 44), op := (Op.call { callee := (Callee.builtin Builtin.append), args := #[(Operand.tmp 41), (Operand.tmp 43)], argTypes := #[22, 22] }), type := 22, pos := "law.go:111", after := #[{ on := 2, ground := Ground.data }, { on := 4, ground := Ground.data }, { on := 2, ground := Ground.chain }], guard := none }) rfl (fun K hK => ?_) ?_
  · obtain ⟨HE, HX, hl2, hl3, hP, hQ⟩ := HALL.out; have hb := HB.out; have HR := HRA.out; have h4 := h4A.out; have hg7 := hg7A.out; have h7 := h7A.out; refine step_edges W4.heap.size rfl (.tmp 41) (.tmp 43) rfl _ l2 [e] _ 1 1 rfl rfl HR (C_blk41 h4) hb.size (by omega) ?_; intro v1 w1 h1 h2 h3; refine hK.out _ _ (hb.trans h2) (fun hHeld => ?_); exact s7_e_1 HE HX hl2 hl3 hP hQ _ hHeld g7 _ _ _ v1 hg7 (h3 _ _ (Kd.R_ne HR h7 (by decide)) h7) h1
  exact AllReadyH.nil
set_option maxHeartbeats 2000000 in
theorem s7_2_1_0 (W : World) (hb : Below W4.heap.size W4 W) (g4 : Nat) (x39 x41 : Value) (HR : Kd.R k41 41 W W4.heap.size (fun _ => True) x41 l2) (h4 : W.heap[g4]? = some (.cells (E41 e) 41 (0, 0))) :
    wpAnyH Try.prog .any ops7 Q (fun w => Below W4.heap.size W4 w) 4 #[true, true, true, true, true, false, false, false, false] (T7 n f cu CC k e A A0 A1 ll c l2.length c0 c1 l0 l1 gm gp gs undef x39 (.slice A l2.length c) x41 (.agg (E41 e)) (.slice (some ⟨g4, 0, none⟩) 1 1) undef undef) W := by
  have HALL := Aside0.mk (And.intro HE (And.intro HX (And.intro hl2 (And.intro hl3 (And.intro hP hQ)))))
  have HB := Aside0.mk hb
  have HRA := Aside0.mk HR
  have h4A := Aside0.mk h4
  clear HE HX hl2 hl3 hP hQ hb HR h4
  unfold T7
  refine wpAnyH_ready (rs := [5, 7]) (by kernel_rfl) (by simp) ?_
  refine AllReadyH.cons (o := { dst := (some 44), op := (Op.call { callee := (Callee.builtin Builtin.append), args := #[(Operand.tmp 41), (Operand.tmp 43)], argTypes := #[22, 22] }), type := 22, pos := "law.go:111", after := #[{ on := 2, ground := Ground.data }, { on := 4, ground := Ground.data }, { on := 2, ground := Ground.chain }], guard := none }) rfl (fun K hK => ?_) ?_
  · obtain ⟨HE, HX, hl2, hl3, hP, hQ⟩ := HALL.out; have hb := HB.out; have HR := HRA.out; have h4 := h4A.out; refine step_edges W4.heap.size rfl (.tmp 41) (.tmp 43) rfl _ l2 [e] _ 1 1 rfl rfl HR (C_blk41 h4) hb.size (by omega) ?_; intro v1 w1 h1 h2 h3; refine hK.out _ _ (hb.trans h2) (fun hHeld => ?_); exact s7_e_0 HE HX hl2 hl3 hP hQ _ hHeld  _ _ _ v1 h1
  refine AllReadyH.cons (o := { dst := (some 14), op := (Op.alloc 28), type := 0, pos := "law.go:111", after := #[], guard := none }) rfl (fun K hK => ?_) ?_
  · go_simp; refine hK.out _ _ (HB.out.alloc HB.out.size _) (fun hHeld => ?_); obtain ⟨HE, HX, hl2, hl3, hP, hQ⟩ := HALL.out; have hb := HB.out; have HR := HRA.out; have h4 := h4A.out; exact s7_2_1_1 HE HX hl2 hl3 hP hQ _ hHeld g4 W.heap.size x39 x41 (Kd.R_alloc HR _) (blk_alloc h4 _) hb.size (blk_new W _)
  exact AllReadyH.nil
set_option maxHeartbeats 2000000 in
theorem s7_2_0_1 (W : World) (hb : Below W4.heap.size W4 W) (g7 : Nat) (x39 x41 : Value) (HR : Kd.R k41 41 W W4.heap.size (fun _ => True) x41 l2) (hg7 : W4.heap.size ≤ g7) (h7 : W.heap[g7]? = some (.cells Z28 28 (0, 0))) :
    wpAnyH Try.prog .any ops7 Q (fun w => Below W4.heap.size W4 w) 4 #[true, true, true, true, false, false, false, true, false] (T7 n f cu CC k e A A0 A1 ll c l2.length c0 c1 l0 l1 gm gp gs (.pointer (some ⟨g7, 0, none⟩)) x39 (.slice A l2.length c) x41 (.agg (E41 e)) undef undef undef) W := by
  have HALL := Aside0.mk (And.intro HE (And.intro HX (And.intro hl2 (And.intro hl3 (And.intro hP hQ)))))
  have HB := Aside0.mk hb
  have HRA := Aside0.mk HR
  have hg7A := Aside0.mk hg7
  have h7A := Aside0.mk h7
  clear HE HX hl2 hl3 hP hQ hb HR hg7 h7
  unfold T7
  refine wpAnyH_ready (rs := [4]) (by kernel_rfl) (by simp) ?_
  refine AllReadyH.cons (o := { dst := (some 43), op := (Op.buildSlice 22 1 #[(0, (Operand.tmp 42))]), type := 22, pos := "law.go:111", after := #[{ on := 3, ground := Ground.data }], guard := none }) rfl (fun K hK => ?_) ?_
  · go_simp; refine hK.out _ _ (HB.out.alloc HB.out.size _) (fun hHeld => ?_); obtain ⟨HE, HX, hl2, hl3, hP, hQ⟩ := HALL.out; have hb := HB.out; have HR := HRA.out; have hg7 := hg7A.out; have h7 := h7A.out; exact s7_2_1_1 HE HX hl2 hl3 hP hQ _ hHeld W.heap.size g7 x39 x41 (Kd.R_alloc HR _) (blk_new W _) hg7 (blk_alloc h7 _)
  exact AllReadyH.nil
set_option maxHeartbeats 2000000 in
theorem s7_2_0_0 (W : World) (hb : Below W4.heap.size W4 W) (x39 x41 : Value) (HR : Kd.R k41 41 W W4.heap.size (fun _ => True) x41 l2) :
    wpAnyH Try.prog .any ops7 Q (fun w => Below W4.heap.size W4 w) 5 #[true, true, true, true, false, false, false, false, false] (T7 n f cu CC k e A A0 A1 ll c l2.length c0 c1 l0 l1 gm gp gs undef x39 (.slice A l2.length c) x41 (.agg (E41 e)) undef undef undef) W := by
  have HALL := Aside0.mk (And.intro HE (And.intro HX (And.intro hl2 (And.intro hl3 (And.intro hP hQ)))))
  have HB := Aside0.mk hb
  have HRA := Aside0.mk HR
  clear HE HX hl2 hl3 hP hQ hb HR
  unfold T7
  refine wpAnyH_ready (rs := [4, 7]) (by kernel_rfl) (by simp) ?_
  refine AllReadyH.cons (o := { dst := (some 43), op := (Op.buildSlice 22 1 #[(0, (Operand.tmp 42))]), type := 22, pos := "law.go:111", after := #[{ on := 3, ground := Ground.data }], guard := none }) rfl (fun K hK => ?_) ?_
  · go_simp; refine hK.out _ _ (HB.out.alloc HB.out.size _) (fun hHeld => ?_); obtain ⟨HE, HX, hl2, hl3, hP, hQ⟩ := HALL.out; have hb := HB.out; have HR := HRA.out; exact s7_2_1_0 HE HX hl2 hl3 hP hQ _ hHeld W.heap.size x39 x41 (Kd.R_alloc HR _) (blk_new W _)
  refine AllReadyH.cons (o := { dst := (some 14), op := (Op.alloc 28), type := 0, pos := "law.go:111", after := #[], guard := none }) rfl (fun K hK => ?_) ?_
  · go_simp; refine hK.out _ _ (HB.out.alloc HB.out.size _) (fun hHeld => ?_); obtain ⟨HE, HX, hl2, hl3, hP, hQ⟩ := HALL.out; have hb := HB.out; have HR := HRA.out; exact s7_2_0_1 HE HX hl2 hl3 hP hQ _ hHeld W.heap.size x39 x41 (Kd.R_alloc HR _) hb.size (blk_new W _)
  exact AllReadyH.nil
set_option maxHeartbeats 2000000 in
theorem s7_0_1_1 (W : World) (hb : Below W4.heap.size W4 W) (g0 g4 g7 : Nat) (hg0 : W4.heap.size ≤ g0) (h0 : W.heap[g0]? = some (.cells #[] 41 (0, 0))) (h4 : W.heap[g4]? = some (.cells (E41 e) 41 (0, 0))) (hne : g4 ≠ g0) (hg7 : W4.heap.size ≤ g7) (h7 : W.heap[g7]? = some (.cells Z28 28 (0, 0))) :
    wpAnyH Try.prog .any ops7 Q (fun w => Below W4.heap.size W4 w) 4 #[true, true, false, true, true, false, false, true, false] (T7 n f cu CC k e A A0 A1 ll c l2.length c0 c1 l0 l1 gm gp gs (.pointer (some ⟨g7, 0, none⟩)) (.slice (some ⟨g0, 0, none⟩) 0 0) (.slice A l2.length c) undef (.agg (E41 e)) (.slice (some ⟨g4, 0, none⟩) 1 1) undef undef) W := by
  have HALL := Aside0.mk (And.intro HE (And.intro HX (And.intro hl2 (And.intro hl3 (And.intro hP hQ)))))
  have HB := Aside0.mk hb
  have hg0A := Aside0.mk hg0
  have h0A := Aside0.mk h0
  have h4A := Aside0.mk h4
  have hneA := Aside0.mk hne
  have hg7A := Aside0.mk hg7
  have h7A := Aside0.mk h7
  clear HE HX hl2 hl3 hP hQ hb hg0 h0 h4 hne hg7 h7
  unfold T7
  refine wpAnyH_ready (rs := [2]) (by kernel_rfl) (by simp) ?_
  refine AllReadyH.cons (o := { dst := (some 41), op := (Op.call { callee := (Callee.builtin Builtin.append), args := #[(Operand.tmp 39), (Operand.tmp 40)], argTypes := #[22, 22] }), type := 22, pos := "law.go:111", after := #[{ on := 0, ground := Ground.data }, { on := 1, ground := Ground.data }], guard := none }) rfl (fun K hK => ?_) ?_
  · obtain ⟨HE, HX, hl2, hl3, hP, hQ⟩ := HALL.out; have hb := HB.out; have hg0 := hg0A.out; have h0 := h0A.out; have h4 := h4A.out; have hne := hneA.out; have hg7 := hg7A.out; have h7 := h7A.out; refine step_edges W4.heap.size rfl (.tmp 39) (.tmp 40) rfl _ [] l2 A l2.length c rfl rfl (R_empty41 h0 hg0) (Kd.C_below HE.C hb) hb.size (by rw [List.length_nil]; omega) ?_; intro v1 w1 h1 h2 h3; rw [List.nil_append] at h1; refine hK.out _ _ (hb.trans h2) (fun hHeld => ?_); exact s7_2_1_1 HE HX hl2 hl3 hP hQ _ hHeld g4 g7 _ v1 h1 (h3 _ _ (fun h => hne (by injection h)) h4) hg7 (h3 _ _ (Kd.R_ne (R_empty41 h0 hg0) h7 (by decide)) h7)
  exact AllReadyH.nil
set_option maxHeartbeats 2000000 in
theorem s7_0_1_0 (W : World) (hb : Below W4.heap.size W4 W) (g0 g4 : Nat) (hg0 : W4.heap.size ≤ g0) (h0 : W.heap[g0]? = some (.cells #[] 41 (0, 0))) (h4 : W.heap[g4]? = some (.cells (E41 e) 41 (0, 0))) (hne : g4 ≠ g0) :
    wpAnyH Try.prog .any ops7 Q (fun w => Below W4.heap.size W4 w) 5 #[true, true, false, true, true, false, false, false, false] (T7 n f cu CC k e A A0 A1 ll c l2.length c0 c1 l0 l1 gm gp gs undef (.slice (some ⟨g0, 0, none⟩) 0 0) (.slice A l2.length c) undef (.agg (E41 e)) (.slice (some ⟨g4, 0, none⟩) 1 1) undef undef) W := by
  have HALL := Aside0.mk (And.intro HE (And.intro HX (And.intro hl2 (And.intro hl3 (And.intro hP hQ)))))
  have HB := Aside0.mk hb
  have hg0A := Aside0.mk hg0
  have h0A := Aside0.mk h0
  have h4A := Aside0.mk h4
  have hneA := Aside0.mk hne
  clear HE HX hl2 hl3 hP hQ hb hg0 h0 h4 hne
  unfold T7
  refine wpAnyH_ready (rs := [2, 7]) (by kernel_rfl) (by simp) ?_
  refine AllReadyH.cons (o := { dst := (some 41), op := (Op.call { callee := (Callee.builtin Builtin.append), args := #[(Operand.tmp 39), (Operand.tmp 40)], argTypes := #[22, 22] }), type := 22, pos := "law.go:111", after := #[{ on := 0, ground := Ground.data }, { on := 1, ground := Ground.data }], guard := none }) rfl (fun K hK => ?_) ?_
  · obtain ⟨HE, HX, hl2, hl3, hP, hQ⟩ := HALL.out; have hb := HB.out; have hg0 := hg0A.out; have h0 := h0A.out; have h4 := h4A.out; have hne := hneA.out; refine step_edges W4.heap.size rfl (.tmp 39) (.tmp 40) rfl _ [] l2 A l2.length c rfl rfl (R_empty41 h0 hg0) (Kd.C_below HE.C hb) hb.size (by rw [List.length_nil]; omega) ?_; intro v1 w1 h1 h2 h3; rw [List.nil_append] at h1; refine hK.out _ _ (hb.trans h2) (fun hHeld => ?_); exact s7_2_1_0 HE HX hl2 hl3 hP hQ _ hHeld g4 _ v1 h1 (h3 _ _ (fun h => hne (by injection h)) h4)
  refine AllReadyH.cons (o := { dst := (some 14), op := (Op.alloc 28), type := 0, pos := "law.go:111", after := #[], guard := none }) rfl (fun K hK => ?_) ?_
  · go_simp; refine hK.out _ _ (HB.out.alloc HB.out.size _) (fun hHeld => ?_); obtain ⟨HE, HX, hl2, hl3, hP, hQ⟩ := HALL.out; have hb := HB.out; have hg0 := hg0A.out; have h0 := h0A.out; have h4 := h4A.out; have hne := hneA.out; exact s7_0_1_1 HE HX hl2 hl3 hP hQ _ hHeld g0 g4 W.heap.size hg0 (blk_alloc h0 _) (blk_alloc h4 _) hne hb.size (blk_new W _)
  exact AllReadyH.nil
set_option maxHeartbeats 2000000 in
theorem s7_0_0_1 (W : World) (hb : Below W4.heap.size W4 W) (g0 g7 : Nat) (hg0 : W4.heap.size ≤ g0) (h0 : W.heap[g0]? = some (.cells #[] 41 (0, 0))) (hg7 : W4.heap.size ≤ g7) (h7 : W.heap[g7]? = some (.cells Z28 28 (0, 0))) :
    wpAnyH Try.prog .any ops7 Q (fun w => Below W4.heap.size W4 w) 5 #[true, true, false, true, false, false, false, true, false] (T7 n f cu CC k e A A0 A1 ll c l2.length c0 c1 l0 l1 gm gp gs (.pointer (some ⟨g7, 0, none⟩)) (.slice (some ⟨g0, 0, none⟩) 0 0) (.slice A l2.length c) undef (.agg (E41 e)) undef undef undef) W := by
  have HALL := Aside0.mk (And.intro HE (And.intro HX (And.intro hl2 (And.intro hl3 (And.intro hP hQ)))))
  have HB := Aside0.mk hb
  have hg0A := Aside0.mk hg0
  have h0A := Aside0.mk h0
  have hg7A := Aside0.mk hg7
  have h7A := Aside0.mk h7
  clear HE HX hl2 hl3 hP hQ hb hg0 h0 hg7 h7
  unfold T7
  refine wpAnyH_ready (rs := [2, 4]) (by kernel_rfl) (by simp) ?_
  refine AllReadyH.cons (o := { dst := (some 41), op := (Op.call { callee := (Callee.builtin Builtin.append), args := #[(Operand.tmp 39), (Operand.tmp 40)], argTypes := #[22, 22] }), type := 22, pos := "law.go:111", after := #[{ on := 0, ground := Ground.data }, { on := 1, ground := Ground.data }], guard := none }) rfl (fun K hK => ?_) ?_
  · obtain ⟨HE, HX, hl2, hl3, hP, hQ⟩ := HALL.out; have hb := HB.out; have hg0 := hg0A.out; have h0 := h0A.out; have hg7 := hg7A.out; have h7 := h7A.out; refine step_edges W4.heap.size rfl (.tmp 39) (.tmp 40) rfl _ [] l2 A l2.length c rfl rfl (R_empty41 h0 hg0) (Kd.C_below HE.C hb) hb.size (by rw [List.length_nil]; omega) ?_; intro v1 w1 h1 h2 h3; rw [List.nil_append] at h1; refine hK.out _ _ (hb.trans h2) (fun hHeld => ?_); exact s7_2_0_1 HE HX hl2 hl3 hP hQ _ hHeld g7 _ v1 h1 hg7 (h3 _ _ (Kd.R_ne (R_empty41 h0 hg0) h7 (by decide)) h7)
  refine AllReadyH.cons (o := { dst := (some 43), op := (Op.buildSlice 22 1 #[(0, (Operand.tmp 42))]), type := 22, pos := "law.go:111", after := #[{ on := 3, ground := Ground.data }], guard := none }) rfl (fun K hK => ?_) ?_
  · go_simp; refine hK.out _ _ (HB.out.alloc HB.out.size _) (fun hHeld => ?_); obtain ⟨HE, HX, hl2, hl3, hP, hQ⟩ := HALL.out; have hb := HB.out; have hg0 := hg0A.out; have h0 := h0A.out; have hg7 := hg7A.out; have h7 := h7A.out; exact s7_0_1_1 HE HX hl2 hl3 hP hQ _ hHeld g0 W.heap.size g7 hg0 (blk_alloc h0 _) (blk_new W _) (Nat.ne_of_gt (blk_lt h0)) hg7 (blk_alloc h7 _)
  exact AllReadyH.nil
set_option maxHeartbeats 2000000 in
theorem s7_0_0_0 (W : World) (hb : Below W4.heap.size W4 W) (g0 : Nat) (hg0 : W4.heap.size ≤ g0) (h0 : W.heap[g0]? = some (.cells #[] 41 (0, 0))) :
    wpAnyH Try.prog .any ops7 Q (fun w => Below W4.heap.size W4 w) 6 #[true, true, false, true, false, false, false, false, false] (T7 n f cu CC k e A A0 A1 ll c l2.length c0 c1 l0 l1 gm gp gs undef (.slice (some ⟨g0, 0, none⟩) 0 0) (.slice A l2.length c) undef (.agg (E41 e)) undef undef undef) W := by
  have HALL := Aside0.mk (And.intro HE (And.intro HX (And.intro hl2 (And.intro hl3 (And.intro hP hQ)))))
  have HB := Aside0.mk hb
  have hg0A := Aside0.mk hg0
  have h0A := Aside0.mk h0
  clear HE HX hl2 hl3 hP hQ hb hg0 h0
  unfold T7
  refine wpAnyH_ready (rs := [2, 4, 7]) (by kernel_rfl) (by simp) ?_
  refine AllReadyH.cons (o := { dst := (some 41), op := (Op.call { callee := (Callee.builtin Builtin.append), args := #[(Operand.tmp 39), (Operand.tmp 40)], argTypes := #[22, 22] }), type := 22, pos := "law.go:111", after := #[{ on := 0, ground := Ground.data }, { on := 1, ground := Ground.data }], guard := none }) rfl (fun K hK => ?_) ?_
  · obtain ⟨HE, HX, hl2, hl3, hP, hQ⟩ := HALL.out; have hb := HB.out; have hg0 := hg0A.out; have h0 := h0A.out; refine step_edges W4.heap.size rfl (.tmp 39) (.tmp 40) rfl _ [] l2 A l2.length c rfl rfl (R_empty41 h0 hg0) (Kd.C_below HE.C hb) hb.size (by rw [List.length_nil]; omega) ?_; intro v1 w1 h1 h2 h3; rw [List.nil_append] at h1; refine hK.out _ _ (hb.trans h2) (fun hHeld => ?_); exact s7_2_0_0 HE HX hl2 hl3 hP hQ _ hHeld  _ v1 h1
  refine AllReadyH.cons (o := { dst := (some 43), op := (Op.buildSlice 22 1 #[(0, (Operand.tmp 42))]), type := 22, pos := "law.go:111", after := #[{ on := 3, ground := Ground.data }], guard := none }) rfl (fun K hK => ?_) ?_
  · go_simp; refine hK.out _ _ (HB.out.alloc HB.out.size _) (fun hHeld => ?_); obtain ⟨HE, HX, hl2, hl3, hP, hQ⟩ := HALL.out; have hb := HB.out; have hg0 := hg0A.out; have h0 := h0A.out; exact s7_0_1_0 HE HX hl2 hl3 hP hQ _ hHeld g0 W.heap.size hg0 (blk_alloc h0 _) (blk_new W _) (Nat.ne_of_gt (blk_lt h0))
  refine AllReadyH.cons (o := { dst := (some 14), op := (Op.alloc 28), type := 0, pos := "law.go:111", after := #[], guard := none }) rfl (fun K hK => ?_) ?_
  · go_simp; refine hK.out _ _ (HB.out.alloc HB.out.size _) (fun hHeld => ?_); obtain ⟨HE, HX, hl2, hl3, hP, hQ⟩ := HALL.out; have hb := HB.out; have hg0 := hg0A.out; have h0 := h0A.out; exact s7_0_0_1 HE HX hl2 hl3 hP hQ _ hHeld g0 W.heap.size hg0 (blk_alloc h0 _) hb.size (blk_new W _)
  exact AllReadyH.nil
set_option maxHeartbeats 2000000 in
theorem s7_n_1_1 (W : World) (hb : Below W4.heap.size W4 W) (g4 g7 : Nat) (h4 : W.heap[g4]? = some (.cells (E41 e) 41 (0, 0))) (hg7 : W4.heap.size ≤ g7) (h7 : W.heap[g7]? = some (.cells Z28 28 (0, 0))) :
    wpAnyH Try.prog .any ops7 Q (fun w => Below W4.heap.size W4 w) 5 #[false, true, false, true, true, false, false, true, false] (T7 n f cu CC k e A A0 A1 ll c l2.length c0 c1 l0 l1 gm gp gs (.pointer (some ⟨g7, 0, none⟩)) undef (.slice A l2.length c) undef (.agg (E41 e)) (.slice (some ⟨g4, 0, none⟩) 1 1) undef undef) W := by
  have HALL := Aside0.mk (And.intro HE (And.intro HX (And.intro hl2 (And.intro hl3 (And.intro hP hQ)))))
  have HB := Aside0.mk hb
  have h4A := Aside0.mk h4
  have hg7A := Aside0.mk hg7
  have h7A := Aside0.mk h7
  clear HE HX hl2 hl3 hP hQ hb h4 hg7 h7
  unfold T7
  refine wpAnyH_ready (rs := [0]) (by kernel_rfl) (by simp) ?_
  refine AllReadyH.cons (o := { dst := (some 39), op := (Op.buildSlice 22 0 #[]), type := 22, pos := "law.go:111", after := #[], guard := none }) rfl (fun K hK => ?_) ?_
  · go_simp; refine hK.out _ _ (HB.out.alloc HB.out.size _) (fun hHeld => ?_); obtain ⟨HE, HX, hl2, hl3, hP, hQ⟩ := HALL.out; have hb := HB.out; have h4 := h4A.out; have hg7 := hg7A.out; have h7 := h7A.out; exact s7_0_1_1 HE HX hl2 hl3 hP hQ _ hHeld W.heap.size g4 g7 hb.size (blk_new W _) (blk_alloc h4 _) (Nat.ne_of_lt (blk_lt h4)) hg7 (blk_alloc h7 _)
  exact AllReadyH.nil
set_option maxHeartbeats 2000000 in
theorem s7_n_1_0 (W : World) (hb : Below W4.heap.size W4 W) (g4 : Nat) (h4 : W.heap[g4]? = some (.cells (E41 e) 41 (0, 0))) :
    wpAnyH Try.prog .any ops7 Q (fun w => Below W4.heap.size W4 w) 6 #[false, true, false, true, true, false, false, false, false] (T7 n f cu CC k e A A0 A1 ll c l2.length c0 c1 l0 l1 gm gp gs undef undef (.slice A l2.length c) undef (.agg (E41 e)) (.slice (some ⟨g4, 0, none⟩) 1 1) undef undef) W := by
  have HALL := Aside0.mk (And.intro HE (And.intro HX (And.intro hl2 (And.intro hl3 (And.intro hP hQ)))))
  have HB := Aside0.mk hb
  have h4A := Aside0.mk h4
  clear HE HX hl2 hl3 hP hQ hb h4
  unfold T7
  refine wpAnyH_ready (rs := [0, 7]) (by kernel_rfl) (by simp) ?_
  refine AllReadyH.cons (o := { dst := (some 39), op := (Op.buildSlice 22 0 #[]), type := 22, pos := "law.go:111", after := #[], guard := none }) rfl (fun K hK => ?_) ?_
  · go_simp; refine hK.out _ _ (HB.out.alloc HB.out.size _) (fun hHeld => ?_); obtain ⟨HE, HX, hl2, hl3, hP, hQ⟩ := HALL.out; have hb := HB.out; have h4 := h4A.out; exact s7_0_1_0 HE HX hl2 hl3 hP hQ _ hHeld W.heap.size g4 hb.size (blk_new W _) (blk_alloc h4 _) (Nat.ne_of_lt (blk_lt h4))
  refine AllReadyH.cons (o := { dst := (some 14), op := (Op.alloc 28), type := 0, pos := "law.go:111", after := #[], guard := none }) rfl (fun K hK => ?_) ?_
  · go_simp; refine hK.out _ _ (HB.out.alloc HB.out.size _) (fun hHeld => ?_); obtain ⟨HE, HX, hl2, hl3, hP, hQ⟩ := HALL.out; have hb := HB.out; have h4 := h4A.out; exact s7_n_1_1 HE HX hl2 hl3 hP hQ _ hHeld g4 W.heap.size (blk_alloc h4 _) hb.size (blk_new W _)
  exact AllReadyH.nil
set_option maxHeartbeats 2000000 in
theorem s7_n_0_1 (W : World) (hb : Below W4.heap.size W4 W) (g7 : Nat) (hg7 : W4.heap.size ≤ g7) (h7 : W.heap[g7]? = some (.cells Z28 28 (0, 0))) :
    wpAnyH Try.prog .any ops7 Q (fun w => Below W4.heap.size W4 w) 6 #[false, true, false, true, false, false, false, true, false] (T7 n f cu CC k e A A0 A1 ll c l2.length c0 c1 l0 l1 gm gp gs (.pointer (some ⟨g7, 0, none⟩)) undef (.slice A l2.length c) undef (.agg (E41 e)) undef undef undef) W := by
  have HALL := Aside0.mk (And.intro HE (And.intro HX (And.intro hl2 (And.intro hl3 (And.intro hP hQ)))))
  have HB := Aside0.mk hb
  have hg7A := Aside0.mk hg7
  have h7A := Aside0.mk h7
  clear HE HX hl2 hl3 hP hQ hb hg7 h7
  unfold T7
  refine wpAnyH_ready (rs := [0, 4]) (by kernel_rfl) (by simp) ?_
  refine AllReadyH.cons (o := { dst := (some 39), op := (Op.buildSlice 22 0 #[]), type := 22, pos := "law.go:111", after := #[], guard := none }) rfl (fun K hK => ?_) ?_
  · go_simp; refine hK.out _ _ (HB.out.alloc HB.out.size _) (fun hHeld => ?_); obtain ⟨HE, HX, hl2, hl3, hP, hQ⟩ := HALL.out; have hb := HB.out; have hg7 := hg7A.out; have h7 := h7A.out; exact s7_0_0_1 HE HX hl2 hl3 hP hQ _ hHeld W.heap.size g7 hb.size (blk_new W _) hg7 (blk_alloc h7 _)
  refine AllReadyH.cons (o := { dst := (some 43), op := (Op.buildSlice 22 1 #[(0, (Operand.tmp 42))]), type := 22, pos := "law.go:111", after := #[{ on := 3, ground := Ground.data }], guard := none }) rfl (fun K hK => ?_) ?_
  · go_simp; refine hK.out _ _ (HB.out.alloc HB.out.size _) (fun hHeld => ?_); obtain ⟨HE, HX, hl2, hl3, hP, hQ⟩ := HALL.out; have hb := HB.out; have hg7 := hg7A.out; have h7 := h7A.out; exact s7_n_1_1 HE HX hl2 hl3 hP hQ _ hHeld W.heap.size g7 (blk_new W _) hg7 (blk_alloc h7 _)
  exact AllReadyH.nil
set_option maxHeartbeats 2000000 in
theorem s7_n_0_0 (W : World) (hb : Below W4.heap.size W4 W)  :
    wpAnyH Try.prog .any ops7 Q (fun w => Below W4.heap.size W4 w) 7 #[false, true, false, true, false, false, false, false, false] (T7 n f cu CC k e A A0 A1 ll c l2.length c0 c1 l0 l1 gm gp gs undef undef (.slice A l2.length c) undef (.agg (E41 e)) undef undef undef) W := by
  have HALL := Aside0.mk (And.intro HE (And.intro HX (And.intro hl2 (And.intro hl3 (And.intro hP hQ)))))
  have HB := Aside0.mk hb
  clear HE HX hl2 hl3 hP hQ hb 
  unfold T7
  refine wpAnyH_ready (rs := [0, 4, 7]) (by kernel_rfl) (by simp) ?_
  refine AllReadyH.cons (o := { dst := (some 39), op := (Op.buildSlice 22 0 #[]), type := 22, pos := "law.go:111", after := #[], guard := none }) rfl (fun K hK => ?_) ?_
  · go_simp; refine hK.out _ _ (HB.out.alloc HB.out.size _) (fun hHeld => ?_); obtain ⟨HE, HX, hl2, hl3, hP, hQ⟩ := HALL.out; have hb := HB.out; exact s7_0_0_0 HE HX hl2 hl3 hP hQ _ hHeld W.heap.size hb.size (blk_new W _)
  refine AllReadyH.cons (o := { dst := (some 43), op := (Op.buildSlice 22 1 #[(0, (Operand.tmp 42))]), type := 22, pos := "law.go:111", after := #[{ on := 3, ground := Ground.data }], guard := none }) rfl (fun K hK => ?_) ?_
  · go_simp; refine hK.out _ _ (HB.out.alloc HB.out.size _) (fun hHeld => ?_); obtain ⟨HE, HX, hl2, hl3, hP, hQ⟩ := HALL.out; have hb := HB.out; exact s7_n_1_0 HE HX hl2 hl3 hP hQ _ hHeld W.heap.size (blk_new W _)
  refine AllReadyH.cons (o := { dst := (some 14), op := (Op.alloc 28), type := 0, pos := "law.go:111", after := #[], guard := none }) rfl (fun K hK => ?_) ?_
  · go_simp; refine hK.out _ _ (HB.out.alloc HB.out.size _) (fun hHeld => ?_); obtain ⟨HE, HX, hl2, hl3, hP, hQ⟩ := HALL.out; have hb := HB.out; exact s7_n_0_1 HE HX hl2 hl3 hP hQ _ hHeld W.heap.size hb.size (blk_new W _)
  exact AllReadyH.nil
set_option maxHeartbeats 2000000 in
theorem s7_all : (Code.region 7 ops7 true).wp Try.prog Q (T7 n f cu CC k e A A0 A1 ll c l2.length c0 c1 l0 l1 gm gp gs undef undef undef undef undef undef undef undef) W4 := by
  refine wp_region_held_drew (S := (fun w => Below W4.heap.size W4 w)) (by kernel_rfl) (below_drew (Below.refl _ _)) (fun hHeld => ?_)
  have HALL := Aside0.mk (And.intro HE (And.intro HX (And.intro hl2 (And.intro hl3 (And.intro hP hQ)))))
  have hc : ∀ w, Below W4.heap.size W4 w → w.cell? ⟨gm, 0, none⟩ = some (.int .i64 e.f0) ∧ w.cell? ⟨gm, 1, none⟩ = some (.int .i64 e.f1) ∧ w.cell? ⟨gm, 2, none⟩ = some (.int .i64 e.f2) := fun w hb => cell3 (blk_below HX hb)
  have HC := Aside0.mk hc
  clear HE HX hl2 hl3 hP hQ hc
  unfold T7
  refine wpAnyH_take (i := 1) (oi := { dst := (some 40), op := (Op.move (Operand.tmp 11)), type := 22, pos := "law.go:111", after := #[], guard := none }) (v := .slice A l2.length c) rfl (by kernel_rfl) (by kernel_rfl) (by kernel_rfl) (fun c a w h => HALL.out.2.2.2.2.1 c a _ _ w h) (Or.inl ⟨by rfl, ?_⟩) hHeld ?_
  · intro w hSw
    clear hSw
    go_simp
  try simp only [Act.put, List.setIfInBounds_toArray, List.set_cons_zero, List.set_cons_succ]
  refine wpAnyH_take (i := 3) (oi := { dst := (some 42), op := (Op.load 41 (Operand.tmp 6)), type := 41, pos := "law.go:111", after := #[], guard := none }) (v := .agg (E41 e)) rfl (by kernel_rfl) (by kernel_rfl) (by kernel_rfl) (fun c a w h => HALL.out.2.2.2.2.1 c a _ _ w h) (Or.inl ⟨by rfl, ?_⟩) hHeld ?_
  · intro w hSw
    obtain ⟨z0, z1, z2⟩ := HC.out w hSw
    clear hSw
    go_simp
  try simp only [Act.put, List.setIfInBounds_toArray, List.set_cons_zero, List.set_cons_succ]
  obtain ⟨HE, HX, hl2, hl3, hP, hQ⟩ := HALL.out
  exact s7_n_0_0 HE HX hl2 hl3 hP hQ _ hHeld
end
set_option maxRecDepth 100000 in
set_option maxHeartbeats 8000000 in
theorem CallsMore_walk (n : Int) (hn : 0 ≤ n ∧ n ≤ 255) (l : List S41) (A : Option Addr) (c : Nat) (e : S41) (f : Int) (hf : 0 ≤ f ∧ f ≤ 255) (w : World) (hlc : l.length ≤ c) (hC : Kd.C k41 w A l.length l) :
    Calls Try.prog 6 #[.int .u8 n, .slice A l.length c, .agg #[.int .i64 e.f0, .int .i64 e.f1, .int .i64 e.f2], .int .u8 f] w fun e w' => e = .returned (.bool true) ∧ Below w.heap.size w w' := by
  have HC := Aside0.mk hC
  have HLC := Aside0.mk hlc
  have HN := Aside0.mk hn
  have HFF := Aside0.mk hf
  clear hC hlc hn hf
  go_enter Try.func6, Try.ntmps6
  go_upto_region 1 with (fail)
  have HX := Aside0.mk (blk_new w (.cells #[.int .i64 e.f0, .int .i64 e.f1, .int .i64 e.f2] 41))
  have HB0 := Aside0.mk (below_alloc (Below.refl w.heap.size w) (.cells #[.int .i64 e.f0, .int .i64 e.f1, .int .i64 e.f2] 41))
  generalize w.alloc (.cells #[.int .i64 e.f0, .int .i64 e.f1, .int .i64 e.f2] 41) = W0 at HX HB0 ⊢
  generalize hgm : w.heap.size = gm at HX ⊢
  clear hgm
  obtain ⟨k, l2, hk, hl2, hk40, hF⟩ := few_e n HN.out l A c W0 (Kd.C_below HC.out HB0.out) HLC.out
  have HF := Aside0.mk hF
  have HK40 := Aside0.mk hk40
  have HLL : Aside0 (l2.length ≤ 150) := Aside0.mk (by rw [hl2, List.length_take]; omega)
  clear hF hk hl2 hk40
  go_upto_region 3 with (first
    | (go_at_call 8; with_reducible refine (shown_c _).mono ?_; rintro r1 w1 ⟨rfl, hk⟩; have HB := Aside0.mk hk; clear hk)
    | (go_at_call 9; with_reducible refine (HF.out _ HB.out).mono ?_; rintro r2 w2 ⟨rfl, hE, hk⟩; have HE := Aside0.mk hE; replace HB := Aside0.mk hk; clear hE hk))
  clear HF
  by_cases hk0 : k = 0
  · have e1 : ((k : Int) == 0) = true := beq_iff_eq.mpr (by omega)
    have e2 : (k == 0) = true := beq_iff_eq.mpr hk0
    clear hk0
    go_wp2_with fail
    go_ret
    exact ⟨rfl, below_step HB0.out HB.out⟩
  have hK0 : ((k : Int) == 0) = false := beq_eq_false_iff_ne.mpr (by omega)
  have hK3 : (k == 0) = false := beq_eq_false_iff_ne.mpr hk0
  have hK1 : ¬ (k : Int) = 0 := by omega
  have HKP : Aside0 (0 < k) := Aside0.mk (by omega)
  have hcut : 0 ≤ Int.tmod (wrap64 f) (k : Int) ∧ Int.tmod (wrap64 f) (k : Int) < k := by
    have h1 := HFF.out
    have h2 := HKP.out
    rw [show wrap64 f = f by unfold wrap64; omega, Int.tmod_eq_emod_of_nonneg h1.1]
    exact ⟨Int.emod_nonneg _ (by omega), Int.emod_lt_of_pos _ (by omega)⟩
  have HCUT := Aside0.mk hcut
  clear hcut hk0
  go_upto_region 6 with (go_at_call 10; (with_reducible refine (prog_d k _ _ ?aK).mono ?_; (case aK => have := HK40.out; omega); rintro r3 w3 ⟨pv, rfl, hp, hb3⟩; have HP := Aside0.mk hp; have HE3 := Aside0.mk (HE.out.below hb3); have HB3 := Aside0.mk (below_step HB.out hb3); have hp2 := hp; unfold Prg at hp2; obtain ⟨A0, c0, l0, A1, c1, l1, rfl, hp3⟩ := hp2; clear hp hb3 hp3))
  go_upto_region 7 with (fail)
  have HXP := Aside0.mk (blk_alloc (blk_new w3 (.cells #[.slice A0 l0.length c0, .slice A1 l1.length c1, .int .i64 (Int.tmod (wrap64 f) (k : Int))] 32)) (.cells #[.slice none 0 0, .slice none 0 0, .slice A l2.length c, .int .i64 0] 28))
  have HXS := Aside0.mk (blk_at_ (W := w3.alloc (.cells #[.slice A0 l0.length c0, .slice A1 l1.length c1, .int .i64 (Int.tmod (wrap64 f) (k : Int))] 32)) (n := w3.heap.size + 1) (.cells #[.slice none 0 0, .slice none 0 0, .slice A l2.length c, .int .i64 0] 28) (by simp))
  have HB34 := below_alloc (below_alloc (Below.refl w3.heap.size w3) (.cells #[.slice A0 l0.length c0, .slice A1 l1.length c1, .int .i64 (Int.tmod (wrap64 f) (k : Int))] 32)) (.cells #[.slice none 0 0, .slice none 0 0, .slice A l2.length c, .int .i64 0] 28)
  have HXE := Aside0.mk (blk_below (blk_below HX.out HB3.out) HB34)
  have HE4 := Aside0.mk (HE3.out.below HB34)
  have HPR := Aside0.mk (HP.out.below HB34)
  have HB4 := Aside0.mk (below_step HB3.out HB34)
  clear HB34 HE3 HP HB3 HX hK0 hK1 hK3
  generalize (w3.alloc (.cells #[.slice A0 l0.length c0, .slice A1 l1.length c1, .int .i64 (Int.tmod (wrap64 f) (k : Int))] 32)).alloc (.cells #[.slice none 0 0, .slice none 0 0, .slice A l2.length c, .int .i64 0] 28) = W4 at HXP HXS HXE HE4 HPR HB4 ⊢
  generalize w3.heap.size + 1 = gs at HXS ⊢
  generalize w3.heap.size = gp at HXP ⊢
  generalize Int.tmod (wrap64 f) (k : Int) = CC at HCUT HXP HPR ⊢
  generalize wrap64 f = cu
  rename_i K hK
  obtain ⟨l3, hl3⟩ : ∃ l3, l2 ++ [e] = l3 := ⟨_, rfl⟩
  have HL3 := Aside0.mk hl3
  have HML : Aside0 (l3.length ≤ 1000000) := Aside0.mk (by rw [← hl3, List.length_append, List.length_singleton]; have := HLL.out; omega)
  clear hl3
  have rest : ∀ (W : World) (x39 x41 x43 x44 x45 : Value) (g14 : Nat) (Am : Option Addr) (cm : Nat), W.heap[g14]? = some (.cells #[.slice none 0 0, .slice none 0 0, .slice Am l3.length cm, .int .i64 0] 28 (0, 0)) → Edg W Am l3 cm → Below W4.heap.size W4 W → K { tmps := #[.int .u8 n, .slice A l.length c, .agg #[.int .i64 e.f0, .int .i64 e.f1, .int .i64 e.f2], .int .u8 f, undef, undef, .pointer (some ⟨gm, 0, none⟩), undef, .bool false, .bool true, .int .i64 (k : Int), .slice A l2.length c, .pointer (some ⟨gp, 0, none⟩), .pointer (some ⟨gs, 0, none⟩), .pointer (some ⟨g14, 0, none⟩), undef, undef, undef, undef, undef, undef, .bool true, .tuple #[.int .i64 (k : Int), .slice A l2.length c], .int .u8 n, .slice A l.length c, .tuple #[.int .i64 (k : Int), .slice A l2.length c], .int .i64 (k : Int), .slice A l2.length c, .int .i64 (k : Int), .bool false, undef, .int .i64 (k : Int), .int .u8 f, .int .i64 cu, .int .i64 (k : Int), .int .i64 CC, .agg #[.slice A0 l0.length c0, .slice A1 l1.length c1, .int .i64 CC], .slice A l2.length c, .agg #[.slice none 0 0, .slice none 0 0, .slice A l2.length c, .int .i64 0], x39, .slice A l2.length c, x41, .agg #[.int .i64 e.f0, .int .i64 e.f1, .int .i64 e.f2], x43, x44, x45, undef, undef, undef, undef, undef, undef, undef, undef, undef, undef, undef, undef, undef, undef, undef, undef, undef, undef, undef, undef, undef, undef, undef, undef, undef, undef, undef, undef, undef, undef, undef, undef, undef, undef, undef, undef, undef, undef, undef, undef, undef, undef, undef, undef, undef, undef, undef, undef, undef, undef], defers := [] } W := by
    intro W x39 x41 x43 x44 x45 g14 Am cm hz hm hb
    have HM := Aside0.mk hm
    have HBW := Aside0.mk hb
    have HP7 := Aside0.mk (HPR.out.below hb)
    have HE7 := Aside0.mk (HE4.out.below hb)
    have HZP := Aside0.mk (blk_below HXP.out hb)
    have HZS := Aside0.mk (blk_below HXS.out hb)
    have HZE := Aside0.mk (blk_below HXE.out hb)
    have HZT := Aside0.mk hz
    clear hz hm hb
    obtain ⟨s1, hs1⟩ := ROk.exists_ (sizeN (k : Int)) (sizeN_le _) l2 HE7.out.len [CC] (by simp)
    obtain ⟨s2, hs2⟩ := ROk.exists_ (sizeN (k : Int)) (sizeN_le _) l3 HML.out [CC] (by simp)
    obtain ⟨g1, hg1⟩ := RgOk.exists_ k l2
    obtain ⟨g2, hg2⟩ := RgOk.exists_ k l3
    obtain ⟨t1, ht1⟩ : ∃ t, t = ints s1 := ⟨_, rfl⟩
    obtain ⟨t2, ht2⟩ : ∃ t, t = ints s2 := ⟨_, rfl⟩
    obtain ⟨u1, hu1⟩ : ∃ t, t = ints g1 := ⟨_, rfl⟩
    obtain ⟨u2, hu2⟩ : ∃ t, t = ints g2 := ⟨_, rfl⟩
    have HK2 : Aside0 (k ≤ 20000) := Aside0.mk (by have := HK40.out; omega)
    have memi : ∀ {s : List Nat} {x : Int}, x ∈ ints s ↔ ∃ v, v ∈ s ∧ (v : Int) = x := fun {s x} => by unfold ints; rw [List.mem_map]
    have hsz : sizeN (k : Int) = k := sizeN_nat k HK2.out
    have hA : ∀ x ∈ t1, x ∈ t2 := fun x hx => by
      rw [ht1, memi] at hx
      obtain ⟨v, h1, h2⟩ := hx
      rw [ht2, memi]
      rw [← HL3.out] at hs2
      exact ⟨v, more_reach hs1 hs2 h1, h2⟩
    have hR : ∀ x ∈ u1, x ∈ u2 := fun x hx => by
      rw [hu1, memi] at hx
      obtain ⟨v, h1, h2⟩ := hx
      rw [hu2, memi]
      have h3 := (hg1.2 v).1 h1
      rw [← HL3.out] at hg2
      exact ⟨v, (hg2.2 v).2 ⟨h3.1, more_ring h3.2⟩, h2⟩
    have hSm : e.f0 ∉ t1 → t1 = t2 := fun hn => by
      have hc := HCUT.out
      obtain ⟨a, rfl⟩ : ∃ a : Nat, CC = (a : Int) := ⟨CC.toNat, by omega⟩
      rw [← HL3.out] at hs2
      rw [hsz] at hs1 hs2
      rw [ht1, ht2, more_same hs1 hs2 (by omega) (fun v hv he => hn (by rw [ht1, memi]; exact ⟨v, hv, he.symm⟩))]
    have HT : Aside0 (t1.length ≤ 20000 ∧ t2.length ≤ 20000 ∧ u1.length ≤ 20000 ∧ u2.length ≤ 20000) := Aside0.mk (by
      rw [ht1, ht2, hu1, hu2, ints_len, ints_len, ints_len, ints_len]
      have a1 := hs1.len; have a2 := hs2.len; have a3 := hg1.len; have a4 := hg2.len; have a5 := sizeN_le (k : Int); have a6 := HK2.out
      omega)
    have HS1 := Aside0.mk hs1
    have HS2 := Aside0.mk hs2
    have HG1 := Aside0.mk hg1
    have HG2 := Aside0.mk hg2
    have HT1 := Aside0.mk ht1
    have HT2 := Aside0.mk ht2
    have HU1 := Aside0.mk hu1
    have HU2 := Aside0.mk hu2
    have HAA := Aside0.mk hA
    have HRR := Aside0.mk hR
    have HSM := Aside0.mk hSm
    clear hs1 hs2 hg1 hg2 ht1 ht2 hu1 hu2 hA hR hSm hsz memi
    have hp : ∀ W', Below W.heap.size W W' → W'.cell? ⟨gp, 0, none⟩ = some (.slice A0 l0.length c0) ∧ W'.cell? ⟨gp, 1, none⟩ = some (.slice A1 l1.length c1) ∧ W'.cell? ⟨gp, 2, none⟩ = some (.int .i64 CC) := fun W' hb => ⟨(blk_cell (blk_below HZP.out hb) 0).trans rfl, (blk_cell (blk_below HZP.out hb) 1).trans rfl, (blk_cell (blk_below HZP.out hb) 2).trans rfl⟩
    have HPC := Aside0.mk hp
    clear hp
    refine hK _ _ ?_
    obtain ⟨p0, p1, p2⟩ := HPC.out W (Below.refl _ _)
    obtain ⟨q0, q1, q2, q3⟩ := sol_cells HZS.out (Below.refl _ W)
    go_upto_region 9 with (go_at_call 14; with_reducible refine (reached_c k CC _ l2 _ c _ HP7.out HE7.out s1 HS1.out t1 HT1.out).mono ?_; rintro r5 w5 ⟨A5, c5, rfl, ha, hb2⟩; have HA := Aside0.mk ha; have HB5 := Aside0.mk hb2; clear ha hb2)
    clear p0 p1 p2 q0 q1 q2 q3
    obtain ⟨p0, p1, p2⟩ := HPC.out w5 HB5.out
    obtain ⟨q0, q1, q2, q3⟩ := sol_cells HZT.out HB5.out
    go_upto_region 10 with (go_at_call 14; with_reducible refine (reached_c k CC _ l3 _ cm _ (HP7.out.below HB5.out) (HM.out.below HB5.out) s2 HS2.out t2 HT2.out).mono ?_; rintro r6 w6 ⟨A6, c6, rfl, ha, hb2⟩; have HA' := Aside0.mk (HA.out.below hb2); have HC6 := Aside0.mk ha; have HB6 := Aside0.mk (below_step HB5.out hb2); clear ha hb2)
    clear p0 p1 p2 q0 q1 q2 q3
    obtain ⟨p0, p1, p2⟩ := HPC.out w6 HB6.out
    obtain ⟨q0, q1, q2, q3⟩ := sol_cells HZS.out HB6.out
    go_upto_region 11 with (go_at_call 16; with_reducible refine (rings_c k CC _ l2 _ c _ (HP7.out.below HB6.out) (HE7.out.below HB6.out) HK2.out u1 g1 HG1.out HU1.out).mono ?_; rintro r7 w7 ⟨A7, c7, rfl, ha, hb2⟩; have HA2 := Aside0.mk (HA'.out.below hb2); have HC2 := Aside0.mk (HC6.out.below hb2); have HD7 := Aside0.mk ha; have HB7 := Aside0.mk (below_step HB6.out hb2); clear ha hb2)
    clear p0 p1 p2 q0 q1 q2 q3
    obtain ⟨p0, p1, p2⟩ := HPC.out w7 HB7.out
    obtain ⟨q0, q1, q2, q3⟩ := sol_cells HZT.out HB7.out
    go_upto_block 0 with (go_at_call 16; with_reducible refine (rings_c k CC _ l3 _ cm _ (HP7.out.below HB7.out) (HM.out.below HB7.out) HK2.out u2 g2 HG2.out HU2.out).mono ?_; rintro r8 w8 ⟨A8, c8, rfl, ha, hb2⟩; have HN1 := Aside0.mk (HA2.out.below hb2); have HN2 := Aside0.mk (HC2.out.below hb2); have HV1 := Aside0.mk (HD7.out.below hb2); have HV2 := Aside0.mk ha; have HB8 := Aside0.mk (below_step HB7.out hb2); clear ha hb2)
    clear p0 p1 p2 q0 q1 q2 q3
    have hfin : ∀ W', Below w8.heap.size w8 W' → Below w.heap.size w W' := fun W' hb => below_step HB0.out (below_step HB4.out (below_step HBW.out (below_step HB8.out hb)))
    have HFIN := Aside0.mk hfin
    clear hfin
    go_wp2_with fail
    go_loopw [19] (fun iv wx => ∃ (i : Nat), i ≤ t1.length ∧ iv = .int .i64 (i : Int) ∧ Hid (Below w8.heap.size w8 wx)) (fun iv _ => t1.length - (intOf iv).toNat)
    case atStart => exact ⟨0, Nat.zero_le _, rfl, Below.refl _ _⟩
    case round =>
      obtain ⟨i, hi, rfl, h1⟩ := hrel
      have HW := Aside0.mk (show Below w8.heap.size w8 wr from h1)
      clear h1
      by_cases hlt : (i : Int) < (t1.length : Int)
      · have hi1 : i < t1.length := by omega
        have hi0 : (0 : Int) ≤ (i : Int) := Int.natCast_nonneg i
        have hwi : IntKind.i64.wrap ((i : Int) + 1) = (i : Int) + 1 := by have := HT.out; rw [IntKind.wrap_i64]; omega
        obtain ⟨adt, et, c1⟩ := (HN1.out.below HW.out).at_ i hi1
        have hmem := HAA.out (t1.getD i 0) (by rw [List.getD_eq_getElem?_getD, List.getElem?_eq_getElem hi1]; exact List.getElem_mem hi1)
        generalize t1.getD i 0 = x at c1 hmem
        have HMB := Aside0.mk (decide_eq_true hmem)
        subst et
        clear hmem
        go_wp2_with (go_at_call 18; with_reducible refine (has_d t2 _ _ x true _ (HN2.out.below HW.out) (by have := HT.out; omega) HMB.out).mono ?_; rintro r9 w9 ⟨rfl, hb9⟩; replace HW := Aside0.mk (below_step HW.out hb9); clear hb9)
        go_roundw
        case rel => exact ⟨i + 1, by omega, by go_num, HW.out⟩
        case measure => simp [intOf]; omega
      · go_upto_block 2 with (fail)
        go_wp2_with fail
        go_loopw [20] (fun iv wx => ∃ (i : Nat), i ≤ u1.length ∧ iv = .int .i64 (i : Int) ∧ Hid (Below w8.heap.size w8 wx)) (fun iv _ => u1.length - (intOf iv).toNat)
        case atStart => exact ⟨0, Nat.zero_le _, rfl, HW.out⟩
        case round =>
          clear HW
          obtain ⟨j, hj, rfl, h1⟩ := hrel
          have HW := Aside0.mk (show Below w8.heap.size w8 wr from h1)
          clear h1
          by_cases hltj : (j : Int) < (u1.length : Int)
          · have hj1 : j < u1.length := by omega
            have hj0 : (0 : Int) ≤ (j : Int) := Int.natCast_nonneg j
            have hwj : IntKind.i64.wrap ((j : Int) + 1) = (j : Int) + 1 := by have := HT.out; rw [IntKind.wrap_i64]; omega
            obtain ⟨adt, et, c1⟩ := (HV1.out.below HW.out).at_ j hj1
            have hmem := HRR.out (u1.getD j 0) (by rw [List.getD_eq_getElem?_getD, List.getElem?_eq_getElem hj1]; exact List.getElem_mem hj1)
            generalize u1.getD j 0 = x at c1 hmem
            have HMB := Aside0.mk (decide_eq_true hmem)
            subst et
            clear hmem
            go_wp2_with (go_at_call 18; with_reducible refine (has_d u2 _ _ x true _ (HV2.out.below HW.out) (by have := HT.out; omega) HMB.out).mono ?_; rintro r9 w9 ⟨rfl, hb9⟩; replace HW := Aside0.mk (below_step HW.out hb9); clear hb9)
            go_roundw
            case rel => exact ⟨j + 1, by omega, by go_num, HW.out⟩
            case measure => simp [intOf]; omega
          · have m0 : wr.cell? ⟨gm, 0, none⟩ = some (.int .i64 e.f0) := (blk_cell (blk_below (blk_below HZE.out HB8.out) HW.out) 0).trans rfl
            obtain ⟨b, hb⟩ : ∃ b, decide (e.f0 ∈ t1) = b := ⟨_, rfl⟩
            have HBB := Aside0.mk hb
            cases b with
            | true =>
              clear hb
              go_wp2_with (go_at_call 18; with_reducible refine (has_d t1 _ _ e.f0 true _ (HN1.out.below HW.out) (by have := HT.out; omega) HBB.out).mono ?_; rintro r9 w9 ⟨rfl, hb9⟩; replace HW := Aside0.mk (below_step HW.out hb9); clear hb9)
              go_ret
              exact ⟨rfl, HFIN.out _ HW.out⟩
            | false =>
              have hs := HSM.out (of_decide_eq_false hb)
              have HN2' : Aside0 (Nts w8 A6 t1 c6) := Aside0.mk (by rw [hs]; exact HN2.out)
              have hl : t2.length = t1.length := by rw [hs]
              rw [hl]
              clear hb hs hl
              go_wp2_with (first
                | (go_at_call 18; with_reducible refine (has_d t1 _ _ e.f0 false _ (HN1.out.below HW.out) (by have := HT.out; omega) HBB.out).mono ?_; rintro r9 w9 ⟨rfl, hb9⟩; replace HW := Aside0.mk (below_step HW.out hb9); clear hb9)
                | (go_at_call 11; with_reducible refine (ints_d t1 _ _ _ _ _ (HN1.out.below HW.out) (HN2'.out.below HW.out) (by have := HT.out; omega)).mono ?_; rintro r9 w9 ⟨rfl, hb9⟩; replace HW := Aside0.mk (below_step HW.out hb9); clear hb9))
              go_ret
              exact ⟨rfl, HFIN.out _ HW.out⟩
  exact s7_all HE4.out HXE.out HLL.out HL3.out (fun _ _ _ _ _ h => h) (fun W x39 x41 x43 x44 x45 g14 Am cm hz hm hb => rest W x39 x41 x43 x44 x45 g14 Am cm hz hm hb)
end Go.Proofs.Ytjbgealnnlmchaa.G
