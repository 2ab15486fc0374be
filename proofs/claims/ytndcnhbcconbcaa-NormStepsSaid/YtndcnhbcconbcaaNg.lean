/- norm.Offs: all normal places. The arguments read as types and records. -/
import Derived.Test.YtndcnhbcconbcaaNf
set_option linter.unusedVariables false
set_option linter.unusedSimpArgs false
namespace Go.Proofs.Ytndcnhbcconbcaa.G
open Go.RowKit Go.Shelf Go.Proofs.Ytndcnhbcconbcaa.B Go.Proofs.YtndcnhbcconbcaaW.PrintWords Go.Proofs.YtndcnhbcconbcaaW.PrintLast Go.Proofs.YtndcnhbcconbcaaW.PrintMore
attribute [local go_sem] Oper.semAt_some

theorem wf_i64 {x : Int} (h : I64 x) : (Lit.int .i64 x).wf = true := by
  have h1 := wrap64_wf x
  rwa [show wrap64 x = x from by unfold I64 at h; unfold wrap64; omega] at h1
theorem plainElem_bool_inv {H : Type} {P : Program} {e : TypeId} (he : P.underlying e = some .bool) {v : Value} {b : Bool} {ps : List MemPlace} (h : plainElem (H := H) P e v = some (.lit (.bool b), ps)) : v = .bool b := by
  unfold plainElem at h
  rw [he] at h
  cases v <;> simp at h
  rw [h.1]
/-- A look-up in a map of bools that the call made. -/
theorem lookup_b {H : Type} {F : Fence} {nF : Nat} {P : Program} (w : World) {ops : Array Oper} {rest : List Oper} {o : Oper} {a : Act} {Q : Exit → Act → World → Prop}
    (hg : o.guard = none) (m x : Operand) (t : TypeId) (hop : o.op = Op.lookup t m x false)
    (k e : TypeId) (K : Maps.Keyed P k) (ht : P.underlying t = some (.map k e)) (he : P.underlying e = some .bool) (hz : (zeroValue e).run P w = .ok (.bool false) w) (b n : Nat) (D : DataW H)
    (hm : a.eval m = .map (some b)) (hown : w.ownsMap P k (plainElem P e) b n D) (key : Value) (kl : Lit) (hx : a.eval x = key) (hkey : keyOf P k key = some kl) (bb : Bool) (hat : D.atKey kl (.lit (.bool false)) = .lit (.bool bb))
    (hK : wpListIn F nF P ops Q rest (a.put o.dst (.bool bb)) w) :
    wpListIn F nF P ops Q (o :: rest) a w := by
  refine wpListIn_plain hg fun K' hK' => ?_
  obtain ⟨v, ps, hrun, hv⟩ := hown.lookup K ht hz (plainElem_bool he false) hkey
  rw [hat] at hv
  obtain rfl := plainElem_bool_inv he hv
  unfold Oper.wpIn
  refine ⟨by simp [Oper.about, hop], ?_⟩
  rw [Oper.semAt_plain F _ _ (by rw [hop]; intro c hc'; cases hc')]
  simp [execOp, hop, hm, hx, hrun, Result.andThen]
  exact hK' _ _ hK
/-- The normal places, each once, in the order in which they come. -/
def offsS (zs : List Pl) : List Int := zs.foldl (fun acc x => if x.1.2 ∈ acc then acc else acc ++ [x.1.2]) []
theorem offs_hit {pre : List Pl} {x : Pl} (h : x.1.2 ∈ offsS pre) : offsS (pre ++ [x]) = offsS pre := by
  unfold offsS at h ⊢
  rw [List.foldl_append]
  simp only [List.foldl_cons, List.foldl_nil]
  rw [if_pos h]
theorem offs_miss {pre : List Pl} {x : Pl} (h : ¬ x.1.2 ∈ offsS pre) : offsS (pre ++ [x]) = offsS pre ++ [x.1.2] := by
  unfold offsS at h ⊢
  rw [List.foldl_append]
  simp only [List.foldl_cons, List.foldl_nil]
  rw [if_neg h]
theorem offs_len (zs : List Pl) : (offsS zs).length ≤ zs.length := by
  have : ∀ (l : List Pl) (acc : List Int), (l.foldl (fun acc x => if x.1.2 ∈ acc then acc else acc ++ [x.1.2]) acc).length ≤ acc.length + l.length := by
    intro l
    induction l with
    | nil => intro acc; simp
    | cons y l ih =>
      intro acc
      rw [List.foldl_cons]
      refine Nat.le_trans (ih _) ?_
      split
      · simp
      · simp; omega
  have h := this zs []
  unfold offsS
  simpa using h
/-- The set of what has come, as a map. -/
def seenD (l : List Int) : DataW Unit := l.foldl (fun D x => D.put (.int .i64 x) (.lit (.bool true))) (.map [])
theorem seenD_snoc (l : List Int) (x : Int) : seenD (l ++ [x]) = (seenD l).put (.int .i64 x) (.lit (.bool true)) := by simp [seenD]
theorem seenD_map (l : List Int) : Maps.IsMap (seenD l) := by
  have : ∀ (l : List Int) (D : DataW Unit), Maps.IsMap D → Maps.IsMap (l.foldl (fun D x => D.put (.int .i64 x) (.lit (.bool true))) D) := by
    intro l
    induction l with
    | nil => intro D h; exact h
    | cons y l ih => intro D h; exact ih _ (h.put _ _)
  exact this l _ Maps.isMap_empty
theorem seenD_fold (x : Int) : ∀ (l : List Int) (D : DataW Unit) (b : Bool), Maps.IsMap D → D.atKey (.int .i64 x) (.lit (.bool false)) = .lit (.bool b) →
    (l.foldl (fun D x => D.put (.int .i64 x) (.lit (.bool true))) D).atKey (.int .i64 x) (.lit (.bool false)) = .lit (.bool (b || decide (x ∈ l))) := by
  intro l
  induction l with
  | nil => intro D b _ h; simpa using h
  | cons y l ih =>
    intro D b hD h
    rw [List.foldl_cons]
    by_cases hxy : x = y
    · subst hxy
      rw [ih _ true (hD.put _ _) (Maps.atKey_put_same hD (by trivial) _ _)]
      simp
    · rw [ih _ b (hD.put _ _) ((Maps.atKey_put_other (by intro h; injection h with _ h; exact hxy h) _ _).trans h)]
      simp [hxy]
theorem seenD_at (x : Int) (l : List Int) : (seenD l).atKey (.int .i64 x) (.lit (.bool false)) = .lit (.bool (decide (x ∈ l))) := by
  have h := seenD_fold x l (.map []) false Maps.isMap_empty rfl
  simpa [seenD] using h
set_option maxRecDepth 100000 in
set_option maxHeartbeats 4000000 in
theorem offs_c (l : List S51) (A : Option Addr) (c : Nat) (hl : l.length ≤ c) (k : Nat) (u : S24) (D : Option Addr) (q : Nat) (W : World) (hC : k51.C W A l.length l) (hD : k24.C W D u.f3.length u.f3) (hq : u.f3.length ≤ q)
    (n : Nat) (hn : n ≤ 1000000) (s2 : Int) (hs : sizeS l u = ((n : Int), s2, 0)) (zs : List Pl) (hz : Places l u k n zs) :
    Calls Try.prog 14 #[.slice A l.length c, .agg #[.int .i64 u.f0, .int .i64 u.f1, .string u.f2, .slice D u.f3.length q]] W fun e' w' => ∃ A' c', e' = .returned (.tuple #[.slice A' (offsS zs).length c', .int .i64 0]) ∧ Kd.C (Kd.int .i64) w' A' (offsS zs).length (offsS zs) ∧ (offsS zs).length ≤ c' ∧ Below W.heap.size W w' := by
  have HC := Aside0.mk hC
  have HD := Aside0.mk hD
  have HL := Aside0.mk hl
  have HQ := Aside0.mk hq
  have HZ := Aside0.mk hz
  have HNN := Aside0.mk hn
  have HS := Aside0.mk (fun W h1 h2 => size_c l A c hl _ u (Nat.le_refl _) D q W h1 h2 hq _ _ _ hs)
  have HX := Aside0.mk (blk_new W (.cells #[.int .i64 u.f0, .int .i64 u.f1, .string u.f2, .slice D u.f3.length q] 24))
  have HB0 := Aside0.mk (below_alloc (Below.refl W.heap.size W) (.cells #[.int .i64 u.f0, .int .i64 u.f1, .string u.f2, .slice D u.f3.length q] 24))
  clear hC hD hs hq hl hz hn
  have hmm := @run_makeMap Try.prog
  refine (callsIn_wide (n := 3)).1 ?_
  refine callsIn_of_wp_marks Try.func14 rfl trivial ?_ rfl
  simp only [Try.ntmps14, List.size_toArray, List.length_cons, List.length_nil, Nat.reduceAdd, Nat.reduceSub, Array.replicate_succ, Array.replicate_zero, List.push_toArray, List.append_toArray, List.nil_append, List.cons_append]
  obtain ⟨W0, hW0⟩ : ∃ W0, W.alloc (.cells #[.int .i64 u.f0, .int .i64 u.f1, .string u.f2, .slice D u.f3.length q] 24) = W0 := ⟨_, rfl⟩
  obtain ⟨g4, hg4⟩ : ∃ g4, W.heap.size = g4 := ⟨_, rfl⟩
  rw [hW0] at HB0 HX
  rw [hg4] at HX
  obtain ⟨z0, z1, z2, z3⟩ := cell4 HX.out
  gi_wp2_with (first
    | (refine ⟨trivial, ?_⟩; gi_at_call 19; refine (callsIn_wide.2 (HS.out _ (Kd.C_below HC.out HB0.out) (Kd.C_below HD.out HB0.out))).mono ?_; rintro e2 w2 ⟨rfl, hb⟩; have HB2 := Aside0.mk (below_step HB0.out hb); have HX2 := Aside0.mk (blk_below HX.out hb); obtain ⟨x0, x1, x2, x3⟩ := cell4 (blk_alloc (blk_alloc (blk_alloc HX2.out (.cells #[.slice none 0 0] 35)) (.map #[] 0)) (.cells #[.map (some (w2.heap.size + 1))] 57)); clear hb)
    | (refine ⟨trivial, ?_⟩; gi_at_call 25; refine (callsIn_wide.2 (places_c A l.length c u.f0 u.f1 u.f2 D u.f3.length q (n : Int) _)).mono ?_; rintro e3 w3 ⟨b1, b2, b3, rfl, hbs, hge, hb⟩; have HBS := Aside0.mk hbs; have HGE := Aside0.mk hge; have HB3 := Aside0.mk (below_step (below_alloc (below_alloc (below_alloc HB2.out (.cells #[.slice none 0 0] 35)) (.map #[] 0)) (.cells #[.map (some (w2.heap.size + 1))] 57)) hb); have H93 := Aside0.mk (blk_below (blk_alloc (blk_alloc (blk_new w2 (.cells #[.slice none 0 0] 35)) (.map #[] 0)) (.cells #[.map (some (w2.heap.size + 1))] 57)) hb); have H103 := Aside0.mk (blk_below (blk_at_ (W := (w2.alloc (.cells #[.slice none 0 0] 35)).alloc (.map #[] 0)) (n := w2.heap.size + 1 + 1) (.cells #[.map (some (w2.heap.size + 1))] 57) (by simp)) hb); have hm0 := World.ownsMap_made (w2.alloc (.cells #[.slice none 0 0] 35)) Try.prog 3 (plainElem (H := Unit) Try.prog 4); rw [World.size_alloc] at hm0; have HM3 := Aside0.mk ((hm0.alloc (.cells #[.map (some (w2.heap.size + 1))] 57)).kept (grown_below hb) (by simp)); clear hb hbs hge hm0))
  obtain ⟨g9, hg9⟩ : ∃ g9, w2.heap.size = g9 := ⟨_, rfl⟩
  have hge := HGE.out
  simp only [World.size_alloc, hg9] at hge
  have HGE2 := Aside0.mk hge
  have HLT1 : Aside0 (W.heap.size ≤ g9) := Aside0.mk (by have := HB2.out.size; omega)
  rw [hg9] at H93 H103 HM3 ⊢
  clear hge HGE hg9 x0 x1 x2 x3 z0 z1 z2 z3 HX HX2 HB0 HB2 hW0 hg4 hmm
  have HLEN : Aside0 (zs.length ≤ 1000001) := Aside0.mk (by have := HZ.out.1; have := HNN.out; omega)
  have hbt := HBS.out
  have HB31 := Aside0.mk (blk_lt hbt.1)
  have HB32 := Aside0.mk (blk_lt hbt.2.1)
  have HB33 := Aside0.mk (blk_lt hbt.2.2)
  obtain ⟨i0, hi0, hz0, hz1, hz2⟩ := info_parts info3
  refine wpIn_rangeFunc_ownG rfl (by decide) (gf := 33) (lb := #[.pointer (some ⟨b1, 0, none⟩), .pointer (some ⟨b2, 0, none⟩), .pointer (some ⟨b3, 0, none⟩)]) rfl trivial (enters_of Try.func33 (by kernel_rfl) rfl)
    (places_stops l A c HL.out u D q HQ.out k n zs HZ.out HNN.out 2 (by decide) b1 b2 b3 W HC.out HD.out w3 HB3.out hbt) KI_t (KI_b HB3.out.size HB31.out HB32.out HB33.out) (Below.refl _ _) (fun _ => rfl)
    (fun pre Wx => ((∃ v, Boxed Wx g9 35 v ∧ Wx.ownsRow w3.heap.size 3 1 v (offsS pre).length ((offsS pre).map (Value.int .i64)) ∧ True) ∧ Wx.ownsMap Try.prog 3 (plainElem (H := Unit) Try.prog 4) (g9 + 1) (offsS pre).length (seenD (offsS pre))) ∧ Kp w3 Wx (fun k => k = g9 ∨ k = g9 + 1))
    (fun _ _ _ => False)
    (OwnFrom.and (OwnFrom.and (Own.from (holdsRow_own w3.heap.size g9 35 3 1 (fun pre => (offsS pre).length) (fun pre => (offsS pre).map (Value.int .i64)) (fun pre v => True)) _) (fun s X Y row hs hg hr => hs.kept hg (fun e => by have h1 := (hr _ e.symm).1; have h2 := HGE2.out; have h3 := HB31.out; omega))) (kp_own w3 (fun k => k = g9 ∨ k = g9 + 1)))
    (fun _ _ _ _ _ hs _ _ => hs)
    ⟨⟨⟨_, H93.out, World.ownsRow_nil _ _ _ _, trivial⟩, HM3.out⟩, Kp.refl _ _⟩
    (fun x => { tmps := #[.slice A l.length c, .agg #[.int .i64 u.f0, .int .i64 u.f1, .string u.f2, .slice D u.f3.length q], undef, .pointer (some ⟨g4, 0, none⟩), .slice none 0 0, .int .i64 0, .int .i64 (n : Int), .int .i64 s2, .int .i64 0, .pointer (some ⟨g9, 0, none⟩), .pointer (some ⟨g9 + 1 + 1, 0, none⟩), undef, .int .i64 x.1.2, .tuple #[.int .i64 (n : Int), .int .i64 s2, .int .i64 0], .slice A l.length c, .agg #[.int .i64 u.f0, .int .i64 u.f1, .string u.f2, .slice D u.f3.length q], .tuple #[.int .i64 (n : Int), .int .i64 s2, .int .i64 0], .int .i64 (n : Int), .int .i64 s2, .int .i64 0, .int .i64 0, .bool false, undef, .map (some (g9 + 1)), .slice A l.length c, .agg #[.int .i64 u.f0, .int .i64 u.f1, .string u.f2, .slice D u.f3.length q], .int .i64 (n : Int), .func (.func 33) #[] #[.pointer (some ⟨b1, 0, none⟩), .pointer (some ⟨b2, 0, none⟩), .pointer (some ⟨b3, 0, none⟩)], .int .i64 x.1.1, .int .i64 x.1.2, undef, undef, undef, undef, undef, undef, undef, undef, undef, undef, undef], defers := [] }) ?assign ?body ?done ?stop
  case assign =>
    intro ll x Wx K hK
    dsimp only [encP]
    gi_wp2
    exact hK
  case body =>
    rintro ll pre x Wx ⟨⟨⟨v, hv, hrow, _⟩, hmap⟩, hK⟩ hlt
    have HK := Aside0.mk hK
    have HV := Aside0.mk hv
    have HROW := Aside0.mk hrow
    have HMAP := Aside0.mk hmap
    have hc := hv.cell
    have h10 : Wx.cell? ⟨g9 + 1 + 1, 0, none⟩ = some (.map (some (g9 + 1))) := cell1 ((HK.out.block (g9 + 1 + 1) (blk_lt H103.out) (by omega)).trans H103.out)
    have hpl : Aside0 ((offsS pre).length ≤ 1000001) := Aside0.mk (by have := offs_len pre; have := HLEN.out; omega)
    have hsz : Aside0 (w3.heap.size ≤ Wx.heap.size) := Aside0.mk HK.out.size
    have HKEY := Aside0.mk (Maps.keyOf_int_mk Try.underlying3 (wf_i64 x.2.2))
    have HAT := Aside0.mk (seenD_at x.1.2 (offsS pre))
    have HLTS : Aside0 (g9 + 1 + 1 < b1 ∧ g9 + 1 + 1 < b2 ∧ g9 + 1 + 1 < b3 ∧ b1 < w3.heap.size ∧ b2 < w3.heap.size ∧ b3 < w3.heap.size) := Aside0.mk (by have h1 := HGE2.out; have h2 := HB31.out; have h3 := HB32.out; have h4 := HB33.out; omega)
    clear hK hv hrow hmap
    by_cases hx : x.1.2 ∈ offsS pre
    · have hat2 := HAT.out
      rw [decide_eq_true hx] at hat2
      have HAT2 := Aside0.mk hat2
      have HHX := Aside0.mk hx
      clear hx hat2
      gi_wp2_with (gi_at_lookup; refine lookup_b _ rfl _ _ 57 rfl 3 4 (Maps.int_keyed Try.underlying3) Try.underlying57 Try.underlying4 (Try.zeroValue4 _) (g9 + 1) (offsS pre).length _ rfl HMAP.out _ _ rfl HKEY.out true HAT2.out ?_)
      exact ⟨KeepsFrom.refl _ _, ⟨Below.refl _ _, rfl, rfl, rfl⟩, ⟨⟨v, HV.out, by rw [offs_hit HHX.out]; exact HROW.out, trivial⟩, by rw [offs_hit HHX.out]; exact HMAP.out⟩, HK.out⟩
    · have hat2 := HAT.out
      rw [decide_eq_false hx] at hat2
      have HAT2 := Aside0.mk hat2
      have HHX := Aside0.mk hx
      clear hx hat2
      gi_wp2_with (first
        | (gi_at_lookup; refine lookup_b _ rfl _ _ 57 rfl 3 4 (Maps.int_keyed Try.underlying3) Try.underlying57 Try.underlying4 (Try.zeroValue4 _) (g9 + 1) (offsS pre).length _ rfl HMAP.out _ _ rfl HKEY.out false HAT2.out ?_)
        | (gi_at_mapUpdate; refine wpListIn_mapUpdate_own _ rfl _ _ _ 57 rfl 3 4 (Maps.int_keyed Try.underlying3) Try.underlying57 _ (g9 + 1) (offsS pre).length _ rfl HMAP.out (by have := hpl.out; unfold maxLen; omega) _ _ _ rfl rfl HKEY.out _ [] (plainElem_bool Try.underlying4 true) ?_; intro w4 hown1 hgrow1; have hne : v.ownBlock = none ∨ v.ownBlock ≠ some (g9 + 1) := (by rcases HROW.out.2 with ⟨rfl, _⟩ | ⟨g, cap, cur, rfl, hb, _, _⟩; (exact .inl rfl); (exact .inr (by have h1 := HLTS.out; simp [Value.ownBlock]; omega))); have HROW4 := Aside0.mk (HROW.out.kept hgrow1 hne); have HV4 := Aside0.mk (HV.out.kept hgrow1 (by simp)); have hc4 := HV4.out.cell; have HM4 := Aside0.mk hown1; have HKF := Aside0.mk (KeepsFrom.of_grownBy (B := w3.heap.size) hgrow1 (fun j e => by have h1 := HLTS.out; cases e; omega)); have HKM := Aside0.mk ((Kp.refl Wx (fun k => k = g9 + 1)).grown hgrow1 (fun k hk => .inl (by cases hk; rfl))); clear hne hown1 hgrow1)
        | (gi_at_builtin; refine wpListIn_append_own _ rfl _ _ 35 rfl w3.heap.size 3 i0 (.int .i64 0) 1 8 Try.underlying35 hi0 hz0 hz1 hz2 rfl (by decide) _ _ _ rfl (HROW4.out.alloc _) ⟨w4.heap.size, 0, none⟩ 1 1 [.int .i64 x.1.2] rfl rfl (cell_one_new _ _ _) (by simp [Value.oneCell']) (by have := hpl.out; unfold maxLen; omega) (by have := hpl.out; omega) (by have := hsz.out; have := HKM.out.size; simp; omega) ?_; intro v' w5 hown' hgrow _; obtain ⟨g', cap', rfl⟩ := ownsRow_succ hown'; obtain ⟨hv1, hv2, hr2, hk2, hb2⟩ := appended2 HV4.out (by decide) HROW4.out hown' hgrow; have hc1 := hv1.cell; have hf1 := hv1.frozen; have HV2 := Aside0.mk hv2; have HR2 := Aside0.mk hr2; have HK2 := Aside0.mk hk2; have HB2 := Aside0.mk hb2; clear hv1 hv2 hr2 hk2 hb2 hown' hgrow))
      have hs1 := HB3.out.size
      have hs2 := hsz.out
      have hs3 := HLT1.out
      have hs5 := HLTS.out
      have hs6 := HKM.out.size
      have hkm : Kp Wx w4 (fun k => k = g9 ∨ k = g9 + 1 ∨ w3.heap.size ≤ k) := HKM.out.mono (fun k hk => .inr (.inl hk))
      have hkk := hkm.then_ HB2.out (fun k hk => hk.elim (fun h => .inl (.inl h)) (fun h => .inl (.inr (.inr h))))
      have hmp := HB2.out.block (g9 + 1) (by omega) (by omega)
      refine ⟨HKF.out.trans (HK2.out.from _), ⟨kp_below hkk (by omega) (fun k hk => by omega), hkk.block b1 (by omega) (by omega), hkk.block b2 (by omega) (by omega), hkk.block b3 (by omega) (by omega)⟩, ⟨⟨_, HV2.out, by rw [offs_miss HHX.out]; simpa using HR2.out, trivial⟩, ?_⟩, HK.out.then_ hkk (fun k hk => by omega)⟩
      rw [offs_miss HHX.out, seenD_snoc, List.length_append]
      obtain ⟨es, ck, hh, hrest⟩ := HM4.out
      exact ⟨es, ck, hmp.trans hh, hrest⟩
  case done =>
    rintro Dq ys Wx hDq rfl ⟨⟨⟨v, hv, hrow, _⟩, hmap⟩, hK⟩ hKd
    have hc := hv.cell
    clear hmap
    gi_wp2
    have hform : ∃ A' c', v = .slice A' (offsS ys).length c' := by
      rcases hrow.2 with ⟨h1, h2⟩ | ⟨g, cap, cur, h1, _⟩
      · exact ⟨none, 0, by rw [h1, h2]⟩
      · exact ⟨_, _, h1⟩
    obtain ⟨A', c', rfl⟩ := hform
    refine ⟨by simp, .inl ⟨_, _, rfl, run_takeDeferred hKd, ?_⟩⟩
    have hown := ownsRow_putObj hrow (.deferred none) hKd rfl
    obtain ⟨hR, hcap⟩ := own_ints rfl hown
    exact ⟨_, results_tmp2 rfl _ _ _, A', c', rfl, hR, hcap, Kp.below_of HB3.out (hK.grown (grownBy_putObj' Wx Dq (.deferred none)) (fun k hk => .inr (by cases hk; exact hDq))) (fun k hk => by have h1 := HLT1.out; omega)⟩
  case stop =>
    rintro Dq cq pre Wx _ _ h _
    exact h.elim
end Go.Proofs.Ytndcnhbcconbcaa.G
