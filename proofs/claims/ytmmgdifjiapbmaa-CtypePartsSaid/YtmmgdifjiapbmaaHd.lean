/- ctype.Number, Scalar, void, the reference's Number, Scalar, Width, Pointer and the law's to, as plain functions. The arguments read as types. -/
import Derived.Test.YtmmgdifjiapbmaaHc
set_option linter.unusedVariables false
set_option linter.unusedSimpArgs false
namespace Go.Proofs.Ytmmgdifjiapbmaa.G
open Go.RowKit Go.Proofs.Ytmmgdifjiapbmaa.B Go.Proofs.YtmmgdifjiapbmaaW.PrintWords Go.Proofs.YtmmgdifjiapbmaaW.PrintLast Go.Proofs.YtmmgdifjiapbmaaW.PrintMore

def isNum (a : Int) : Bool := decide (2 ≤ a) && decide (a ≤ 4)
def isSc (a : Int) : Bool := decide (2 ≤ a) && decide (a ≤ 5)
def widthT (a : Int) : Int := if a = 2 then 1 else if a = 3 then 4 else if a = 4 then 8 else if a = 5 then 8 else 0

theorem number_calls (a b : Int) (s : ByteArray) (A : Option Addr) (n c : Nat) (w : World) :
    Calls Try.prog 16 #[.agg #[.int .i64 a, .int .i64 b, .string s, .slice A n c]] w fun e w' => e = .returned (.bool (isNum a)) ∧ Below w.heap.size w w' := by
  by_cases h1 : 2 ≤ a
  · by_cases h2 : a ≤ 4
    all_goals
      go_enter Try.func16, Try.ntmps16
      go_wp2
      go_ret
      exact ⟨ret_bool (by simp [isNum]; omega), (Below.refl _ _).alloc (Nat.le_refl _) _⟩
  · go_enter Try.func16, Try.ntmps16
    go_wp2
    go_ret
    exact ⟨ret_bool (by simp [isNum]; omega), (Below.refl _ _).alloc (Nat.le_refl _) _⟩
theorem scalar_calls (a b : Int) (s : ByteArray) (A : Option Addr) (n c : Nat) (w : World) :
    Calls Try.prog 17 #[.agg #[.int .i64 a, .int .i64 b, .string s, .slice A n c]] w fun e w' => e = .returned (.bool (isSc a)) ∧ Below w.heap.size w w' := by
  by_cases h1 : 2 ≤ a
  · by_cases h2 : a ≤ 5
    all_goals
      go_enter Try.func17, Try.ntmps17
      go_wp2
      go_ret
      exact ⟨ret_bool (by simp [isSc]; omega), (Below.refl _ _).alloc (Nat.le_refl _) _⟩
  · go_enter Try.func17, Try.ntmps17
    go_wp2
    go_ret
    exact ⟨ret_bool (by simp [isSc]; omega), (Below.refl _ _).alloc (Nat.le_refl _) _⟩
theorem number_ref (a b : Int) (s : ByteArray) (A : Option Addr) (n c : Nat) (w : World) :
    Calls Try.prog 23 #[.agg #[.int .i64 a, .int .i64 b, .string s, .slice A n c]] w fun e w' => e = .returned (.bool (isNum a)) ∧ Below w.heap.size w w' := by
  by_cases h1 : a = 2
  · subst h1
    go_enter Try.func23, Try.ntmps23
    go_wp2
    go_ret
    exact ⟨ret_bool (by decide), (Below.refl _ _).alloc (Nat.le_refl _) _⟩
  by_cases h2 : a = 3
  · subst h2
    go_enter Try.func23, Try.ntmps23
    go_wp2
    go_ret
    exact ⟨ret_bool (by decide), (Below.refl _ _).alloc (Nat.le_refl _) _⟩
  have e1 : (a == 2) = false := beq_eq_false_iff_ne.mpr h1
  have e2 : (a == 3) = false := beq_eq_false_iff_ne.mpr h2
  by_cases h3 : a = 4
  · subst h3
    go_enter Try.func23, Try.ntmps23
    go_wp2
    go_ret
    exact ⟨ret_bool (by decide), (Below.refl _ _).alloc (Nat.le_refl _) _⟩
  have e3 : (a == 4) = false := beq_eq_false_iff_ne.mpr h3
  have hr : isNum a = false := by simp [isNum]; omega
  rw [hr]
  clear h1 h2 h3 hr
  go_enter Try.func23, Try.ntmps23
  go_wp2
  go_ret
  exact ⟨ret_bool (by first | rfl | simp [e3]), (Below.refl _ _).alloc (Nat.le_refl _) _⟩
theorem scalar_ref (a b : Int) (s : ByteArray) (A : Option Addr) (n c : Nat) (w : World) :
    Calls Try.prog 24 #[.agg #[.int .i64 a, .int .i64 b, .string s, .slice A n c]] w fun e w' => e = .returned (.bool (isSc a)) ∧ Below w.heap.size w w' := by
  cases hn : isNum a with
  | true =>
    have HN := Aside0.mk hn
    have hs : isSc a = true := by simp [isNum] at hn; simp [isSc]; omega
    rw [hs]
    clear hs hn
    go_enter Try.func24, Try.ntmps24
    go_wp2_with fail
    refine (number_ref _ _ _ _ _ _ _).mono ?_
    rintro e w1 ⟨rfl, hb⟩
    have HB := Aside0.mk hb
    clear hb
    have hn := HN.out
    go_wp2_with fail
    go_ret
    exact ⟨rfl, ((Below.refl _ _).alloc (Nat.le_refl _) _).trans (HB.out.mono (by simp))⟩
  | false =>
    have HN := Aside0.mk hn
    have hs : isSc a = (a == 5) := by
      rw [Bool.eq_iff_iff]
      simp [isNum] at hn
      simp [isSc]
      omega
    rw [hs]
    clear hs hn
    go_enter Try.func24, Try.ntmps24
    go_wp2_with fail
    refine (number_ref _ _ _ _ _ _ _).mono ?_
    rintro e w1 ⟨rfl, hb⟩
    have hc0 := hb.cell (p := ⟨w.heap.size, 0, none⟩) (by simp)
    have HB := Aside0.mk hb
    clear hb
    have hn := HN.out
    go_wp2_with fail
    go_ret
    exact ⟨rfl, ((Below.refl _ _).alloc (Nat.le_refl _) _).trans (HB.out.mono (by simp))⟩
theorem width_ref (a b : Int) (s : ByteArray) (A : Option Addr) (n c : Nat) (w : World) :
    Calls Try.prog 25 #[.agg #[.int .i64 a, .int .i64 b, .string s, .slice A n c]] w fun e w' => e = .returned (.int .i64 (widthT a)) ∧ Below w.heap.size w w' := by
  go_enter Try.func25, Try.ntmps25
  go_wp2
  all_goals
    go_ret
    refine ⟨ret_int ?_, (Below.refl _ _).alloc (Nat.le_refl _) _⟩
    simp_all [widthT]
theorem void_calls (x : S24) (A : Option Addr) (c : Nat) (w : World) (hC : Kd.C k24 w A x.f3.length x.f3) :
    Calls Try.prog 28 #[.agg #[.int .i64 x.f0, .int .i64 x.f1, .string x.f2, .slice A x.f3.length c]] w fun e w' => e = .returned (.bool (decide (x.f3.length = 1) && decide ((rd_T24 x.f3 0).f0 = 1))) ∧ Below w.heap.size w w' := by
  by_cases h1 : x.f3.length = 1
  · obtain ⟨ad, A3, c3, e, hx0, hx1, hx2, hx3, hl, hi⟩ := at_T24 hC 0 (by omega) (by omega)
    cases e
    have e1 : ((x.f3.length : Int) == 1) = true := beq_iff_eq.mpr (by omega)
    rw [show (decide (x.f3.length = 1) && decide ((rd_T24 x.f3 0).f0 = 1)) = ((rd_T24 x.f3 0).f0 == 1) by simp [h1]; rfl]
    simp only [show (0 : Int).toNat * 4 = 0 from rfl, Addr.add_zero'] at hx0 hx1 hx2 hx3
    have h0 : 0 < x.f3.length := by omega
    have hlt := World.block_lt_of_cell? w _ hx0
    clear h1 hC hi
    go_enter Try.func28, Try.ntmps28
    go_wp2
    go_ret
    exact ⟨rfl, (Below.refl _ _).alloc (Nat.le_refl _) _⟩
  · have e1 : ((x.f3.length : Int) == 1) = false := beq_eq_false_iff_ne.mpr (by omega)
    rw [show (decide (x.f3.length = 1) && decide ((rd_T24 x.f3 0).f0 = 1)) = false by simp [h1]]
    clear h1 hC
    go_enter Try.func28, Try.ntmps28
    go_wp2
    go_ret
    exact ⟨rfl, (Below.refl _ _).alloc (Nat.le_refl _) _⟩

/-! ### Results that are types -/
theorem C_one {w : World} {x : S24} {g : Nat} {A : Option Addr} {c : Nat} (hb : w.heap[g]? = some (.cells #[.int .i64 x.f0, .int .i64 x.f1, .string x.f2, .slice A x.f3.length c] 24 (0, 0))) (hl : x.f3.length ≤ c) (hC : Kd.C k24 w A x.f3.length x.f3) :
    Kd.C k24 w (some ⟨g, 0, none⟩) 1 [x] := by
  refine ⟨rfl, by omega, fun _ => ⟨_, rfl, fun j p hj => ?_⟩⟩
  match j, hj with
  | 0, hj =>
    obtain rfl : x = p := by simpa using hj
    refine ⟨_, rfl, k24_mk w x hl hC, fun i u hu => ?_⟩
    rw [Nat.zero_mul, Nat.zero_add, add_plain]
    rw [blk_cell hb i]
    simpa using hu
theorem atF24 {w : World} {ok : Nat → Prop} {A : Option Addr} {xs : List S24} (h : Kd.F k24 w ok A xs.length xs) (i : Nat) (h1 : i < xs.length) :
    ∃ ad A3 c3, A = some ad ∧ ad.block < w.heap.size ∧ w.cell? (ad.add (i * 4)) = some (.int .i64 (rd_T24 xs i).f0) ∧ w.cell? ⟨(ad.add (i * 4)).block, (ad.add (i * 4)).off + 1, none⟩ = some (.int .i64 (rd_T24 xs i).f1) ∧
      w.cell? ⟨(ad.add (i * 4)).block, (ad.add (i * 4)).off + 2, none⟩ = some (.string (rd_T24 xs i).f2) ∧ w.cell? ⟨(ad.add (i * 4)).block, (ad.add (i * 4)).off + 3, none⟩ = some (.slice A3 (rd_T24 xs i).f3.length c3) ∧ (rd_T24 xs i).f3.length ≤ c3 ∧ Kd.F k24 w ok A3 (rd_T24 xs i).f3.length (rd_T24 xs i).f3 := by
  obtain ⟨ad, cs, e, hcl, hFK, hcc, _⟩ := Kd.F_get h z24 i (by omega) (by omega)
  obtain ⟨A3, c3, rfl, l3, g3⟩ := k24_openF hFK
  have hc : ∀ j u, [Value.int .i64 (rd_T24 xs i).f0, .int .i64 (rd_T24 xs i).f1, .string (rd_T24 xs i).f2, .slice A3 (rd_T24 xs i).f3.length c3][j]? = some u → w.cell? (ad.add (i * 4 + j)) = some u := fun j u hj => by
    have := hcc j u hj
    rw [Int.toNat_natCast] at this
    exact this
  have h0 := hc 0 _ rfl
  refine ⟨ad, A3, c3, e, ?_, h0, by rw [← add_field _ _ 1 (by omega)]; exact hc 1 _ rfl, by rw [← add_field _ _ 2 (by omega)]; exact hc 2 _ rfl, by rw [← add_field _ _ 3 (by omega)]; exact hc 3 _ rfl, l3, g3⟩
  have := World.block_lt_of_cell? w _ h0
  unfold Addr.add at this
  split at this <;> exact this
theorem F_one {w : World} {x : S24} {g : Nat} {A : Option Addr} {c : Nat} {ok : Nat → Prop} (hb : w.heap[g]? = some (.cells #[.int .i64 x.f0, .int .i64 x.f1, .string x.f2, .slice A x.f3.length c] 24 (0, 0))) (hl : x.f3.length ≤ c) (hF : Kd.F k24 w ok A x.f3.length x.f3) :
    Kd.F k24 w (fun k => ok k ∨ k = g) (some ⟨g, 0, none⟩) 1 [x] := fun W' hW =>
  C_one ((hW g (.inr rfl) (blk_lt hb)).trans hb) hl (hF W' (fun k hk hlt => hW k (.inl hk) hlt))
def mkP (x : S24) : S24 := ⟨5, 0, ⟨#[]⟩, [x]⟩
def decayT (t : S24) : S24 := if t.f0 = 6 ∧ 0 < t.f3.length then mkP (rd_T24 t.f3 0) else if t.f0 = 9 then mkP t else t
theorem to_calls (a : Int) (w : World) :
    Calls Try.prog 15 #[.int .i64 a] w fun e w' => ∃ A c, e = .returned (.agg #[.int .i64 5, .int .i64 0, .string ⟨#[]⟩, .slice A 1 c]) ∧ 1 ≤ c ∧ Kd.F k24 w' (fun k => w.heap.size ≤ k) A 1 [⟨a, 0, ⟨#[]⟩, []⟩] ∧ Below w.heap.size w w' := by
  go_enter Try.func15, Try.ntmps15
  go_wp2
  refine bodyPost_ret (v := .agg #[.int .i64 5, .int .i64 0, .string ⟨#[]⟩, .slice (some ⟨w.heap.size + 1, 0, none⟩) 1 1]) (by simp [results, Try.results15, go_sem]) rfl ⟨_, _, rfl, Nat.le_refl _, ?_, ?_⟩
  · exact Kd.F_mono (F_one (x := ⟨a, 0, ⟨#[]⟩, []⟩) (blk_at_ _ (by simp)) (Nat.le_refl _) (Kd.F_nil k24 _ (fun _ => False))) (fun k hk => by rcases hk with hk | hk; exact hk.elim; omega)
  · exact ((Below.refl _ _).alloc (Nat.le_refl _) _).alloc (by simp) _
theorem pointer_ref (x : S24) (A : Option Addr) (c : Nat) (ok : Nat → Prop) (w : World) (hC : Kd.F k24 w ok A x.f3.length x.f3) (hl : x.f3.length ≤ c) :
    Calls Try.prog 30 #[.agg #[.int .i64 x.f0, .int .i64 x.f1, .string x.f2, .slice A x.f3.length c]] w fun e w' => ∃ A c, e = .returned (.agg #[.int .i64 5, .int .i64 0, .string ⟨#[]⟩, .slice A 1 c]) ∧ 1 ≤ c ∧ Kd.F k24 w' (fun k => ok k ∨ w.heap.size ≤ k) A 1 [x] ∧ Below w.heap.size w w' := by
  go_enter Try.func30, Try.ntmps30
  go_wp2
  have hB : Below w.heap.size w (((w.alloc (.cells #[.int .i64 x.f0, .int .i64 x.f1, .string x.f2, .slice A x.f3.length c] 24)).alloc (.cells #[.int .i64 5, .int .i64 0, .string ⟨#[]⟩, .slice (some ⟨w.heap.size + 1 + 1, 0, none⟩) 1 1] 24)).alloc (.cells #[.int .i64 x.f0, .int .i64 x.f1, .string x.f2, .slice A x.f3.length c] 24)) := (((Below.refl _ _).alloc (Nat.le_refl _) _).alloc (by simp) _).alloc (by simp; omega) _
  refine bodyPost_ret (v := .agg #[.int .i64 5, .int .i64 0, .string ⟨#[]⟩, .slice (some ⟨w.heap.size + 1 + 1, 0, none⟩) 1 1]) (by simp [results, Try.results30, go_sem]) rfl ⟨_, _, rfl, Nat.le_refl _, ?_, hB⟩
  exact Kd.F_mono (F_one (blk_at_ _ (by simp)) hl (Kd.F_below hC hB)) (fun k hk => hk.imp id (fun e => by omega))
end Go.Proofs.Ytmmgdifjiapbmaa.G
