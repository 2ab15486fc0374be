/- The closure of ctype.Same compares the next two parts. Its captured cells lie at their blocks. -/
import Derived.Test.YtmmgdifjiapbmaaHa
set_option linter.unusedVariables false
set_option linter.unusedSimpArgs false
namespace Go.Proofs.Ytmmgdifjiapbmaa.G
open Go.RowKit Go.Proofs.Ytmmgdifjiapbmaa.B Go.Proofs.YtmmgdifjiapbmaaW.PrintWords Go.Proofs.YtmmgdifjiapbmaaW.PrintLast Go.Proofs.YtmmgdifjiapbmaaW.PrintMore
/-! ### Same -/
mutual
def sameT : S24 → S24 → Bool
  | ⟨a, b, c, l⟩, ⟨a', b', c', l'⟩ => a == a' && b == b' && c.toList == c'.toList && sameL l l'
def sameL : List S24 → List S24 → Bool
  | [], [] => true
  | x :: l, y :: l' => sameT x y && sameL l l'
  | [], _ :: _ => false
  | _ :: _, [] => false
end
theorem sameL_iff : ∀ (l l' : List S24), sameL l l' = (decide (l.length = l'.length) && decide (∀ k, k < l.length → sameT (rd_T24 l k) (rd_T24 l' k) = true))
  | [], [] => by simp [sameL]
  | [], _ :: _ => by simp [sameL]
  | _ :: _, [] => by simp [sameL]
  | x :: l, y :: l' => by
    rw [sameL, sameL_iff l l', Bool.eq_iff_iff]
    simp only [Bool.and_eq_true, decide_eq_true_eq, List.length_cons]
    constructor
    · rintro ⟨h0, h1, h2⟩
      refine ⟨by omega, fun k hk => ?_⟩
      cases k with
      | zero => exact h0
      | succ k => exact h2 k (by omega)
    · rintro ⟨h1, h2⟩
      refine ⟨h2 0 (by omega), by omega, fun k hk => h2 (k + 1) (by omega)⟩

theorem same1_calls (n : Nat) (ih : ∀ (t u : S24) (A : Option Addr) (c : Nat) (B : Option Addr) (d : Nat) (w : World), SizeOf.sizeOf t < n → Kd.C k24 w A t.f3.length t.f3 → t.f3.length ≤ c → Kd.C k24 w B u.f3.length u.f3 → u.f3.length ≤ d →
      Calls Try.prog 11 #[.agg #[.int .i64 t.f0, .int .i64 t.f1, .string t.f2, .slice A t.f3.length c], .agg #[.int .i64 u.f0, .int .i64 u.f1, .string u.f2, .slice B u.f3.length d]] w fun e w' => e = .returned (.bool (sameT t u)) ∧ Below w.heap.size w w')
    (x u : S24) (A : Option Addr) (c : Nat) (B : Option Addr) (d : Nat) (k : Nat) (bi bu : Nat) (w : World) (hx : SizeOf.sizeOf x < n) (hC : ∀ w1 : World, Kp w w1 (· = bi) → Kd.C k24 w1 A x.f3.length x.f3) (hc : x.f3.length ≤ c)
    (hi : w.heap[bi]? = some (.cells #[.int .i64 ((k : Int) - 1)] 3 (0, 0))) (hu : w.heap[bu]? = some (.cells #[.int .i64 u.f0, .int .i64 u.f1, .string u.f2, .slice B u.f3.length d] 24 (0, 0)))
    (hne : bi ≠ bu) (hk : k < u.f3.length) (hD : ∀ w1 : World, Kp w w1 (· = bi) → Kd.C k24 w1 B u.f3.length u.f3) (hm : u.f3.length ≤ 9223372036854775807) :
    Calls Try.prog 27 #[.agg #[.int .i64 x.f0, .int .i64 x.f1, .string x.f2, .slice A x.f3.length c], .pointer (some ⟨bi, 0, none⟩), .pointer (some ⟨bu, 0, none⟩)] w fun e w' => e = .returned (.bool (sameT x (rd_T24 u.f3 k))) ∧
      w'.heap[bi]? = some (.cells #[.int .i64 (k : Int)] 3 (0, 0)) ∧ Kp w w' (· = bi) := by
  have hbi : bi < w.heap.size := blk_lt hi
  have hbu : bu < w.heap.size := blk_lt hu
  have hci : w.cell? ⟨bi, 0, none⟩ = some (.int .i64 ((k : Int) - 1)) := (blk_cell hi 0).trans rfl
  have hfi : w.frozen? ⟨bi, 0, none⟩ = false := blk_frozen hi 0
  have HI := Aside0.mk hi
  have HU := Aside0.mk hu
  have HC := Aside0.mk hC
  have HD := Aside0.mk hD
  have IH := Aside0.mk ih
  clear hi hu hC hD ih
  go_enter Try.func27, Try.ntmps27
  go_wp2_with fail
  have hW : Kp w ((w.setCell ⟨bi, 0, none⟩ (Value.int IntKind.i64 ↑k)).alloc (Obj.cells #[Value.int IntKind.i64 x.f0, Value.int IntKind.i64 x.f1, Value.string x.f2, Value.slice A x.f3.length c] 24)) (· = bi) := by
    exact Kp.alloc (Kp.setCell (S := (· = bi)) (Kp.refl _ _) (.inl rfl) _) _
  have hb3 := blk_new (w.setCell ⟨bi, 0, none⟩ (Value.int IntKind.i64 ↑k)) (Obj.cells #[Value.int IntKind.i64 x.f0, Value.int IntKind.i64 x.f1, Value.string x.f2, Value.slice A x.f3.length c] 24)
  have hbi1 := blk_alloc (blk_set HI.out 0 (Value.int IntKind.i64 ↑k)) (Obj.cells #[Value.int IntKind.i64 x.f0, Value.int IntKind.i64 x.f1, Value.string x.f2, Value.slice A x.f3.length c] 24)
  have hsz : (w.setCell ⟨bi, 0, none⟩ (Value.int IntKind.i64 ↑k)).heap.size = w.heap.size := by simp
  rw [hsz] at hb3
  generalize (w.setCell ⟨bi, 0, none⟩ (Value.int IntKind.i64 ↑k)).alloc (Obj.cells #[Value.int IntKind.i64 x.f0, Value.int IntKind.i64 x.f1, Value.string x.f2, Value.slice A x.f3.length c] 24) = W at hW hb3 hbi1 ⊢
  have c30 := cell4 hb3
  have ci : W.cell? ⟨bi, 0, none⟩ = some (.int .i64 (k : Int)) := (blk_cell hbi1 0).trans rfl
  have cu := (cell4 (blk_kp HU.out hW (fun h => hne h.symm))).2.2.2
  obtain ⟨ad, A3, c3, e, hx0, hx1, hx2, hx3, hl, hi3⟩ := at_T24 (HD.out W hW) k (by omega) (by omega)
  rw [Int.toNat_natCast] at hx0 hx1 hx2 hx3
  cases e
  have HA3 := Aside0.mk hi3
  have HCx := Aside0.mk (HC.out W hW)
  have HL3 := Aside0.mk hl
  have HW := Aside0.mk hW
  have HBI := Aside0.mk hbi1
  clear hi3 hl hci hfi hb3 hW hbi1
  go_still_tail 6, (by kernel_rfl)
  change wpList _ _ _ _ _ W.drew
  go_wp2_with fail
  refine (IH.out x (rd_T24 u.f3 k) _ _ _ _ W.drew hx (Kd.C_drew (HCx.out)) hc (Kd.C_drew HA3.out) HL3.out).mono ?_
  rintro e w2 ⟨rfl, hb2⟩
  have HB2 := Aside0.mk hb2
  clear hb2
  go_wp2_with fail
  go_ret
  exact ⟨rfl, blk_below (blk_drew HBI.out) HB2.out, (Kp.drew HW.out).below HB2.out⟩
end Go.Proofs.Ytmmgdifjiapbmaa.G
