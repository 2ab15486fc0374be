/- Edges appended in a region that draws its order. No condition. -/
import Derived.Test.YtdobjmbfkdfdcaaL3
import Derived.Deep.RegionLaw
import Derived.BigRegion
set_option linter.unusedVariables false
set_option linter.unusedSimpArgs false
namespace Go.Proofs.Ytdobjmbfkdfdcaa.G
open Go.RowKit Go.Proofs.Ytdobjmbfkdfdcaa.B Go.Proofs.YtdobjmbfkdfdcaaW.PrintWords Go.Proofs.YtdobjmbfkdfdcaaW.PrintLast Go.Proofs.YtdobjmbfkdfdcaaW.PrintMore

theorem R_empty33 {W : World} {base g : Nat} (h : W.heap[g]? = some (.cells #[] 33 (0, 0))) (hb : base ≤ g) : Kd.R k33 33 W base (fun _ => True) (.slice (some ⟨g, 0, none⟩) 0 0) [] :=
  ⟨fun _ _ => trivial, [], ⟨rfl, .inr ⟨g, 0, #[], rfl, hb, h, Nat.le_refl _, by unfold maxLen; omega, by simp, rfl⟩⟩, ⟨rfl, fun j p hj => by simp at hj⟩⟩
theorem C_blk33 {W : World} {g : Nat} {e : S33} (h : W.heap[g]? = some (.cells #[.int .i64 e.f0, .int .i64 e.f1, .int .i64 e.f2] 33 (0, 0))) : Kd.C k33 W (some ⟨g, 0, none⟩) 1 [e] := by
  refine ⟨rfl, by omega, fun _ => ⟨_, rfl, fun j p hj => ⟨_, rfl, k33_mk _ p, fun i u hu => ?_⟩⟩⟩
  show W.cell? ((⟨g, 0, none⟩ : Addr).add (j * 3 + i)) = _
  rw [add_plain, blk_cell h]
  match j, hj with
  | 0, hj =>
    obtain rfl : e = p := by simpa using hj
    rw [Nat.zero_mul, Nat.zero_add, ← hu]
    match i with
    | 0 => rfl
    | 1 => rfl
    | 2 => rfl
    | i + 3 => rfl
/-- append(v, l...) of edges, as one step of a region that draws. -/
theorem step_edges {ops : Array Oper} {o : Oper} {a : Act} {Q : Exit → Act → World → Prop} {Kc : Act → World → Prop} {W : World} (base : Nat) (hw : Region.wanted o (yielded ops a.tmps) = true) (s x : Operand)
    (ho : o.op = .call { callee := .builtin .append, args := #[s, x], argTypes := #[22, 22] })
    (v : Value) (xs ys : List S33) (A : Option Addr) (m c : Nat) (hs : a.eval s = v) (hx : a.eval x = .slice A m c) (HO : Kd.R k33 33 W base (fun _ => True) v xs) (HC : Kd.C k33 W A m ys) (hbase : base ≤ W.heap.size) (hl : xs.length + m ≤ 1000000)
    (h : ∀ v1 w1, Kd.R k33 33 w1 base (fun _ => True) v1 (xs ++ ys) → Below base W w1 → W.grownBy w1 v.ownBlock → Kc (a.put o.dst v1) w1) :
    if Region.wanted o (yielded ops a.tmps) = true then Oper.wp Try.prog o a W Kc Q else Kc (a.put o.dst undef) W :=
  Kd.R_append_rows_step k33 (w0 := W) base hw s x 22 33 (.agg #[.int .i64 0, .int .i64 0, .int .i64 0]) 24 ho Try.underlying22 info33 rfl (by show 0 < 3; decide) (by decide) v xs ys A m c (fun _ => True) (fun _ => False) hs hx HO HC (fun x cs hK => by rw [k33_open hK]; exact k33_mkM _ _ _ _) (fun _ h => h.elim) (fun _ _ => trivial) (Below.refl _ _) hbase (by omega) (fun v1 w1 h1 h2 h3 _ => h v1 w1 h1 h2 h3)
end Go.Proofs.Ytdobjmbfkdfdcaa.G
