/-
  No cell of these rows narrows 'for every input' (looked for: loops, veiled, ifaces, maps, wideKeys, modest, calm, conditions, laid).
  DERIVED. THE GIVEN ROWS OF THIS SEAT. 7 by the template 'for every input the law returns true; each argument reads behind the call as it read before'; 0 by the template 'total and deterministic' (their statements: YtmcecmcnbhhniaaTotals.lean).
  GIVEN WITH THE SEED: the statements are not yours to turn. If you find one false, say at which input.
  Laid BY PROGRAM, IN A SANDBOX (cutbox-rows.mjs): the forced cells as the released guide's own fill.sh prints them over the translation 0f38b165d8d3a466… (all of the seat's roots in one cut). By AI agents, Wed Nov 11 2026. No macro, syntax, notation, axiom, sorry.
-/
import Derived.Test.YtmcecmcnbhhniaaChecked
import GoSem.Claim
import GoSem.ClaimJoined
import GoSem.ClaimMapViews
import Derived.JoinedTies
import Derived.KernelRfl
namespace Go.Proofs.Ytmcecmcnbhhniaa
/- THE CELL 'sum', in the pinned program and in every row, IS THE sha256 OF THE DUMP (.gsa) THAT YtmcecmcnbhhniaaProg.lean LOADS. Nothing in Lean hashes anything: it is a label: what it is worth is what the hold of that sum in a sandbox is worth. -/
noncomputable def Try.pinned : Pinned := { name := "ytmcecmcnbhhniaa", sum := "0f38b165d8d3a4660c5397c12d775853d01e54935dbb3563917113839f2b884a", checked := Try.checked }
namespace Rows
def none {H : Type} : Left H := { results := [], args := [] }

/-- 'crosstreelaw13.NsetRuns': WHATEVER THE INPUT: true; the input reads as it did. -/
def nsetRunsSpec : ChangeSpec := { name := "nsetRuns", fn := fun _ => fun
  | [d1, d2, d3] => { results := [.lit (.bool true)], args := [d1, d2, d3] }
  | _ => none }
def nsetRunsRow : OpenClaim := { program := "ytmcecmcnbhhniaa", sum := "0f38b165d8d3a4660c5397c12d775853d01e54935dbb3563917113839f2b884a", func := "crosstree/crosstreelaw13.NsetRuns", spec := "nsetRuns", inPlace := ["slices.overlaps[crosstree/nset.span]"], unfollowed := true, recurses := true, apart := false }
def NsetRunsSaid : Prop := nsetRunsRow.holds Try.pinned (OpenSpec.ofChange nsetRunsSpec)

/-- ITS FALSE NEIGHBOUR: 'it returns false'. Refute it at one input. -/
def nsetRunsWrong : ChangeSpec := { name := "nsetRuns", fn := fun _ => fun
  | [d1, d2, d3] => { results := [.lit (.bool false)], args := [d1, d2, d3] }
  | _ => none }
def NsetRunsWrongFalsely : Prop := nsetRunsRow.holds Try.pinned (OpenSpec.ofChange nsetRunsWrong)

/-- 'crosstreelaw13.NsetAdds': WHATEVER THE INPUT: true; the input reads as it did. -/
def nsetAddsSpec : ChangeSpec := { name := "nsetAdds", fn := fun _ => fun
  | [d1, d2] => { results := [.lit (.bool true)], args := [d1, d2] }
  | _ => none }
def nsetAddsRow : OpenClaim := { program := "ytmcecmcnbhhniaa", sum := "0f38b165d8d3a4660c5397c12d775853d01e54935dbb3563917113839f2b884a", func := "crosstree/crosstreelaw13.NsetAdds", spec := "nsetAdds", inPlace := ["slices.overlaps[crosstree/nset.span]"], unfollowed := true, recurses := true, apart := false }
def NsetAddsSaid : Prop := nsetAddsRow.holds Try.pinned (OpenSpec.ofChange nsetAddsSpec)

/-- ITS FALSE NEIGHBOUR: 'it returns false'. Refute it at one input. -/
def nsetAddsWrong : ChangeSpec := { name := "nsetAdds", fn := fun _ => fun
  | [d1, d2] => { results := [.lit (.bool false)], args := [d1, d2] }
  | _ => none }
def NsetAddsWrongFalsely : Prop := nsetAddsRow.holds Try.pinned (OpenSpec.ofChange nsetAddsWrong)

/-- 'crosstreelaw13.NsetSpans': WHATEVER THE INPUT: true; the input reads as it did. -/
def nsetSpansSpec : ChangeSpec := { name := "nsetSpans", fn := fun _ => fun
  | [d1, d2, d3] => { results := [.lit (.bool true)], args := [d1, d2, d3] }
  | _ => none }
def nsetSpansRow : OpenClaim := { program := "ytmcecmcnbhhniaa", sum := "0f38b165d8d3a4660c5397c12d775853d01e54935dbb3563917113839f2b884a", func := "crosstree/crosstreelaw13.NsetSpans", spec := "nsetSpans", inPlace := ["slices.overlaps[crosstree/nset.span]"], unfollowed := true, recurses := true, apart := false }
def NsetSpansSaid : Prop := nsetSpansRow.holds Try.pinned (OpenSpec.ofChange nsetSpansSpec)

/-- ITS FALSE NEIGHBOUR: 'it returns false'. Refute it at one input. -/
def nsetSpansWrong : ChangeSpec := { name := "nsetSpans", fn := fun _ => fun
  | [d1, d2, d3] => { results := [.lit (.bool false)], args := [d1, d2, d3] }
  | _ => none }
def NsetSpansWrongFalsely : Prop := nsetSpansRow.holds Try.pinned (OpenSpec.ofChange nsetSpansWrong)

/-- 'crosstreelaw13.NsetMinus': WHATEVER THE INPUT: true; the input reads as it did. -/
def nsetMinusSpec : ChangeSpec := { name := "nsetMinus", fn := fun _ => fun
  | [d1, d2, d3] => { results := [.lit (.bool true)], args := [d1, d2, d3] }
  | _ => none }
def nsetMinusRow : OpenClaim := { program := "ytmcecmcnbhhniaa", sum := "0f38b165d8d3a4660c5397c12d775853d01e54935dbb3563917113839f2b884a", func := "crosstree/crosstreelaw13.NsetMinus", spec := "nsetMinus", inPlace := ["slices.overlaps[crosstree/nset.span]"], unfollowed := true, recurses := true, apart := false }
def NsetMinusSaid : Prop := nsetMinusRow.holds Try.pinned (OpenSpec.ofChange nsetMinusSpec)

/-- ITS FALSE NEIGHBOUR: 'it returns false'. Refute it at one input. -/
def nsetMinusWrong : ChangeSpec := { name := "nsetMinus", fn := fun _ => fun
  | [d1, d2, d3] => { results := [.lit (.bool false)], args := [d1, d2, d3] }
  | _ => none }
def NsetMinusWrongFalsely : Prop := nsetMinusRow.holds Try.pinned (OpenSpec.ofChange nsetMinusWrong)

/-- 'crosstreelaw13.NsetUnions': WHATEVER THE INPUT: true; the input reads as it did. -/
def nsetUnionsSpec : ChangeSpec := { name := "nsetUnions", fn := fun _ => fun
  | [d1, d2] => { results := [.lit (.bool true)], args := [d1, d2] }
  | _ => none }
def nsetUnionsRow : OpenClaim := { program := "ytmcecmcnbhhniaa", sum := "0f38b165d8d3a4660c5397c12d775853d01e54935dbb3563917113839f2b884a", func := "crosstree/crosstreelaw13.NsetUnions", spec := "nsetUnions", inPlace := ["slices.overlaps[crosstree/nset.span]"], unfollowed := true, recurses := true, apart := false }
def NsetUnionsSaid : Prop := nsetUnionsRow.holds Try.pinned (OpenSpec.ofChange nsetUnionsSpec)

/-- ITS FALSE NEIGHBOUR: 'it returns false'. Refute it at one input. -/
def nsetUnionsWrong : ChangeSpec := { name := "nsetUnions", fn := fun _ => fun
  | [d1, d2] => { results := [.lit (.bool false)], args := [d1, d2] }
  | _ => none }
def NsetUnionsWrongFalsely : Prop := nsetUnionsRow.holds Try.pinned (OpenSpec.ofChange nsetUnionsWrong)

/-- 'crosstreelaw13.NsetBoth': WHATEVER THE INPUT: true; the input reads as it did. -/
def nsetBothSpec : ChangeSpec := { name := "nsetBoth", fn := fun _ => fun
  | [d1, d2] => { results := [.lit (.bool true)], args := [d1, d2] }
  | _ => none }
def nsetBothRow : OpenClaim := { program := "ytmcecmcnbhhniaa", sum := "0f38b165d8d3a4660c5397c12d775853d01e54935dbb3563917113839f2b884a", func := "crosstree/crosstreelaw13.NsetBoth", spec := "nsetBoth", inPlace := ["slices.overlaps[crosstree/nset.span]"], unfollowed := true, recurses := true, apart := false }
def NsetBothSaid : Prop := nsetBothRow.holds Try.pinned (OpenSpec.ofChange nsetBothSpec)

/-- ITS FALSE NEIGHBOUR: 'it returns false'. Refute it at one input. -/
def nsetBothWrong : ChangeSpec := { name := "nsetBoth", fn := fun _ => fun
  | [d1, d2] => { results := [.lit (.bool false)], args := [d1, d2] }
  | _ => none }
def NsetBothWrongFalsely : Prop := nsetBothRow.holds Try.pinned (OpenSpec.ofChange nsetBothWrong)

/-- 'crosstreelaw13.NsetNobody': WHATEVER THE INPUT: true; the input reads as it did. -/
def nsetNobodySpec : ChangeSpec := { name := "nsetNobody", fn := fun _ => fun
  | [d] => { results := [.lit (.bool true)], args := [d] }
  | _ => none }
def nsetNobodyRow : OpenClaim := { program := "ytmcecmcnbhhniaa", sum := "0f38b165d8d3a4660c5397c12d775853d01e54935dbb3563917113839f2b884a", func := "crosstree/crosstreelaw13.NsetNobody", spec := "nsetNobody", inPlace := ["slices.overlaps[crosstree/nset.span]"], unfollowed := true, recurses := true, apart := false }
def NsetNobodySaid : Prop := nsetNobodyRow.holds Try.pinned (OpenSpec.ofChange nsetNobodySpec)

/-- ITS FALSE NEIGHBOUR: 'it returns false'. Refute it at one input. -/
def nsetNobodyWrong : ChangeSpec := { name := "nsetNobody", fn := fun _ => fun
  | [d] => { results := [.lit (.bool false)], args := [d] }
  | _ => none }
def NsetNobodyWrongFalsely : Prop := nsetNobodyRow.holds Try.pinned (OpenSpec.ofChange nsetNobodyWrong)

/- THE SECOND FORM. 'bulk': how many values and letters a reading holds, each counted each time it is reached (what is shared counts as often as it is met; a slice's spare places count too). A statement '..UptoSaid' is the law's where the arguments, and the package variables that the reading takes, are together of bulk at most 1048576: NARROWER than '..Said'. Prove '..Said' where nothing that the law and all that it calls make is longer than what came in: it says more and counts as full. Else prove '..UptoSaid'. A law counts once. -/
mutual
def uptoBulk {H : Type} : DataW H → Nat
  | .lit (.string bytes) => bytes.length + 1
  | .lit _ => 1
  | .nil => 1
  | .ptr d => uptoBulk d + 1
  | .slice elems spare => uptoBulkAll elems + uptoBulkAll spare + 1
  | .agg parts => uptoBulkAll parts + 1
  | .iface _ d => uptoBulk d + 1
  | .map entries => uptoBulkEntries entries + 1
  | .held _ => 1
def uptoBulkAll {H : Type} : List (DataW H) → Nat
  | [] => 0
  | d :: r => uptoBulk d + uptoBulkAll r
def uptoBulkEntries {H : Type} : List (Lit × DataW H) → Nat
  | [] => 0
  | x :: r => uptoBulkEntry x + uptoBulkEntries r
def uptoBulkEntry {H : Type} : Lit × DataW H → Nat
  | (.string bytes, d) => bytes.length + uptoBulk d + 1
  | (_, d) => uptoBulk d + 1
 end
def uptoSmall : (H : Type) → List (DataW H) → Bool := fun _ ds => decide (uptoBulkAll ds ≤ 1048576)
def OpenSpec.upto (s : _root_.Go.ChangeSpec) : _root_.Go.OpenSpec := { _root_.Go.OpenSpec.ofChange s with cond := some uptoSmall }

/-- 'crosstreelaw13.NsetRuns', WHERE WHAT IT READS IS OF BULK AT MOST 1048576: true; the input reads as it did. -/
def nsetRunsUptoRow : OpenClaim := { program := "ytmcecmcnbhhniaa", sum := "0f38b165d8d3a4660c5397c12d775853d01e54935dbb3563917113839f2b884a", func := "crosstree/crosstreelaw13.NsetRuns", spec := "nsetRuns", inPlace := ["slices.overlaps[crosstree/nset.span]"], unfollowed := true, recurses := true, apart := false, narrowed := true }
def NsetRunsUptoSaid : Prop := nsetRunsUptoRow.holds Try.pinned (OpenSpec.upto nsetRunsSpec)

/-- 'crosstreelaw13.NsetAdds', WHERE WHAT IT READS IS OF BULK AT MOST 1048576: true; the input reads as it did. -/
def nsetAddsUptoRow : OpenClaim := { program := "ytmcecmcnbhhniaa", sum := "0f38b165d8d3a4660c5397c12d775853d01e54935dbb3563917113839f2b884a", func := "crosstree/crosstreelaw13.NsetAdds", spec := "nsetAdds", inPlace := ["slices.overlaps[crosstree/nset.span]"], unfollowed := true, recurses := true, apart := false, narrowed := true }
def NsetAddsUptoSaid : Prop := nsetAddsUptoRow.holds Try.pinned (OpenSpec.upto nsetAddsSpec)

/-- 'crosstreelaw13.NsetSpans', WHERE WHAT IT READS IS OF BULK AT MOST 1048576: true; the input reads as it did. -/
def nsetSpansUptoRow : OpenClaim := { program := "ytmcecmcnbhhniaa", sum := "0f38b165d8d3a4660c5397c12d775853d01e54935dbb3563917113839f2b884a", func := "crosstree/crosstreelaw13.NsetSpans", spec := "nsetSpans", inPlace := ["slices.overlaps[crosstree/nset.span]"], unfollowed := true, recurses := true, apart := false, narrowed := true }
def NsetSpansUptoSaid : Prop := nsetSpansUptoRow.holds Try.pinned (OpenSpec.upto nsetSpansSpec)

/-- 'crosstreelaw13.NsetMinus', WHERE WHAT IT READS IS OF BULK AT MOST 1048576: true; the input reads as it did. -/
def nsetMinusUptoRow : OpenClaim := { program := "ytmcecmcnbhhniaa", sum := "0f38b165d8d3a4660c5397c12d775853d01e54935dbb3563917113839f2b884a", func := "crosstree/crosstreelaw13.NsetMinus", spec := "nsetMinus", inPlace := ["slices.overlaps[crosstree/nset.span]"], unfollowed := true, recurses := true, apart := false, narrowed := true }
def NsetMinusUptoSaid : Prop := nsetMinusUptoRow.holds Try.pinned (OpenSpec.upto nsetMinusSpec)

/-- 'crosstreelaw13.NsetUnions', WHERE WHAT IT READS IS OF BULK AT MOST 1048576: true; the input reads as it did. -/
def nsetUnionsUptoRow : OpenClaim := { program := "ytmcecmcnbhhniaa", sum := "0f38b165d8d3a4660c5397c12d775853d01e54935dbb3563917113839f2b884a", func := "crosstree/crosstreelaw13.NsetUnions", spec := "nsetUnions", inPlace := ["slices.overlaps[crosstree/nset.span]"], unfollowed := true, recurses := true, apart := false, narrowed := true }
def NsetUnionsUptoSaid : Prop := nsetUnionsUptoRow.holds Try.pinned (OpenSpec.upto nsetUnionsSpec)

/-- 'crosstreelaw13.NsetBoth', WHERE WHAT IT READS IS OF BULK AT MOST 1048576: true; the input reads as it did. -/
def nsetBothUptoRow : OpenClaim := { program := "ytmcecmcnbhhniaa", sum := "0f38b165d8d3a4660c5397c12d775853d01e54935dbb3563917113839f2b884a", func := "crosstree/crosstreelaw13.NsetBoth", spec := "nsetBoth", inPlace := ["slices.overlaps[crosstree/nset.span]"], unfollowed := true, recurses := true, apart := false, narrowed := true }
def NsetBothUptoSaid : Prop := nsetBothUptoRow.holds Try.pinned (OpenSpec.upto nsetBothSpec)

/-- 'crosstreelaw13.NsetNobody', WHERE WHAT IT READS IS OF BULK AT MOST 1048576: true; the input reads as it did. -/
def nsetNobodyUptoRow : OpenClaim := { program := "ytmcecmcnbhhniaa", sum := "0f38b165d8d3a4660c5397c12d775853d01e54935dbb3563917113839f2b884a", func := "crosstree/crosstreelaw13.NsetNobody", spec := "nsetNobody", inPlace := ["slices.overlaps[crosstree/nset.span]"], unfollowed := true, recurses := true, apart := false, narrowed := true }
def NsetNobodyUptoSaid : Prop := nsetNobodyUptoRow.holds Try.pinned (OpenSpec.upto nsetNobodySpec)

end Rows
end Go.Proofs.Ytmcecmcnbhhniaa
