/-
  No cell of these rows narrows 'for every input' (looked for: loops, veiled, ifaces, maps, wideKeys, modest, calm, conditions, laid).
  DERIVED. THE GIVEN ROWS OF THIS SEAT. 6 by the template 'for every input the law returns true; each argument reads behind the call as it read before'; 0 by the template 'total and deterministic' (their statements: YtdobjmbfkdfdcaaTotals.lean).
  GIVEN WITH THE SEED: the statements are not yours to turn. If you find one false, say at which input.
  Laid BY PROGRAM, IN A SANDBOX (cutbox-rows.mjs): the forced cells as the released guide's own fill.sh prints them over the translation 0cd665982ef69fbc… (all of the seat's roots in one cut). By AI agents, Wed Nov 11 2026. No macro, syntax, notation, axiom, sorry.
-/
import Derived.Test.YtdobjmbfkdfdcaaChecked
import GoSem.Claim
import GoSem.ClaimJoined
import GoSem.ClaimMapViews
import Derived.JoinedTies
import Derived.KernelRfl
namespace Go.Proofs.Ytdobjmbfkdfdcaa
/- THE CELL 'sum', in the pinned program and in every row, IS THE sha256 OF THE DUMP (.gsa) THAT YtdobjmbfkdfdcaaProg.lean LOADS. Nothing in Lean hashes anything: it is a label: what it is worth is what the hold of that sum in a sandbox is worth. -/
noncomputable def Try.pinned : Pinned := { name := "ytdobjmbfkdfdcaa", sum := "0cd665982ef69fbc11f9aecc96b9729236c2df6dcd52efc57ca3b33037ef126c", checked := Try.checked }
namespace Rows
def none {H : Type} : Left H := { results := [], args := [] }

/-- 'crosstreelaw15.SccGroups': WHATEVER THE INPUT: true; the input reads as it did. -/
def sccGroupsSpec : ChangeSpec := { name := "sccGroups", fn := fun _ => fun
  | [d1, d2] => { results := [.lit (.bool true)], args := [d1, d2] }
  | _ => none }
def sccGroupsRow : OpenClaim := { program := "ytdobjmbfkdfdcaa", sum := "0cd665982ef69fbc11f9aecc96b9729236c2df6dcd52efc57ca3b33037ef126c", func := "crosstree/crosstreelaw15.SccGroups", spec := "sccGroups", unfollowed := true, recurses := true, apart := false }
def SccGroupsSaid : Prop := sccGroupsRow.holds Try.pinned (OpenSpec.ofChange sccGroupsSpec)

/-- ITS FALSE NEIGHBOUR: 'it returns false'. Refute it at one input. -/
def sccGroupsWrong : ChangeSpec := { name := "sccGroups", fn := fun _ => fun
  | [d1, d2] => { results := [.lit (.bool false)], args := [d1, d2] }
  | _ => none }
def SccGroupsWrongFalsely : Prop := sccGroupsRow.holds Try.pinned (OpenSpec.ofChange sccGroupsWrong)

/-- 'crosstreelaw15.SccReaches': WHATEVER THE INPUT: true; the input reads as it did. -/
def sccReachesSpec : ChangeSpec := { name := "sccReaches", fn := fun _ => fun
  | [d1, d2, d3] => { results := [.lit (.bool true)], args := [d1, d2, d3] }
  | _ => none }
def sccReachesRow : OpenClaim := { program := "ytdobjmbfkdfdcaa", sum := "0cd665982ef69fbc11f9aecc96b9729236c2df6dcd52efc57ca3b33037ef126c", func := "crosstree/crosstreelaw15.SccReaches", spec := "sccReaches", unfollowed := true, recurses := true, apart := false }
def SccReachesSaid : Prop := sccReachesRow.holds Try.pinned (OpenSpec.ofChange sccReachesSpec)

/-- ITS FALSE NEIGHBOUR: 'it returns false'. Refute it at one input. -/
def sccReachesWrong : ChangeSpec := { name := "sccReaches", fn := fun _ => fun
  | [d1, d2, d3] => { results := [.lit (.bool false)], args := [d1, d2, d3] }
  | _ => none }
def SccReachesWrongFalsely : Prop := sccReachesRow.holds Try.pinned (OpenSpec.ofChange sccReachesWrong)

/-- 'crosstreelaw15.SccOrder': WHATEVER THE INPUT: true; the input reads as it did. -/
def sccOrderSpec : ChangeSpec := { name := "sccOrder", fn := fun _ => fun
  | [d1, d2] => { results := [.lit (.bool true)], args := [d1, d2] }
  | _ => none }
def sccOrderRow : OpenClaim := { program := "ytdobjmbfkdfdcaa", sum := "0cd665982ef69fbc11f9aecc96b9729236c2df6dcd52efc57ca3b33037ef126c", func := "crosstree/crosstreelaw15.SccOrder", spec := "sccOrder", unfollowed := true, recurses := true, apart := false }
def SccOrderSaid : Prop := sccOrderRow.holds Try.pinned (OpenSpec.ofChange sccOrderSpec)

/-- ITS FALSE NEIGHBOUR: 'it returns false'. Refute it at one input. -/
def sccOrderWrong : ChangeSpec := { name := "sccOrder", fn := fun _ => fun
  | [d1, d2] => { results := [.lit (.bool false)], args := [d1, d2] }
  | _ => none }
def SccOrderWrongFalsely : Prop := sccOrderRow.holds Try.pinned (OpenSpec.ofChange sccOrderWrong)

/-- 'crosstreelaw15.SccBoth': WHATEVER THE INPUT: true; the input reads as it did. -/
def sccBothSpec : ChangeSpec := { name := "sccBoth", fn := fun _ => fun
  | [d1, d2, d3, d4] => { results := [.lit (.bool true)], args := [d1, d2, d3, d4] }
  | _ => none }
def sccBothRow : OpenClaim := { program := "ytdobjmbfkdfdcaa", sum := "0cd665982ef69fbc11f9aecc96b9729236c2df6dcd52efc57ca3b33037ef126c", func := "crosstree/crosstreelaw15.SccBoth", spec := "sccBoth", unfollowed := true, recurses := true, apart := false }
def SccBothSaid : Prop := sccBothRow.holds Try.pinned (OpenSpec.ofChange sccBothSpec)

/-- ITS FALSE NEIGHBOUR: 'it returns false'. Refute it at one input. -/
def sccBothWrong : ChangeSpec := { name := "sccBoth", fn := fun _ => fun
  | [d1, d2, d3, d4] => { results := [.lit (.bool false)], args := [d1, d2, d3, d4] }
  | _ => none }
def SccBothWrongFalsely : Prop := sccBothRow.holds Try.pinned (OpenSpec.ofChange sccBothWrong)

/-- 'crosstreelaw15.SccRings': WHATEVER THE INPUT: true; the input reads as it did. -/
def sccRingsSpec : ChangeSpec := { name := "sccRings", fn := fun _ => fun
  | [d1, d2] => { results := [.lit (.bool true)], args := [d1, d2] }
  | _ => none }
def sccRingsRow : OpenClaim := { program := "ytdobjmbfkdfdcaa", sum := "0cd665982ef69fbc11f9aecc96b9729236c2df6dcd52efc57ca3b33037ef126c", func := "crosstree/crosstreelaw15.SccRings", spec := "sccRings", unfollowed := true, recurses := true, apart := false }
def SccRingsSaid : Prop := sccRingsRow.holds Try.pinned (OpenSpec.ofChange sccRingsSpec)

/-- ITS FALSE NEIGHBOUR: 'it returns false'. Refute it at one input. -/
def sccRingsWrong : ChangeSpec := { name := "sccRings", fn := fun _ => fun
  | [d1, d2] => { results := [.lit (.bool false)], args := [d1, d2] }
  | _ => none }
def SccRingsWrongFalsely : Prop := sccRingsRow.holds Try.pinned (OpenSpec.ofChange sccRingsWrong)

/-- 'crosstreelaw15.SccMore': WHATEVER THE INPUT: true; the input reads as it did. -/
def sccMoreSpec : ChangeSpec := { name := "sccMore", fn := fun _ => fun
  | [d1, d2, d3, d4] => { results := [.lit (.bool true)], args := [d1, d2, d3, d4] }
  | _ => none }
def sccMoreRow : OpenClaim := { program := "ytdobjmbfkdfdcaa", sum := "0cd665982ef69fbc11f9aecc96b9729236c2df6dcd52efc57ca3b33037ef126c", func := "crosstree/crosstreelaw15.SccMore", spec := "sccMore", unfollowed := true, recurses := true, apart := false }
def SccMoreSaid : Prop := sccMoreRow.holds Try.pinned (OpenSpec.ofChange sccMoreSpec)

/-- ITS FALSE NEIGHBOUR: 'it returns false'. Refute it at one input. -/
def sccMoreWrong : ChangeSpec := { name := "sccMore", fn := fun _ => fun
  | [d1, d2, d3, d4] => { results := [.lit (.bool false)], args := [d1, d2, d3, d4] }
  | _ => none }
def SccMoreWrongFalsely : Prop := sccMoreRow.holds Try.pinned (OpenSpec.ofChange sccMoreWrong)

/- THE SECOND FORM. 'bulk': how many values and letters a reading holds, each counted each time it is reached (what is shared counts as often as it is met; a slice's spare places count too). A statement '..UptoSaid' is the law's where the arguments, and the package variables that the reading takes, are together of bulk at most 1048576: NARROWER than '..Said'. Prove '..Said' where nothing that the law and all that it calls make is longer than what came in: it says more and counts as full. Else prove '..UptoSaid'. A law counts once. -/
mutual
def uptoBulk {H : Type} : DataW H → Nat
  | .lit (.string bytes) => bytes.length + 1
  | .lit _ => 1
  | .nil => 1
  | .ptr d => uptoBulk d + 1
  | .slice elems spare => uptoBulkAll elems + uptoBulkAll spare + 1
  | .agg parts => uptoBulkAll parts + 1
  | .iface _ d => uptoBulk d + 1
  | .map entries => uptoBulkEntries entries + 1
  | .held _ => 1
def uptoBulkAll {H : Type} : List (DataW H) → Nat
  | [] => 0
  | d :: r => uptoBulk d + uptoBulkAll r
def uptoBulkEntries {H : Type} : List (Lit × DataW H) → Nat
  | [] => 0
  | x :: r => uptoBulkEntry x + uptoBulkEntries r
def uptoBulkEntry {H : Type} : Lit × DataW H → Nat
  | (.string bytes, d) => bytes.length + uptoBulk d + 1
  | (_, d) => uptoBulk d + 1
 end
def uptoSmall : (H : Type) → List (DataW H) → Bool := fun _ ds => decide (uptoBulkAll ds ≤ 1048576)
def OpenSpec.upto (s : _root_.Go.ChangeSpec) : _root_.Go.OpenSpec := { _root_.Go.OpenSpec.ofChange s with cond := some uptoSmall }

/-- 'crosstreelaw15.SccGroups', WHERE WHAT IT READS IS OF BULK AT MOST 1048576: true; the input reads as it did. -/
def sccGroupsUptoRow : OpenClaim := { program := "ytdobjmbfkdfdcaa", sum := "0cd665982ef69fbc11f9aecc96b9729236c2df6dcd52efc57ca3b33037ef126c", func := "crosstree/crosstreelaw15.SccGroups", spec := "sccGroups", unfollowed := true, recurses := true, apart := false, narrowed := true }
def SccGroupsUptoSaid : Prop := sccGroupsUptoRow.holds Try.pinned (OpenSpec.upto sccGroupsSpec)

/-- 'crosstreelaw15.SccReaches', WHERE WHAT IT READS IS OF BULK AT MOST 1048576: true; the input reads as it did. -/
def sccReachesUptoRow : OpenClaim := { program := "ytdobjmbfkdfdcaa", sum := "0cd665982ef69fbc11f9aecc96b9729236c2df6dcd52efc57ca3b33037ef126c", func := "crosstree/crosstreelaw15.SccReaches", spec := "sccReaches", unfollowed := true, recurses := true, apart := false, narrowed := true }
def SccReachesUptoSaid : Prop := sccReachesUptoRow.holds Try.pinned (OpenSpec.upto sccReachesSpec)

/-- 'crosstreelaw15.SccOrder', WHERE WHAT IT READS IS OF BULK AT MOST 1048576: true; the input reads as it did. -/
def sccOrderUptoRow : OpenClaim := { program := "ytdobjmbfkdfdcaa", sum := "0cd665982ef69fbc11f9aecc96b9729236c2df6dcd52efc57ca3b33037ef126c", func := "crosstree/crosstreelaw15.SccOrder", spec := "sccOrder", unfollowed := true, recurses := true, apart := false, narrowed := true }
def SccOrderUptoSaid : Prop := sccOrderUptoRow.holds Try.pinned (OpenSpec.upto sccOrderSpec)

/-- 'crosstreelaw15.SccBoth', WHERE WHAT IT READS IS OF BULK AT MOST 1048576: true; the input reads as it did. -/
def sccBothUptoRow : OpenClaim := { program := "ytdobjmbfkdfdcaa", sum := "0cd665982ef69fbc11f9aecc96b9729236c2df6dcd52efc57ca3b33037ef126c", func := "crosstree/crosstreelaw15.SccBoth", spec := "sccBoth", unfollowed := true, recurses := true, apart := false, narrowed := true }
def SccBothUptoSaid : Prop := sccBothUptoRow.holds Try.pinned (OpenSpec.upto sccBothSpec)

/-- 'crosstreelaw15.SccRings', WHERE WHAT IT READS IS OF BULK AT MOST 1048576: true; the input reads as it did. -/
def sccRingsUptoRow : OpenClaim := { program := "ytdobjmbfkdfdcaa", sum := "0cd665982ef69fbc11f9aecc96b9729236c2df6dcd52efc57ca3b33037ef126c", func := "crosstree/crosstreelaw15.SccRings", spec := "sccRings", unfollowed := true, recurses := true, apart := false, narrowed := true }
def SccRingsUptoSaid : Prop := sccRingsUptoRow.holds Try.pinned (OpenSpec.upto sccRingsSpec)

/-- 'crosstreelaw15.SccMore', WHERE WHAT IT READS IS OF BULK AT MOST 1048576: true; the input reads as it did. -/
def sccMoreUptoRow : OpenClaim := { program := "ytdobjmbfkdfdcaa", sum := "0cd665982ef69fbc11f9aecc96b9729236c2df6dcd52efc57ca3b33037ef126c", func := "crosstree/crosstreelaw15.SccMore", spec := "sccMore", unfollowed := true, recurses := true, apart := false, narrowed := true }
def SccMoreUptoSaid : Prop := sccMoreUptoRow.holds Try.pinned (OpenSpec.upto sccMoreSpec)

end Rows
end Go.Proofs.Ytdobjmbfkdfdcaa
