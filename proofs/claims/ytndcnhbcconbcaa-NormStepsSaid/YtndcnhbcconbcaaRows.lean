/-
  NARROWER THAN 'FOR EVERY INPUT', by the rows' own cells (each row's printed sentence says how): NormPlaces: loops · NormLists: loops · NormAgain: loops · NormParts: loops · NormArrays: loops.
  DERIVED. THE GIVEN ROWS OF THIS SEAT. 7 by the template 'for every input the law returns true; each argument reads behind the call as it read before'; 0 by the template 'total and deterministic' (their statements: YtndcnhbcconbcaaTotals.lean).
  GIVEN WITH THE SEED: the statements are not yours to turn. If you find one false, say at which input.
  Laid BY PROGRAM, IN A SANDBOX (cutbox-rows.mjs): the forced cells as the released guide's own fill.sh prints them over the translation 85d986eee5e0432f… (all of the seat's roots in one cut). By AI agents, Wed Nov 11 2026. No macro, syntax, notation, axiom, sorry.
-/
import Derived.Test.YtndcnhbcconbcaaChecked
import GoSem.Claim
import GoSem.ClaimJoined
import GoSem.ClaimMapViews
import Derived.JoinedTies
import Derived.KernelRfl
namespace Go.Proofs.Ytndcnhbcconbcaa
/- THE CELL 'sum', in the pinned program and in every row, IS THE sha256 OF THE DUMP (.gsa) THAT YtndcnhbcconbcaaProg.lean LOADS. Nothing in Lean hashes anything: it is a label: what it is worth is what the hold of that sum in a sandbox is worth. -/
noncomputable def Try.pinned : Pinned := { name := "ytndcnhbcconbcaa", sum := "85d986eee5e0432f513db551281931228d54d0072b6497bb1a7963872b8c10e8", checked := Try.checked }
namespace Rows
def none {H : Type} : Left H := { results := [], args := [] }

/-- 'crosstreelaw06.NormPlaces': WHATEVER THE INPUT: true; the input reads as it did. -/
def normPlacesSpec : ChangeSpec := { name := "normPlaces", fn := fun _ => fun
  | [d1, d2, d3] => { results := [.lit (.bool true)], args := [d1, d2, d3] }
  | _ => none }
def normPlacesRow : OpenClaim := { program := "ytndcnhbcconbcaa", sum := "85d986eee5e0432f513db551281931228d54d0072b6497bb1a7963872b8c10e8", func := "crosstree/crosstreelaw06.NormPlaces", spec := "normPlaces", unfollowed := true, recurses := true, loops := true, apart := false }
def NormPlacesSaid : Prop := normPlacesRow.holds Try.pinned (OpenSpec.ofChange normPlacesSpec)

/-- ITS FALSE NEIGHBOUR: 'it returns false'. Refute it at one input. -/
def normPlacesWrong : ChangeSpec := { name := "normPlaces", fn := fun _ => fun
  | [d1, d2, d3] => { results := [.lit (.bool false)], args := [d1, d2, d3] }
  | _ => none }
def NormPlacesWrongFalsely : Prop := normPlacesRow.holds Try.pinned (OpenSpec.ofChange normPlacesWrong)

/-- 'crosstreelaw06.NormLists': WHATEVER THE INPUT: true; the input reads as it did. -/
def normListsSpec : ChangeSpec := { name := "normLists", fn := fun _ => fun
  | [d1, d2, d3] => { results := [.lit (.bool true)], args := [d1, d2, d3] }
  | _ => none }
def normListsRow : OpenClaim := { program := "ytndcnhbcconbcaa", sum := "85d986eee5e0432f513db551281931228d54d0072b6497bb1a7963872b8c10e8", func := "crosstree/crosstreelaw06.NormLists", spec := "normLists", unfollowed := true, recurses := true, loops := true, apart := false }
def NormListsSaid : Prop := normListsRow.holds Try.pinned (OpenSpec.ofChange normListsSpec)

/-- ITS FALSE NEIGHBOUR: 'it returns false'. Refute it at one input. -/
def normListsWrong : ChangeSpec := { name := "normLists", fn := fun _ => fun
  | [d1, d2, d3] => { results := [.lit (.bool false)], args := [d1, d2, d3] }
  | _ => none }
def NormListsWrongFalsely : Prop := normListsRow.holds Try.pinned (OpenSpec.ofChange normListsWrong)

/-- 'crosstreelaw06.NormAgain': WHATEVER THE INPUT: true; the input reads as it did. -/
def normAgainSpec : ChangeSpec := { name := "normAgain", fn := fun _ => fun
  | [d1, d2, d3] => { results := [.lit (.bool true)], args := [d1, d2, d3] }
  | _ => none }
def normAgainRow : OpenClaim := { program := "ytndcnhbcconbcaa", sum := "85d986eee5e0432f513db551281931228d54d0072b6497bb1a7963872b8c10e8", func := "crosstree/crosstreelaw06.NormAgain", spec := "normAgain", unfollowed := true, recurses := true, loops := true, apart := false }
def NormAgainSaid : Prop := normAgainRow.holds Try.pinned (OpenSpec.ofChange normAgainSpec)

/-- ITS FALSE NEIGHBOUR: 'it returns false'. Refute it at one input. -/
def normAgainWrong : ChangeSpec := { name := "normAgain", fn := fun _ => fun
  | [d1, d2, d3] => { results := [.lit (.bool false)], args := [d1, d2, d3] }
  | _ => none }
def NormAgainWrongFalsely : Prop := normAgainRow.holds Try.pinned (OpenSpec.ofChange normAgainWrong)

/-- 'crosstreelaw06.NormParts': WHATEVER THE INPUT: true; the input reads as it did. -/
def normPartsSpec : ChangeSpec := { name := "normParts", fn := fun _ => fun
  | [d1, d2] => { results := [.lit (.bool true)], args := [d1, d2] }
  | _ => none }
def normPartsRow : OpenClaim := { program := "ytndcnhbcconbcaa", sum := "85d986eee5e0432f513db551281931228d54d0072b6497bb1a7963872b8c10e8", func := "crosstree/crosstreelaw06.NormParts", spec := "normParts", unfollowed := true, recurses := true, loops := true, apart := false }
def NormPartsSaid : Prop := normPartsRow.holds Try.pinned (OpenSpec.ofChange normPartsSpec)

/-- ITS FALSE NEIGHBOUR: 'it returns false'. Refute it at one input. -/
def normPartsWrong : ChangeSpec := { name := "normParts", fn := fun _ => fun
  | [d1, d2] => { results := [.lit (.bool false)], args := [d1, d2] }
  | _ => none }
def NormPartsWrongFalsely : Prop := normPartsRow.holds Try.pinned (OpenSpec.ofChange normPartsWrong)

/-- 'crosstreelaw06.NormArrays': WHATEVER THE INPUT: true; the input reads as it did. -/
def normArraysSpec : ChangeSpec := { name := "normArrays", fn := fun _ => fun
  | [d1, d2, d3, d4, d5] => { results := [.lit (.bool true)], args := [d1, d2, d3, d4, d5] }
  | _ => none }
def normArraysRow : OpenClaim := { program := "ytndcnhbcconbcaa", sum := "85d986eee5e0432f513db551281931228d54d0072b6497bb1a7963872b8c10e8", func := "crosstree/crosstreelaw06.NormArrays", spec := "normArrays", unfollowed := true, recurses := true, loops := true, apart := false }
def NormArraysSaid : Prop := normArraysRow.holds Try.pinned (OpenSpec.ofChange normArraysSpec)

/-- ITS FALSE NEIGHBOUR: 'it returns false'. Refute it at one input. -/
def normArraysWrong : ChangeSpec := { name := "normArrays", fn := fun _ => fun
  | [d1, d2, d3, d4, d5] => { results := [.lit (.bool false)], args := [d1, d2, d3, d4, d5] }
  | _ => none }
def NormArraysWrongFalsely : Prop := normArraysRow.holds Try.pinned (OpenSpec.ofChange normArraysWrong)

/-- 'crosstreelaw06.NormSteps': WHATEVER THE INPUT: true; the input reads as it did. -/
def normStepsSpec : ChangeSpec := { name := "normSteps", fn := fun _ => fun
  | [d1, d2, d3] => { results := [.lit (.bool true)], args := [d1, d2, d3] }
  | _ => none }
def normStepsRow : OpenClaim := { program := "ytndcnhbcconbcaa", sum := "85d986eee5e0432f513db551281931228d54d0072b6497bb1a7963872b8c10e8", func := "crosstree/crosstreelaw06.NormSteps", spec := "normSteps", unfollowed := true, recurses := true, apart := false }
def NormStepsSaid : Prop := normStepsRow.holds Try.pinned (OpenSpec.ofChange normStepsSpec)

/-- ITS FALSE NEIGHBOUR: 'it returns false'. Refute it at one input. -/
def normStepsWrong : ChangeSpec := { name := "normSteps", fn := fun _ => fun
  | [d1, d2, d3] => { results := [.lit (.bool false)], args := [d1, d2, d3] }
  | _ => none }
def NormStepsWrongFalsely : Prop := normStepsRow.holds Try.pinned (OpenSpec.ofChange normStepsWrong)

/-- 'crosstreelaw06.NormPlain': WHATEVER THE INPUT: true; the input reads as it did. -/
def normPlainSpec : ChangeSpec := { name := "normPlain", fn := fun _ => fun
  | [d1, d2] => { results := [.lit (.bool true)], args := [d1, d2] }
  | _ => none }
def normPlainRow : OpenClaim := { program := "ytndcnhbcconbcaa", sum := "85d986eee5e0432f513db551281931228d54d0072b6497bb1a7963872b8c10e8", func := "crosstree/crosstreelaw06.NormPlain", spec := "normPlain", unfollowed := true, recurses := true, apart := false }
def NormPlainSaid : Prop := normPlainRow.holds Try.pinned (OpenSpec.ofChange normPlainSpec)

/-- ITS FALSE NEIGHBOUR: 'it returns false'. Refute it at one input. -/
def normPlainWrong : ChangeSpec := { name := "normPlain", fn := fun _ => fun
  | [d1, d2] => { results := [.lit (.bool false)], args := [d1, d2] }
  | _ => none }
def NormPlainWrongFalsely : Prop := normPlainRow.holds Try.pinned (OpenSpec.ofChange normPlainWrong)

/- THE SECOND FORM. 'bulk': how many values and letters a reading holds, each counted each time it is reached (what is shared counts as often as it is met; a slice's spare places count too). A statement '..UptoSaid' is the law's where the arguments, and the package variables that the reading takes, are together of bulk at most 1048576: NARROWER than '..Said'. Prove '..Said' where nothing that the law and all that it calls make is longer than what came in: it says more and counts as full. Else prove '..UptoSaid'. A law counts once. -/
mutual
def uptoBulk {H : Type} : DataW H → Nat
  | .lit (.string bytes) => bytes.length + 1
  | .lit _ => 1
  | .nil => 1
  | .ptr d => uptoBulk d + 1
  | .slice elems spare => uptoBulkAll elems + uptoBulkAll spare + 1
  | .agg parts => uptoBulkAll parts + 1
  | .iface _ d => uptoBulk d + 1
  | .map entries => uptoBulkEntries entries + 1
  | .held _ => 1
def uptoBulkAll {H : Type} : List (DataW H) → Nat
  | [] => 0
  | d :: r => uptoBulk d + uptoBulkAll r
def uptoBulkEntries {H : Type} : List (Lit × DataW H) → Nat
  | [] => 0
  | x :: r => uptoBulkEntry x + uptoBulkEntries r
def uptoBulkEntry {H : Type} : Lit × DataW H → Nat
  | (.string bytes, d) => bytes.length + uptoBulk d + 1
  | (_, d) => uptoBulk d + 1
 end
def uptoSmall : (H : Type) → List (DataW H) → Bool := fun _ ds => decide (uptoBulkAll ds ≤ 1048576)
def OpenSpec.upto (s : _root_.Go.ChangeSpec) : _root_.Go.OpenSpec := { _root_.Go.OpenSpec.ofChange s with cond := some uptoSmall }

/-- 'crosstreelaw06.NormPlaces', WHERE WHAT IT READS IS OF BULK AT MOST 1048576: true; the input reads as it did. -/
def normPlacesUptoRow : OpenClaim := { program := "ytndcnhbcconbcaa", sum := "85d986eee5e0432f513db551281931228d54d0072b6497bb1a7963872b8c10e8", func := "crosstree/crosstreelaw06.NormPlaces", spec := "normPlaces", unfollowed := true, recurses := true, loops := true, apart := false, narrowed := true }
def NormPlacesUptoSaid : Prop := normPlacesUptoRow.holds Try.pinned (OpenSpec.upto normPlacesSpec)

/-- 'crosstreelaw06.NormLists', WHERE WHAT IT READS IS OF BULK AT MOST 1048576: true; the input reads as it did. -/
def normListsUptoRow : OpenClaim := { program := "ytndcnhbcconbcaa", sum := "85d986eee5e0432f513db551281931228d54d0072b6497bb1a7963872b8c10e8", func := "crosstree/crosstreelaw06.NormLists", spec := "normLists", unfollowed := true, recurses := true, loops := true, apart := false, narrowed := true }
def NormListsUptoSaid : Prop := normListsUptoRow.holds Try.pinned (OpenSpec.upto normListsSpec)

/-- 'crosstreelaw06.NormAgain', WHERE WHAT IT READS IS OF BULK AT MOST 1048576: true; the input reads as it did. -/
def normAgainUptoRow : OpenClaim := { program := "ytndcnhbcconbcaa", sum := "85d986eee5e0432f513db551281931228d54d0072b6497bb1a7963872b8c10e8", func := "crosstree/crosstreelaw06.NormAgain", spec := "normAgain", unfollowed := true, recurses := true, loops := true, apart := false, narrowed := true }
def NormAgainUptoSaid : Prop := normAgainUptoRow.holds Try.pinned (OpenSpec.upto normAgainSpec)

/-- 'crosstreelaw06.NormParts', WHERE WHAT IT READS IS OF BULK AT MOST 1048576: true; the input reads as it did. -/
def normPartsUptoRow : OpenClaim := { program := "ytndcnhbcconbcaa", sum := "85d986eee5e0432f513db551281931228d54d0072b6497bb1a7963872b8c10e8", func := "crosstree/crosstreelaw06.NormParts", spec := "normParts", unfollowed := true, recurses := true, loops := true, apart := false, narrowed := true }
def NormPartsUptoSaid : Prop := normPartsUptoRow.holds Try.pinned (OpenSpec.upto normPartsSpec)

/-- 'crosstreelaw06.NormArrays', WHERE WHAT IT READS IS OF BULK AT MOST 1048576: true; the input reads as it did. -/
def normArraysUptoRow : OpenClaim := { program := "ytndcnhbcconbcaa", sum := "85d986eee5e0432f513db551281931228d54d0072b6497bb1a7963872b8c10e8", func := "crosstree/crosstreelaw06.NormArrays", spec := "normArrays", unfollowed := true, recurses := true, loops := true, apart := false, narrowed := true }
def NormArraysUptoSaid : Prop := normArraysUptoRow.holds Try.pinned (OpenSpec.upto normArraysSpec)

/-- 'crosstreelaw06.NormSteps', WHERE WHAT IT READS IS OF BULK AT MOST 1048576: true; the input reads as it did. -/
def normStepsUptoRow : OpenClaim := { program := "ytndcnhbcconbcaa", sum := "85d986eee5e0432f513db551281931228d54d0072b6497bb1a7963872b8c10e8", func := "crosstree/crosstreelaw06.NormSteps", spec := "normSteps", unfollowed := true, recurses := true, apart := false, narrowed := true }
def NormStepsUptoSaid : Prop := normStepsUptoRow.holds Try.pinned (OpenSpec.upto normStepsSpec)

/-- 'crosstreelaw06.NormPlain', WHERE WHAT IT READS IS OF BULK AT MOST 1048576: true; the input reads as it did. -/
def normPlainUptoRow : OpenClaim := { program := "ytndcnhbcconbcaa", sum := "85d986eee5e0432f513db551281931228d54d0072b6497bb1a7963872b8c10e8", func := "crosstree/crosstreelaw06.NormPlain", spec := "normPlain", unfollowed := true, recurses := true, apart := false, narrowed := true }
def NormPlainUptoSaid : Prop := normPlainUptoRow.holds Try.pinned (OpenSpec.upto normPlainSpec)

end Rows
end Go.Proofs.Ytndcnhbcconbcaa
