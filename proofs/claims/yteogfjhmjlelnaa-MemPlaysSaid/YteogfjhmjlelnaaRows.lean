/-
  No cell of these rows narrows 'for every input' (looked for: loops, veiled, ifaces, maps, wideKeys, modest, calm, conditions, laid).
  DERIVED. THE GIVEN ROWS OF THIS SEAT. 7 by the template 'for every input the law returns true; each argument reads behind the call as it read before'; 0 by the template 'total and deterministic' (their statements: YteogfjhmjlelnaaTotals.lean).
  GIVEN WITH THE SEED: the statements are not yours to turn. If you find one false, say at which input.
  Laid BY PROGRAM, IN A SANDBOX (cutbox-rows.mjs): the forced cells as the released guide's own fill.sh prints them over the translation 19ad24f722c37ac7… (all of the seat's roots in one cut). By AI agents, Wed Nov 11 2026. No macro, syntax, notation, axiom, sorry.
-/
import Derived.Test.YteogfjhmjlelnaaChecked
import GoSem.Claim
import GoSem.ClaimJoined
import GoSem.ClaimMapViews
import Derived.JoinedTies
import Derived.KernelRfl
namespace Go.Proofs.Yteogfjhmjlelnaa
/- THE CELL 'sum', in the pinned program and in every row, IS THE sha256 OF THE DUMP (.gsa) THAT YteogfjhmjlelnaaProg.lean LOADS. Nothing in Lean hashes anything: it is a label: what it is worth is what the hold of that sum in a sandbox is worth. -/
noncomputable def Try.pinned : Pinned := { name := "yteogfjhmjlelnaa", sum := "19ad24f722c37ac71d41aa308fe72550209c0c02c7bdcb8cf0999ce5f58056ce", checked := Try.checked }
namespace Rows
def none {H : Type} : Left H := { results := [], args := [] }

/-- 'crosstreelaw10.MemBack': WHATEVER THE INPUT: true; the input reads as it did. -/
def memBackSpec : ChangeSpec := { name := "memBack", fn := fun _ => fun
  | [d1, d2, d3, d4, d5] => { results := [.lit (.bool true)], args := [d1, d2, d3, d4, d5] }
  | _ => none }
def memBackRow : OpenClaim := { program := "yteogfjhmjlelnaa", sum := "19ad24f722c37ac71d41aa308fe72550209c0c02c7bdcb8cf0999ce5f58056ce", func := "crosstree/crosstreelaw10.MemBack", spec := "memBack", apart := false }
def MemBackSaid : Prop := memBackRow.holds Try.pinned (OpenSpec.ofChange memBackSpec)

/-- ITS FALSE NEIGHBOUR: 'it returns false'. Refute it at one input. -/
def memBackWrong : ChangeSpec := { name := "memBack", fn := fun _ => fun
  | [d1, d2, d3, d4, d5] => { results := [.lit (.bool false)], args := [d1, d2, d3, d4, d5] }
  | _ => none }
def MemBackWrongFalsely : Prop := memBackRow.holds Try.pinned (OpenSpec.ofChange memBackWrong)

/-- 'crosstreelaw10.MemParts': WHATEVER THE INPUT: true; the input reads as it did. -/
def memPartsSpec : ChangeSpec := { name := "memParts", fn := fun _ => fun
  | [d1, d2, d3] => { results := [.lit (.bool true)], args := [d1, d2, d3] }
  | _ => none }
def memPartsRow : OpenClaim := { program := "yteogfjhmjlelnaa", sum := "19ad24f722c37ac71d41aa308fe72550209c0c02c7bdcb8cf0999ce5f58056ce", func := "crosstree/crosstreelaw10.MemParts", spec := "memParts", apart := false }
def MemPartsSaid : Prop := memPartsRow.holds Try.pinned (OpenSpec.ofChange memPartsSpec)

/-- ITS FALSE NEIGHBOUR: 'it returns false'. Refute it at one input. -/
def memPartsWrong : ChangeSpec := { name := "memParts", fn := fun _ => fun
  | [d1, d2, d3] => { results := [.lit (.bool false)], args := [d1, d2, d3] }
  | _ => none }
def MemPartsWrongFalsely : Prop := memPartsRow.holds Try.pinned (OpenSpec.ofChange memPartsWrong)

/-- 'crosstreelaw10.MemMoves': WHATEVER THE INPUT: true; the input reads as it did. -/
def memMovesSpec : ChangeSpec := { name := "memMoves", fn := fun _ => fun
  | [d1, d2, d3, d4] => { results := [.lit (.bool true)], args := [d1, d2, d3, d4] }
  | _ => none }
def memMovesRow : OpenClaim := { program := "yteogfjhmjlelnaa", sum := "19ad24f722c37ac71d41aa308fe72550209c0c02c7bdcb8cf0999ce5f58056ce", func := "crosstree/crosstreelaw10.MemMoves", spec := "memMoves", apart := false }
def MemMovesSaid : Prop := memMovesRow.holds Try.pinned (OpenSpec.ofChange memMovesSpec)

/-- ITS FALSE NEIGHBOUR: 'it returns false'. Refute it at one input. -/
def memMovesWrong : ChangeSpec := { name := "memMoves", fn := fun _ => fun
  | [d1, d2, d3, d4] => { results := [.lit (.bool false)], args := [d1, d2, d3, d4] }
  | _ => none }
def MemMovesWrongFalsely : Prop := memMovesRow.holds Try.pinned (OpenSpec.ofChange memMovesWrong)

/-- 'crosstreelaw10.MemFills': WHATEVER THE INPUT: true; the input reads as it did. -/
def memFillsSpec : ChangeSpec := { name := "memFills", fn := fun _ => fun
  | [d1, d2, d3] => { results := [.lit (.bool true)], args := [d1, d2, d3] }
  | _ => none }
def memFillsRow : OpenClaim := { program := "yteogfjhmjlelnaa", sum := "19ad24f722c37ac71d41aa308fe72550209c0c02c7bdcb8cf0999ce5f58056ce", func := "crosstree/crosstreelaw10.MemFills", spec := "memFills", apart := false }
def MemFillsSaid : Prop := memFillsRow.holds Try.pinned (OpenSpec.ofChange memFillsSpec)

/-- ITS FALSE NEIGHBOUR: 'it returns false'. Refute it at one input. -/
def memFillsWrong : ChangeSpec := { name := "memFills", fn := fun _ => fun
  | [d1, d2, d3] => { results := [.lit (.bool false)], args := [d1, d2, d3] }
  | _ => none }
def MemFillsWrongFalsely : Prop := memFillsRow.holds Try.pinned (OpenSpec.ofChange memFillsWrong)

/-- 'crosstreelaw10.MemNobody': WHATEVER THE INPUT: true; the input reads as it did. -/
def memNobodySpec : ChangeSpec := { name := "memNobody", fn := fun _ => fun
  | [d] => { results := [.lit (.bool true)], args := [d] }
  | _ => none }
def memNobodyRow : OpenClaim := { program := "yteogfjhmjlelnaa", sum := "19ad24f722c37ac71d41aa308fe72550209c0c02c7bdcb8cf0999ce5f58056ce", func := "crosstree/crosstreelaw10.MemNobody", spec := "memNobody", apart := false }
def MemNobodySaid : Prop := memNobodyRow.holds Try.pinned (OpenSpec.ofChange memNobodySpec)

/-- ITS FALSE NEIGHBOUR: 'it returns false'. Refute it at one input. -/
def memNobodyWrong : ChangeSpec := { name := "memNobody", fn := fun _ => fun
  | [d] => { results := [.lit (.bool false)], args := [d] }
  | _ => none }
def MemNobodyWrongFalsely : Prop := memNobodyRow.holds Try.pinned (OpenSpec.ofChange memNobodyWrong)

/-- 'crosstreelaw10.MemEnds': WHATEVER THE INPUT: true; the input reads as it did. -/
def memEndsSpec : ChangeSpec := { name := "memEnds", fn := fun _ => fun
  | [d1, d2, d3] => { results := [.lit (.bool true)], args := [d1, d2, d3] }
  | _ => none }
def memEndsRow : OpenClaim := { program := "yteogfjhmjlelnaa", sum := "19ad24f722c37ac71d41aa308fe72550209c0c02c7bdcb8cf0999ce5f58056ce", func := "crosstree/crosstreelaw10.MemEnds", spec := "memEnds", apart := false }
def MemEndsSaid : Prop := memEndsRow.holds Try.pinned (OpenSpec.ofChange memEndsSpec)

/-- ITS FALSE NEIGHBOUR: 'it returns false'. Refute it at one input. -/
def memEndsWrong : ChangeSpec := { name := "memEnds", fn := fun _ => fun
  | [d1, d2, d3] => { results := [.lit (.bool false)], args := [d1, d2, d3] }
  | _ => none }
def MemEndsWrongFalsely : Prop := memEndsRow.holds Try.pinned (OpenSpec.ofChange memEndsWrong)

/-- 'crosstreelaw10.MemPlays': WHATEVER THE INPUT: true; the input reads as it did. -/
def memPlaysSpec : ChangeSpec := { name := "memPlays", fn := fun _ => fun
  | [d] => { results := [.lit (.bool true)], args := [d] }
  | _ => none }
def memPlaysRow : OpenClaim := { program := "yteogfjhmjlelnaa", sum := "19ad24f722c37ac71d41aa308fe72550209c0c02c7bdcb8cf0999ce5f58056ce", func := "crosstree/crosstreelaw10.MemPlays", spec := "memPlays", apart := false }
def MemPlaysSaid : Prop := memPlaysRow.holds Try.pinned (OpenSpec.ofChange memPlaysSpec)

/-- ITS FALSE NEIGHBOUR: 'it returns false'. Refute it at one input. -/
def memPlaysWrong : ChangeSpec := { name := "memPlays", fn := fun _ => fun
  | [d] => { results := [.lit (.bool false)], args := [d] }
  | _ => none }
def MemPlaysWrongFalsely : Prop := memPlaysRow.holds Try.pinned (OpenSpec.ofChange memPlaysWrong)

/- THE SECOND FORM. 'bulk': how many values and letters a reading holds, each counted each time it is reached (what is shared counts as often as it is met; a slice's spare places count too). A statement '..UptoSaid' is the law's where the arguments, and the package variables that the reading takes, are together of bulk at most 1048576: NARROWER than '..Said'. Prove '..Said' where nothing that the law and all that it calls make is longer than what came in: it says more and counts as full. Else prove '..UptoSaid'. A law counts once. -/
mutual
def uptoBulk {H : Type} : DataW H → Nat
  | .lit (.string bytes) => bytes.length + 1
  | .lit _ => 1
  | .nil => 1
  | .ptr d => uptoBulk d + 1
  | .slice elems spare => uptoBulkAll elems + uptoBulkAll spare + 1
  | .agg parts => uptoBulkAll parts + 1
  | .iface _ d => uptoBulk d + 1
  | .map entries => uptoBulkEntries entries + 1
  | .held _ => 1
def uptoBulkAll {H : Type} : List (DataW H) → Nat
  | [] => 0
  | d :: r => uptoBulk d + uptoBulkAll r
def uptoBulkEntries {H : Type} : List (Lit × DataW H) → Nat
  | [] => 0
  | x :: r => uptoBulkEntry x + uptoBulkEntries r
def uptoBulkEntry {H : Type} : Lit × DataW H → Nat
  | (.string bytes, d) => bytes.length + uptoBulk d + 1
  | (_, d) => uptoBulk d + 1
 end
def uptoSmall : (H : Type) → List (DataW H) → Bool := fun _ ds => decide (uptoBulkAll ds ≤ 1048576)
def OpenSpec.upto (s : _root_.Go.ChangeSpec) : _root_.Go.OpenSpec := { _root_.Go.OpenSpec.ofChange s with cond := some uptoSmall }

/-- 'crosstreelaw10.MemBack', WHERE WHAT IT READS IS OF BULK AT MOST 1048576: true; the input reads as it did. -/
def memBackUptoRow : OpenClaim := { program := "yteogfjhmjlelnaa", sum := "19ad24f722c37ac71d41aa308fe72550209c0c02c7bdcb8cf0999ce5f58056ce", func := "crosstree/crosstreelaw10.MemBack", spec := "memBack", apart := false, narrowed := true }
def MemBackUptoSaid : Prop := memBackUptoRow.holds Try.pinned (OpenSpec.upto memBackSpec)

/-- 'crosstreelaw10.MemParts', WHERE WHAT IT READS IS OF BULK AT MOST 1048576: true; the input reads as it did. -/
def memPartsUptoRow : OpenClaim := { program := "yteogfjhmjlelnaa", sum := "19ad24f722c37ac71d41aa308fe72550209c0c02c7bdcb8cf0999ce5f58056ce", func := "crosstree/crosstreelaw10.MemParts", spec := "memParts", apart := false, narrowed := true }
def MemPartsUptoSaid : Prop := memPartsUptoRow.holds Try.pinned (OpenSpec.upto memPartsSpec)

/-- 'crosstreelaw10.MemMoves', WHERE WHAT IT READS IS OF BULK AT MOST 1048576: true; the input reads as it did. -/
def memMovesUptoRow : OpenClaim := { program := "yteogfjhmjlelnaa", sum := "19ad24f722c37ac71d41aa308fe72550209c0c02c7bdcb8cf0999ce5f58056ce", func := "crosstree/crosstreelaw10.MemMoves", spec := "memMoves", apart := false, narrowed := true }
def MemMovesUptoSaid : Prop := memMovesUptoRow.holds Try.pinned (OpenSpec.upto memMovesSpec)

/-- 'crosstreelaw10.MemFills', WHERE WHAT IT READS IS OF BULK AT MOST 1048576: true; the input reads as it did. -/
def memFillsUptoRow : OpenClaim := { program := "yteogfjhmjlelnaa", sum := "19ad24f722c37ac71d41aa308fe72550209c0c02c7bdcb8cf0999ce5f58056ce", func := "crosstree/crosstreelaw10.MemFills", spec := "memFills", apart := false, narrowed := true }
def MemFillsUptoSaid : Prop := memFillsUptoRow.holds Try.pinned (OpenSpec.upto memFillsSpec)

/-- 'crosstreelaw10.MemNobody', WHERE WHAT IT READS IS OF BULK AT MOST 1048576: true; the input reads as it did. -/
def memNobodyUptoRow : OpenClaim := { program := "yteogfjhmjlelnaa", sum := "19ad24f722c37ac71d41aa308fe72550209c0c02c7bdcb8cf0999ce5f58056ce", func := "crosstree/crosstreelaw10.MemNobody", spec := "memNobody", apart := false, narrowed := true }
def MemNobodyUptoSaid : Prop := memNobodyUptoRow.holds Try.pinned (OpenSpec.upto memNobodySpec)

/-- 'crosstreelaw10.MemEnds', WHERE WHAT IT READS IS OF BULK AT MOST 1048576: true; the input reads as it did. -/
def memEndsUptoRow : OpenClaim := { program := "yteogfjhmjlelnaa", sum := "19ad24f722c37ac71d41aa308fe72550209c0c02c7bdcb8cf0999ce5f58056ce", func := "crosstree/crosstreelaw10.MemEnds", spec := "memEnds", apart := false, narrowed := true }
def MemEndsUptoSaid : Prop := memEndsUptoRow.holds Try.pinned (OpenSpec.upto memEndsSpec)

/-- 'crosstreelaw10.MemPlays', WHERE WHAT IT READS IS OF BULK AT MOST 1048576: true; the input reads as it did. -/
def memPlaysUptoRow : OpenClaim := { program := "yteogfjhmjlelnaa", sum := "19ad24f722c37ac71d41aa308fe72550209c0c02c7bdcb8cf0999ce5f58056ce", func := "crosstree/crosstreelaw10.MemPlays", spec := "memPlays", apart := false, narrowed := true }
def MemPlaysUptoSaid : Prop := memPlaysUptoRow.holds Try.pinned (OpenSpec.upto memPlaysSpec)

end Rows
end Go.Proofs.Yteogfjhmjlelnaa
