/-
  NARROWER THAN 'FOR EVERY INPUT', by the rows' own cells (each row's printed sentence says how): CtypeFits: loops · CtypeVoids: loops · CtypeSame: loops · CtypeWidths: loops · CtypeDecays: loops · CtypeParts: loops · CtypeMays: loops.
  DERIVED. THE GIVEN ROWS OF THIS SEAT. 7 by the template 'for every input the law returns true; each argument reads behind the call as it read before'; 0 by the template 'total and deterministic' (their statements: YtmmgdifjiapbmaaTotals.lean).
  GIVEN WITH THE SEED: the statements are not yours to turn. If you find one false, say at which input.
  Laid BY PROGRAM, IN A SANDBOX (cutbox-rows.mjs): the forced cells as the released guide's own fill.sh prints them over the translation a84b155a07b19725… (all of the seat's roots in one cut). By AI agents, Wed Nov 11 2026. No macro, syntax, notation, axiom, sorry.
-/
import Derived.Test.YtmmgdifjiapbmaaChecked
import GoSem.Claim
import GoSem.ClaimJoined
import GoSem.ClaimMapViews
import Derived.JoinedTies
import Derived.KernelRfl
namespace Go.Proofs.Ytmmgdifjiapbmaa
/- THE CELL 'sum', in the pinned program and in every row, IS THE sha256 OF THE DUMP (.gsa) THAT YtmmgdifjiapbmaaProg.lean LOADS. Nothing in Lean hashes anything: it is a label: what it is worth is what the hold of that sum in a sandbox is worth. -/
noncomputable def Try.pinned : Pinned := { name := "ytmmgdifjiapbmaa", sum := "a84b155a07b19725d553918e3fe5b9ae2a4b2e77129384ccba00d266d2762019", checked := Try.checked }
namespace Rows
def none {H : Type} : Left H := { results := [], args := [] }

/-- 'crosstreelaw04.CtypeFits': WHATEVER THE INPUT: true; the input reads as it did. -/
def ctypeFitsSpec : ChangeSpec := { name := "ctypeFits", fn := fun _ => fun
  | [d1, d2, d3] => { results := [.lit (.bool true)], args := [d1, d2, d3] }
  | _ => none }
def ctypeFitsRow : OpenClaim := { program := "ytmmgdifjiapbmaa", sum := "a84b155a07b19725d553918e3fe5b9ae2a4b2e77129384ccba00d266d2762019", func := "crosstree/crosstreelaw04.CtypeFits", spec := "ctypeFits", unfollowed := true, recurses := true, loops := true, apart := false }
def CtypeFitsSaid : Prop := ctypeFitsRow.holds Try.pinned (OpenSpec.ofChange ctypeFitsSpec)

/-- ITS FALSE NEIGHBOUR: 'it returns false'. Refute it at one input. -/
def ctypeFitsWrong : ChangeSpec := { name := "ctypeFits", fn := fun _ => fun
  | [d1, d2, d3] => { results := [.lit (.bool false)], args := [d1, d2, d3] }
  | _ => none }
def CtypeFitsWrongFalsely : Prop := ctypeFitsRow.holds Try.pinned (OpenSpec.ofChange ctypeFitsWrong)

/-- 'crosstreelaw04.CtypeVoids': WHATEVER THE INPUT: true; the input reads as it did. -/
def ctypeVoidsSpec : ChangeSpec := { name := "ctypeVoids", fn := fun _ => fun
  | [d1, d2] => { results := [.lit (.bool true)], args := [d1, d2] }
  | _ => none }
def ctypeVoidsRow : OpenClaim := { program := "ytmmgdifjiapbmaa", sum := "a84b155a07b19725d553918e3fe5b9ae2a4b2e77129384ccba00d266d2762019", func := "crosstree/crosstreelaw04.CtypeVoids", spec := "ctypeVoids", unfollowed := true, recurses := true, loops := true, apart := false }
def CtypeVoidsSaid : Prop := ctypeVoidsRow.holds Try.pinned (OpenSpec.ofChange ctypeVoidsSpec)

/-- ITS FALSE NEIGHBOUR: 'it returns false'. Refute it at one input. -/
def ctypeVoidsWrong : ChangeSpec := { name := "ctypeVoids", fn := fun _ => fun
  | [d1, d2] => { results := [.lit (.bool false)], args := [d1, d2] }
  | _ => none }
def CtypeVoidsWrongFalsely : Prop := ctypeVoidsRow.holds Try.pinned (OpenSpec.ofChange ctypeVoidsWrong)

/-- 'crosstreelaw04.CtypeSame': WHATEVER THE INPUT: true; the input reads as it did. -/
def ctypeSameSpec : ChangeSpec := { name := "ctypeSame", fn := fun _ => fun
  | [d1, d2, d3] => { results := [.lit (.bool true)], args := [d1, d2, d3] }
  | _ => none }
def ctypeSameRow : OpenClaim := { program := "ytmmgdifjiapbmaa", sum := "a84b155a07b19725d553918e3fe5b9ae2a4b2e77129384ccba00d266d2762019", func := "crosstree/crosstreelaw04.CtypeSame", spec := "ctypeSame", unfollowed := true, recurses := true, loops := true, apart := false }
def CtypeSameSaid : Prop := ctypeSameRow.holds Try.pinned (OpenSpec.ofChange ctypeSameSpec)

/-- ITS FALSE NEIGHBOUR: 'it returns false'. Refute it at one input. -/
def ctypeSameWrong : ChangeSpec := { name := "ctypeSame", fn := fun _ => fun
  | [d1, d2, d3] => { results := [.lit (.bool false)], args := [d1, d2, d3] }
  | _ => none }
def CtypeSameWrongFalsely : Prop := ctypeSameRow.holds Try.pinned (OpenSpec.ofChange ctypeSameWrong)

/-- 'crosstreelaw04.CtypeWidths': WHATEVER THE INPUT: true; the input reads as it did. -/
def ctypeWidthsSpec : ChangeSpec := { name := "ctypeWidths", fn := fun _ => fun
  | [d1, d2] => { results := [.lit (.bool true)], args := [d1, d2] }
  | _ => none }
def ctypeWidthsRow : OpenClaim := { program := "ytmmgdifjiapbmaa", sum := "a84b155a07b19725d553918e3fe5b9ae2a4b2e77129384ccba00d266d2762019", func := "crosstree/crosstreelaw04.CtypeWidths", spec := "ctypeWidths", unfollowed := true, recurses := true, loops := true, apart := false }
def CtypeWidthsSaid : Prop := ctypeWidthsRow.holds Try.pinned (OpenSpec.ofChange ctypeWidthsSpec)

/-- ITS FALSE NEIGHBOUR: 'it returns false'. Refute it at one input. -/
def ctypeWidthsWrong : ChangeSpec := { name := "ctypeWidths", fn := fun _ => fun
  | [d1, d2] => { results := [.lit (.bool false)], args := [d1, d2] }
  | _ => none }
def CtypeWidthsWrongFalsely : Prop := ctypeWidthsRow.holds Try.pinned (OpenSpec.ofChange ctypeWidthsWrong)

/-- 'crosstreelaw04.CtypeDecays': WHATEVER THE INPUT: true; the input reads as it did. -/
def ctypeDecaysSpec : ChangeSpec := { name := "ctypeDecays", fn := fun _ => fun
  | [d] => { results := [.lit (.bool true)], args := [d] }
  | _ => none }
def ctypeDecaysRow : OpenClaim := { program := "ytmmgdifjiapbmaa", sum := "a84b155a07b19725d553918e3fe5b9ae2a4b2e77129384ccba00d266d2762019", func := "crosstree/crosstreelaw04.CtypeDecays", spec := "ctypeDecays", unfollowed := true, recurses := true, loops := true, apart := false }
def CtypeDecaysSaid : Prop := ctypeDecaysRow.holds Try.pinned (OpenSpec.ofChange ctypeDecaysSpec)

/-- ITS FALSE NEIGHBOUR: 'it returns false'. Refute it at one input. -/
def ctypeDecaysWrong : ChangeSpec := { name := "ctypeDecays", fn := fun _ => fun
  | [d] => { results := [.lit (.bool false)], args := [d] }
  | _ => none }
def CtypeDecaysWrongFalsely : Prop := ctypeDecaysRow.holds Try.pinned (OpenSpec.ofChange ctypeDecaysWrong)

/-- 'crosstreelaw04.CtypeParts': WHATEVER THE INPUT: true; the input reads as it did. -/
def ctypePartsSpec : ChangeSpec := { name := "ctypeParts", fn := fun _ => fun
  | [d1, d2] => { results := [.lit (.bool true)], args := [d1, d2] }
  | _ => none }
def ctypePartsRow : OpenClaim := { program := "ytmmgdifjiapbmaa", sum := "a84b155a07b19725d553918e3fe5b9ae2a4b2e77129384ccba00d266d2762019", func := "crosstree/crosstreelaw04.CtypeParts", spec := "ctypeParts", unfollowed := true, recurses := true, loops := true, apart := false }
def CtypePartsSaid : Prop := ctypePartsRow.holds Try.pinned (OpenSpec.ofChange ctypePartsSpec)

/-- ITS FALSE NEIGHBOUR: 'it returns false'. Refute it at one input. -/
def ctypePartsWrong : ChangeSpec := { name := "ctypeParts", fn := fun _ => fun
  | [d1, d2] => { results := [.lit (.bool false)], args := [d1, d2] }
  | _ => none }
def CtypePartsWrongFalsely : Prop := ctypePartsRow.holds Try.pinned (OpenSpec.ofChange ctypePartsWrong)

/-- 'crosstreelaw04.CtypeMays': WHATEVER THE INPUT: true; the input reads as it did. -/
def ctypeMaysSpec : ChangeSpec := { name := "ctypeMays", fn := fun _ => fun
  | [d] => { results := [.lit (.bool true)], args := [d] }
  | _ => none }
def ctypeMaysRow : OpenClaim := { program := "ytmmgdifjiapbmaa", sum := "a84b155a07b19725d553918e3fe5b9ae2a4b2e77129384ccba00d266d2762019", func := "crosstree/crosstreelaw04.CtypeMays", spec := "ctypeMays", unfollowed := true, recurses := true, loops := true, apart := false }
def CtypeMaysSaid : Prop := ctypeMaysRow.holds Try.pinned (OpenSpec.ofChange ctypeMaysSpec)

/-- ITS FALSE NEIGHBOUR: 'it returns false'. Refute it at one input. -/
def ctypeMaysWrong : ChangeSpec := { name := "ctypeMays", fn := fun _ => fun
  | [d] => { results := [.lit (.bool false)], args := [d] }
  | _ => none }
def CtypeMaysWrongFalsely : Prop := ctypeMaysRow.holds Try.pinned (OpenSpec.ofChange ctypeMaysWrong)

/- THE SECOND FORM. 'bulk': how many values and letters a reading holds, each counted each time it is reached (what is shared counts as often as it is met; a slice's spare places count too). A statement '..UptoSaid' is the law's where the arguments, and the package variables that the reading takes, are together of bulk at most 1048576: NARROWER than '..Said'. Prove '..Said' where nothing that the law and all that it calls make is longer than what came in: it says more and counts as full. Else prove '..UptoSaid'. A law counts once. -/
mutual
def uptoBulk {H : Type} : DataW H → Nat
  | .lit (.string bytes) => bytes.length + 1
  | .lit _ => 1
  | .nil => 1
  | .ptr d => uptoBulk d + 1
  | .slice elems spare => uptoBulkAll elems + uptoBulkAll spare + 1
  | .agg parts => uptoBulkAll parts + 1
  | .iface _ d => uptoBulk d + 1
  | .map entries => uptoBulkEntries entries + 1
  | .held _ => 1
def uptoBulkAll {H : Type} : List (DataW H) → Nat
  | [] => 0
  | d :: r => uptoBulk d + uptoBulkAll r
def uptoBulkEntries {H : Type} : List (Lit × DataW H) → Nat
  | [] => 0
  | x :: r => uptoBulkEntry x + uptoBulkEntries r
def uptoBulkEntry {H : Type} : Lit × DataW H → Nat
  | (.string bytes, d) => bytes.length + uptoBulk d + 1
  | (_, d) => uptoBulk d + 1
 end
def uptoSmall : (H : Type) → List (DataW H) → Bool := fun _ ds => decide (uptoBulkAll ds ≤ 1048576)
def OpenSpec.upto (s : _root_.Go.ChangeSpec) : _root_.Go.OpenSpec := { _root_.Go.OpenSpec.ofChange s with cond := some uptoSmall }

/-- 'crosstreelaw04.CtypeFits', WHERE WHAT IT READS IS OF BULK AT MOST 1048576: true; the input reads as it did. -/
def ctypeFitsUptoRow : OpenClaim := { program := "ytmmgdifjiapbmaa", sum := "a84b155a07b19725d553918e3fe5b9ae2a4b2e77129384ccba00d266d2762019", func := "crosstree/crosstreelaw04.CtypeFits", spec := "ctypeFits", unfollowed := true, recurses := true, loops := true, apart := false, narrowed := true }
def CtypeFitsUptoSaid : Prop := ctypeFitsUptoRow.holds Try.pinned (OpenSpec.upto ctypeFitsSpec)

/-- 'crosstreelaw04.CtypeVoids', WHERE WHAT IT READS IS OF BULK AT MOST 1048576: true; the input reads as it did. -/
def ctypeVoidsUptoRow : OpenClaim := { program := "ytmmgdifjiapbmaa", sum := "a84b155a07b19725d553918e3fe5b9ae2a4b2e77129384ccba00d266d2762019", func := "crosstree/crosstreelaw04.CtypeVoids", spec := "ctypeVoids", unfollowed := true, recurses := true, loops := true, apart := false, narrowed := true }
def CtypeVoidsUptoSaid : Prop := ctypeVoidsUptoRow.holds Try.pinned (OpenSpec.upto ctypeVoidsSpec)

/-- 'crosstreelaw04.CtypeSame', WHERE WHAT IT READS IS OF BULK AT MOST 1048576: true; the input reads as it did. -/
def ctypeSameUptoRow : OpenClaim := { program := "ytmmgdifjiapbmaa", sum := "a84b155a07b19725d553918e3fe5b9ae2a4b2e77129384ccba00d266d2762019", func := "crosstree/crosstreelaw04.CtypeSame", spec := "ctypeSame", unfollowed := true, recurses := true, loops := true, apart := false, narrowed := true }
def CtypeSameUptoSaid : Prop := ctypeSameUptoRow.holds Try.pinned (OpenSpec.upto ctypeSameSpec)

/-- 'crosstreelaw04.CtypeWidths', WHERE WHAT IT READS IS OF BULK AT MOST 1048576: true; the input reads as it did. -/
def ctypeWidthsUptoRow : OpenClaim := { program := "ytmmgdifjiapbmaa", sum := "a84b155a07b19725d553918e3fe5b9ae2a4b2e77129384ccba00d266d2762019", func := "crosstree/crosstreelaw04.CtypeWidths", spec := "ctypeWidths", unfollowed := true, recurses := true, loops := true, apart := false, narrowed := true }
def CtypeWidthsUptoSaid : Prop := ctypeWidthsUptoRow.holds Try.pinned (OpenSpec.upto ctypeWidthsSpec)

/-- 'crosstreelaw04.CtypeDecays', WHERE WHAT IT READS IS OF BULK AT MOST 1048576: true; the input reads as it did. -/
def ctypeDecaysUptoRow : OpenClaim := { program := "ytmmgdifjiapbmaa", sum := "a84b155a07b19725d553918e3fe5b9ae2a4b2e77129384ccba00d266d2762019", func := "crosstree/crosstreelaw04.CtypeDecays", spec := "ctypeDecays", unfollowed := true, recurses := true, loops := true, apart := false, narrowed := true }
def CtypeDecaysUptoSaid : Prop := ctypeDecaysUptoRow.holds Try.pinned (OpenSpec.upto ctypeDecaysSpec)

/-- 'crosstreelaw04.CtypeParts', WHERE WHAT IT READS IS OF BULK AT MOST 1048576: true; the input reads as it did. -/
def ctypePartsUptoRow : OpenClaim := { program := "ytmmgdifjiapbmaa", sum := "a84b155a07b19725d553918e3fe5b9ae2a4b2e77129384ccba00d266d2762019", func := "crosstree/crosstreelaw04.CtypeParts", spec := "ctypeParts", unfollowed := true, recurses := true, loops := true, apart := false, narrowed := true }
def CtypePartsUptoSaid : Prop := ctypePartsUptoRow.holds Try.pinned (OpenSpec.upto ctypePartsSpec)

/-- 'crosstreelaw04.CtypeMays', WHERE WHAT IT READS IS OF BULK AT MOST 1048576: true; the input reads as it did. -/
def ctypeMaysUptoRow : OpenClaim := { program := "ytmmgdifjiapbmaa", sum := "a84b155a07b19725d553918e3fe5b9ae2a4b2e77129384ccba00d266d2762019", func := "crosstree/crosstreelaw04.CtypeMays", spec := "ctypeMays", unfollowed := true, recurses := true, loops := true, apart := false, narrowed := true }
def CtypeMaysUptoSaid : Prop := ctypeMaysUptoRow.holds Try.pinned (OpenSpec.upto ctypeMaysSpec)

end Rows
end Go.Proofs.Ytmmgdifjiapbmaa
