/-
  No cell of these rows narrows 'for every input' (looked for: loops, veiled, ifaces, maps, wideKeys, modest, calm, conditions, laid).
  DERIVED. THE GIVEN ROWS OF THIS SEAT. 5 by the template 'for every input the law returns true; each argument reads behind the call as it read before'; 0 by the template 'total and deterministic' (their statements: YtjbgealnnlmchaaTotals.lean).
  GIVEN WITH THE SEED: the statements are not yours to turn. If you find one false, say at which input.
  Laid BY PROGRAM, IN A SANDBOX (cutbox-rows.mjs): the forced cells as the released guide's own fill.sh prints them over the translation 5908306d0bcd922d… (all of the seat's roots in one cut). By AI agents, Wed Nov 11 2026. No macro, syntax, notation, axiom, sorry.
-/
import Derived.Test.YtjbgealnnlmchaaChecked
import GoSem.Claim
import GoSem.ClaimJoined
import GoSem.ClaimMapViews
import Derived.JoinedTies
import Derived.KernelRfl
namespace Go.Proofs.Ytjbgealnnlmchaa
/- THE CELL 'sum', in the pinned program and in every row, IS THE sha256 OF THE DUMP (.gsa) THAT YtjbgealnnlmchaaProg.lean LOADS. Nothing in Lean hashes anything: it is a label: what it is worth is what the hold of that sum in a sandbox is worth. -/
noncomputable def Try.pinned : Pinned := { name := "ytjbgealnnlmchaa", sum := "5908306d0bcd922dac1c0a6e2286e0e4ee4920324891a031ebc3a873924793b2", checked := Try.checked }
namespace Rows
def none {H : Type} : Left H := { results := [], args := [] }

/-- 'crosstreelaw19.CallsTell': WHATEVER THE INPUT: true; the input reads as it did. -/
def callsTellSpec : ChangeSpec := { name := "callsTell", fn := fun _ => fun
  | [d1, d2, d3, d4] => { results := [.lit (.bool true)], args := [d1, d2, d3, d4] }
  | _ => none }
def callsTellRow : OpenClaim := { program := "ytjbgealnnlmchaa", sum := "5908306d0bcd922dac1c0a6e2286e0e4ee4920324891a031ebc3a873924793b2", func := "crosstree/crosstreelaw19.CallsTell", spec := "callsTell", unfollowed := true, recurses := true, apart := false }
def CallsTellSaid : Prop := callsTellRow.holds Try.pinned (OpenSpec.ofChange callsTellSpec)

/-- ITS FALSE NEIGHBOUR: 'it returns false'. Refute it at one input. -/
def callsTellWrong : ChangeSpec := { name := "callsTell", fn := fun _ => fun
  | [d1, d2, d3, d4] => { results := [.lit (.bool false)], args := [d1, d2, d3, d4] }
  | _ => none }
def CallsTellWrongFalsely : Prop := callsTellRow.holds Try.pinned (OpenSpec.ofChange callsTellWrong)

/-- 'crosstreelaw19.CallsReach': WHATEVER THE INPUT: true; the input reads as it did. -/
def callsReachSpec : ChangeSpec := { name := "callsReach", fn := fun _ => fun
  | [d1, d2, d3] => { results := [.lit (.bool true)], args := [d1, d2, d3] }
  | _ => none }
def callsReachRow : OpenClaim := { program := "ytjbgealnnlmchaa", sum := "5908306d0bcd922dac1c0a6e2286e0e4ee4920324891a031ebc3a873924793b2", func := "crosstree/crosstreelaw19.CallsReach", spec := "callsReach", unfollowed := true, recurses := true, apart := false }
def CallsReachSaid : Prop := callsReachRow.holds Try.pinned (OpenSpec.ofChange callsReachSpec)

/-- ITS FALSE NEIGHBOUR: 'it returns false'. Refute it at one input. -/
def callsReachWrong : ChangeSpec := { name := "callsReach", fn := fun _ => fun
  | [d1, d2, d3] => { results := [.lit (.bool false)], args := [d1, d2, d3] }
  | _ => none }
def CallsReachWrongFalsely : Prop := callsReachRow.holds Try.pinned (OpenSpec.ofChange callsReachWrong)

/-- 'crosstreelaw19.CallsRings': WHATEVER THE INPUT: true; the input reads as it did. -/
def callsRingsSpec : ChangeSpec := { name := "callsRings", fn := fun _ => fun
  | [d1, d2, d3] => { results := [.lit (.bool true)], args := [d1, d2, d3] }
  | _ => none }
def callsRingsRow : OpenClaim := { program := "ytjbgealnnlmchaa", sum := "5908306d0bcd922dac1c0a6e2286e0e4ee4920324891a031ebc3a873924793b2", func := "crosstree/crosstreelaw19.CallsRings", spec := "callsRings", unfollowed := true, recurses := true, apart := false }
def CallsRingsSaid : Prop := callsRingsRow.holds Try.pinned (OpenSpec.ofChange callsRingsSpec)

/-- ITS FALSE NEIGHBOUR: 'it returns false'. Refute it at one input. -/
def callsRingsWrong : ChangeSpec := { name := "callsRings", fn := fun _ => fun
  | [d1, d2, d3] => { results := [.lit (.bool false)], args := [d1, d2, d3] }
  | _ => none }
def CallsRingsWrongFalsely : Prop := callsRingsRow.holds Try.pinned (OpenSpec.ofChange callsRingsWrong)

/-- 'crosstreelaw19.CallsMore': WHATEVER THE INPUT: true; the input reads as it did. -/
def callsMoreSpec : ChangeSpec := { name := "callsMore", fn := fun _ => fun
  | [d1, d2, d3, d4] => { results := [.lit (.bool true)], args := [d1, d2, d3, d4] }
  | _ => none }
def callsMoreRow : OpenClaim := { program := "ytjbgealnnlmchaa", sum := "5908306d0bcd922dac1c0a6e2286e0e4ee4920324891a031ebc3a873924793b2", func := "crosstree/crosstreelaw19.CallsMore", spec := "callsMore", unfollowed := true, recurses := true, apart := false }
def CallsMoreSaid : Prop := callsMoreRow.holds Try.pinned (OpenSpec.ofChange callsMoreSpec)

/-- ITS FALSE NEIGHBOUR: 'it returns false'. Refute it at one input. -/
def callsMoreWrong : ChangeSpec := { name := "callsMore", fn := fun _ => fun
  | [d1, d2, d3, d4] => { results := [.lit (.bool false)], args := [d1, d2, d3, d4] }
  | _ => none }
def CallsMoreWrongFalsely : Prop := callsMoreRow.holds Try.pinned (OpenSpec.ofChange callsMoreWrong)

/-- 'crosstreelaw19.CallsPlaces': WHATEVER THE INPUT: true; the input reads as it did. -/
def callsPlacesSpec : ChangeSpec := { name := "callsPlaces", fn := fun _ => fun
  | [d1, d2, d3] => { results := [.lit (.bool true)], args := [d1, d2, d3] }
  | _ => none }
def callsPlacesRow : OpenClaim := { program := "ytjbgealnnlmchaa", sum := "5908306d0bcd922dac1c0a6e2286e0e4ee4920324891a031ebc3a873924793b2", func := "crosstree/crosstreelaw19.CallsPlaces", spec := "callsPlaces", unfollowed := true, recurses := true, apart := false }
def CallsPlacesSaid : Prop := callsPlacesRow.holds Try.pinned (OpenSpec.ofChange callsPlacesSpec)

/-- ITS FALSE NEIGHBOUR: 'it returns false'. Refute it at one input. -/
def callsPlacesWrong : ChangeSpec := { name := "callsPlaces", fn := fun _ => fun
  | [d1, d2, d3] => { results := [.lit (.bool false)], args := [d1, d2, d3] }
  | _ => none }
def CallsPlacesWrongFalsely : Prop := callsPlacesRow.holds Try.pinned (OpenSpec.ofChange callsPlacesWrong)

/- THE SECOND FORM. 'bulk': how many values and letters a reading holds, each counted each time it is reached (what is shared counts as often as it is met; a slice's spare places count too). A statement '..UptoSaid' is the law's where the arguments, and the package variables that the reading takes, are together of bulk at most 1048576: NARROWER than '..Said'. Prove '..Said' where nothing that the law and all that it calls make is longer than what came in: it says more and counts as full. Else prove '..UptoSaid'. A law counts once. -/
mutual
def uptoBulk {H : Type} : DataW H → Nat
  | .lit (.string bytes) => bytes.length + 1
  | .lit _ => 1
  | .nil => 1
  | .ptr d => uptoBulk d + 1
  | .slice elems spare => uptoBulkAll elems + uptoBulkAll spare + 1
  | .agg parts => uptoBulkAll parts + 1
  | .iface _ d => uptoBulk d + 1
  | .map entries => uptoBulkEntries entries + 1
  | .held _ => 1
def uptoBulkAll {H : Type} : List (DataW H) → Nat
  | [] => 0
  | d :: r => uptoBulk d + uptoBulkAll r
def uptoBulkEntries {H : Type} : List (Lit × DataW H) → Nat
  | [] => 0
  | x :: r => uptoBulkEntry x + uptoBulkEntries r
def uptoBulkEntry {H : Type} : Lit × DataW H → Nat
  | (.string bytes, d) => bytes.length + uptoBulk d + 1
  | (_, d) => uptoBulk d + 1
 end
def uptoSmall : (H : Type) → List (DataW H) → Bool := fun _ ds => decide (uptoBulkAll ds ≤ 1048576)
def OpenSpec.upto (s : _root_.Go.ChangeSpec) : _root_.Go.OpenSpec := { _root_.Go.OpenSpec.ofChange s with cond := some uptoSmall }

/-- 'crosstreelaw19.CallsTell', WHERE WHAT IT READS IS OF BULK AT MOST 1048576: true; the input reads as it did. -/
def callsTellUptoRow : OpenClaim := { program := "ytjbgealnnlmchaa", sum := "5908306d0bcd922dac1c0a6e2286e0e4ee4920324891a031ebc3a873924793b2", func := "crosstree/crosstreelaw19.CallsTell", spec := "callsTell", unfollowed := true, recurses := true, apart := false, narrowed := true }
def CallsTellUptoSaid : Prop := callsTellUptoRow.holds Try.pinned (OpenSpec.upto callsTellSpec)

/-- 'crosstreelaw19.CallsReach', WHERE WHAT IT READS IS OF BULK AT MOST 1048576: true; the input reads as it did. -/
def callsReachUptoRow : OpenClaim := { program := "ytjbgealnnlmchaa", sum := "5908306d0bcd922dac1c0a6e2286e0e4ee4920324891a031ebc3a873924793b2", func := "crosstree/crosstreelaw19.CallsReach", spec := "callsReach", unfollowed := true, recurses := true, apart := false, narrowed := true }
def CallsReachUptoSaid : Prop := callsReachUptoRow.holds Try.pinned (OpenSpec.upto callsReachSpec)

/-- 'crosstreelaw19.CallsRings', WHERE WHAT IT READS IS OF BULK AT MOST 1048576: true; the input reads as it did. -/
def callsRingsUptoRow : OpenClaim := { program := "ytjbgealnnlmchaa", sum := "5908306d0bcd922dac1c0a6e2286e0e4ee4920324891a031ebc3a873924793b2", func := "crosstree/crosstreelaw19.CallsRings", spec := "callsRings", unfollowed := true, recurses := true, apart := false, narrowed := true }
def CallsRingsUptoSaid : Prop := callsRingsUptoRow.holds Try.pinned (OpenSpec.upto callsRingsSpec)

/-- 'crosstreelaw19.CallsMore', WHERE WHAT IT READS IS OF BULK AT MOST 1048576: true; the input reads as it did. -/
def callsMoreUptoRow : OpenClaim := { program := "ytjbgealnnlmchaa", sum := "5908306d0bcd922dac1c0a6e2286e0e4ee4920324891a031ebc3a873924793b2", func := "crosstree/crosstreelaw19.CallsMore", spec := "callsMore", unfollowed := true, recurses := true, apart := false, narrowed := true }
def CallsMoreUptoSaid : Prop := callsMoreUptoRow.holds Try.pinned (OpenSpec.upto callsMoreSpec)

/-- 'crosstreelaw19.CallsPlaces', WHERE WHAT IT READS IS OF BULK AT MOST 1048576: true; the input reads as it did. -/
def callsPlacesUptoRow : OpenClaim := { program := "ytjbgealnnlmchaa", sum := "5908306d0bcd922dac1c0a6e2286e0e4ee4920324891a031ebc3a873924793b2", func := "crosstree/crosstreelaw19.CallsPlaces", spec := "callsPlaces", unfollowed := true, recurses := true, apart := false, narrowed := true }
def CallsPlacesUptoSaid : Prop := callsPlacesUptoRow.holds Try.pinned (OpenSpec.upto callsPlacesSpec)

end Rows
end Go.Proofs.Ytjbgealnnlmchaa
