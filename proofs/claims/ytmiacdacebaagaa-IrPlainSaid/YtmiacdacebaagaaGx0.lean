-- A print of Ytmiacdacebaagaa: functions, their calls (by the kit's print.py, from a copy in scratch).
import Derived.Test.YtmiacdacebaagaaProg
import Derived.Below
import Derived.Deep.Draws
import Derived.Deep.AppendLies
import Derived.Maps.AppendAt
import Derived.OwnWalk
import Derived.Laws.BytesArg
import Derived.Laws.MakeOwn
import Derived.Laws.OwnMore
import Derived.Deep.OwnRows
import Derived.Tactics
import Derived.Lib.ConvBytes
import Derived.Laws.Slices
import Derived.WalkKit
import Derived.KernelRfl
import Derived.RowKit3
import Derived.Deep.LoopGhost
import Derived.Deep.QuietTactic
import Derived.BigQuiet
import Derived.WideLaws
import Derived.Deep.DeepCutAuto
import Derived.Deep.CutBlock
import Derived.Deep.RegionHeld3
import Derived.Laws.Rows
import Derived.Lib.AppendStr
import Derived.ArgAppend
import Derived.Laws.IdiomCopy
import Derived.OrdersHeld
import Derived.Laws.BitsLemmas
import Derived.RowKit
import Derived.Test.YtmiacdacebaagaaWWords
import Derived.Test.YtmiacdacebaagaaWLast
import Derived.Test.YtmiacdacebaagaaWTab
import Derived.Test.YtmiacdacebaagaaWFour
import Derived.Test.YtmiacdacebaagaaWQPut
import Derived.Test.YtmiacdacebaagaaWApart
import Derived.Test.YtmiacdacebaagaaWArr
import Derived.Test.YtmiacdacebaagaaWZeros
import Derived.Test.YtmiacdacebaagaaWFoot
import Derived.Test.YtmiacdacebaagaaWKept
import Derived.Test.YtmiacdacebaagaaWShare
import Derived.Test.YtmiacdacebaagaaWN
import Derived.Test.YtmiacdacebaagaaWFootNe
import Derived.Test.YtmiacdacebaagaaWAt
import Derived.Test.YtmiacdacebaagaaWEqStruct
import Derived.Test.YtmiacdacebaagaaWRepsOne
import Derived.Test.YtmiacdacebaagaaWInv
import Derived.Test.YtmiacdacebaagaaWInvWords
import Derived.Test.YtmiacdacebaagaaWGuard
import Derived.Test.YtmiacdacebaagaaWNEv
import Derived.Test.YtmiacdacebaagaaWMore
namespace Go.Proofs.Ytmiacdacebaagaa.G
open Go.RowKit Go.Proofs.YtmiacdacebaagaaW.PrintWords Go.Proofs.YtmiacdacebaagaaW.PrintLast Go.Proofs.YtmiacdacebaagaaW.PrintMore
attribute [local go_sem] max2_int min2_int max_two min_two max_three min_three max_four min_four   -- for this text's walks alone
set_option linter.unusedVariables false
set_option linter.unusedSimpArgs false



def errW : Option Int → Value
  | none => .nilIface
  | some c => .iface 0 (.int .i64 c)
theorem errW_none : errW none = .nilIface := rfl
theorem errW_some (c : Int) : errW (some c) = .iface 0 (.int .i64 c) := rfl

theorem info3 : (Try.prog.info? 3).map (fun i => (i.zero, i.size, i.bytes)) = some (some (.int .i64 0), 1, 8) := by kernel_rfl
-- the values' own types

end Go.Proofs.Ytmiacdacebaagaa.G
