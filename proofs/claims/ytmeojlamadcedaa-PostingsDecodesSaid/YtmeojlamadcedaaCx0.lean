/- Functions of the program as Lean functions, each with a proof that its Go code comes to them; written by given.py of this session over the kit's print. Conditions: those of each theorem. -/
import Derived.Test.YtmeojlamadcedaaProg
import Derived.Below
import Derived.Deep.Draws
import Derived.Deep.AppendLies
import Derived.Maps.AppendAt
import Derived.OwnWalk
import Derived.Laws.BytesArg
import Derived.Laws.MakeOwn
import Derived.Laws.OwnMore
import Derived.Deep.OwnRows
import Derived.Tactics
import Derived.Lib.ConvBytes
import Derived.Laws.Slices
import Derived.WalkKit
import Derived.KernelRfl
import Derived.RowKit3
import Derived.Deep.LoopGhost
import Derived.Deep.QuietTactic
import Derived.BigQuiet
import Derived.WideLaws
import Derived.Deep.DeepCutAuto
import Derived.Deep.CutBlock
import Derived.Deep.RegionHeld3
import Derived.Laws.Rows
import Derived.Lib.AppendStr
import Derived.ArgAppend
import Derived.Laws.IdiomCopy
import Derived.OrdersHeld
import Derived.Laws.BitsLemmas
import Derived.RowKit
import Derived.Test.YtmeojlamadcedaaGivenCk
import Derived.Test.YtmeojlamadcedaaWWords
import Derived.Test.YtmeojlamadcedaaWLast
import Derived.Test.YtmeojlamadcedaaWTab
import Derived.Test.YtmeojlamadcedaaWFour
import Derived.Test.YtmeojlamadcedaaWQPut
import Derived.Test.YtmeojlamadcedaaWApart
import Derived.Test.YtmeojlamadcedaaWArr
import Derived.Test.YtmeojlamadcedaaWZeros
import Derived.Test.YtmeojlamadcedaaWFoot
import Derived.Test.YtmeojlamadcedaaWKept
import Derived.Test.YtmeojlamadcedaaWShare
import Derived.Test.YtmeojlamadcedaaWN
import Derived.Test.YtmeojlamadcedaaWFootNe
import Derived.Test.YtmeojlamadcedaaWAt
import Derived.Test.YtmeojlamadcedaaWEqStruct
import Derived.Test.YtmeojlamadcedaaWRepsOne
import Derived.Test.YtmeojlamadcedaaWInv
import Derived.Test.YtmeojlamadcedaaWInvWords
import Derived.Test.YtmeojlamadcedaaWGuard
import Derived.Test.YtmeojlamadcedaaWNEv
import Derived.Test.YtmeojlamadcedaaWMore
namespace Go.Proofs.Ytmeojlamadcedaa.C
open Go.Proofs.Ytmeojlamadcedaa.Given
open Go.RowKit Go.Proofs.YtmeojlamadcedaaW.PrintWords Go.Proofs.YtmeojlamadcedaaW.PrintLast Go.Proofs.YtmeojlamadcedaaW.PrintMore
attribute [local go_sem] max2_int min2_int max_two min_two max_three min_three max_four min_four   -- for this text's walks alone
set_option linter.unusedVariables false
set_option linter.unusedSimpArgs false



def errW : Option Int → Value
  | none => .nilIface
  | some c => .iface 0 (.int .i64 c)
theorem errW_none : errW none = .nilIface := rfl
theorem errW_some (c : Int) : errW (some c) = .iface 0 (.int .i64 c) := rfl

theorem info5 : (Try.prog.info? 5).map (fun i => (i.zero, i.size, i.bytes)) = some (some (.int .u8 0), 1, 1) := by kernel_rfl
-- the values' own types

end Go.Proofs.Ytmeojlamadcedaa.C
