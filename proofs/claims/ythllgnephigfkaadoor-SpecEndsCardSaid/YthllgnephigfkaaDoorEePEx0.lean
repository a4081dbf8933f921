-- Printed by wip/xprint.py of this claim's authors, over the kit's print; not trusted: Lean checks it.
import Derived.Test.YthllgnephigfkaaDoorProg
import Derived.Below
import Derived.Deep.Draws
import Derived.Deep.AppendLies
import Derived.Maps.AppendAt
import Derived.OwnWalk
import Derived.Laws.BytesArg
import Derived.Laws.MakeOwn
import Derived.Laws.OwnMore
import Derived.Deep.OwnRows
import Derived.Tactics
import Derived.Lib.ConvBytes
import Derived.Laws.Slices
import Derived.WalkKit
import Derived.KernelRfl
import Derived.RowKit3
import Derived.Deep.LoopGhost
import Derived.Deep.QuietTactic
import Derived.BigQuiet
import Derived.WideLaws
import Derived.Deep.DeepCutAuto
import Derived.Deep.CutBlock
import Derived.Deep.RegionHeld3
import Derived.Laws.Rows
import Derived.Lib.AppendStr
import Derived.ArgAppend
import Derived.Laws.IdiomCopy
import Derived.OrdersHeld
import Derived.Laws.BitsLemmas
import Derived.RowKit
import Derived.Test.YthllgnephigfkaaDoorEeXl
import Derived.WalkSpells
import Derived.WalkLawsBesides
import Derived.Outline
import Derived.Deep.DeepMust
import Derived.Test.YthllgnephigfkaaDoorEeXk
import Derived.Test.YthllgnephigfkaaDoorEeXb
import Derived.Test.YthllgnephigfkaaDoorEeWWords
import Derived.Test.YthllgnephigfkaaDoorEeWLast
import Derived.Test.YthllgnephigfkaaDoorEeWTab
import Derived.Test.YthllgnephigfkaaDoorEeWFour
import Derived.Test.YthllgnephigfkaaDoorEeWQPut
import Derived.Test.YthllgnephigfkaaDoorEeWApart
import Derived.Test.YthllgnephigfkaaDoorEeWArr
import Derived.Test.YthllgnephigfkaaDoorEeWZeros
import Derived.Test.YthllgnephigfkaaDoorEeWFoot
import Derived.Test.YthllgnephigfkaaDoorEeWKept
import Derived.Test.YthllgnephigfkaaDoorEeWShare
import Derived.Test.YthllgnephigfkaaDoorEeWN
import Derived.Test.YthllgnephigfkaaDoorEeWFootNe
import Derived.Test.YthllgnephigfkaaDoorEeWAt
import Derived.Test.YthllgnephigfkaaDoorEeWEqStruct
import Derived.Test.YthllgnephigfkaaDoorEeWRepsOne
import Derived.Test.YthllgnephigfkaaDoorEeWInv
import Derived.Test.YthllgnephigfkaaDoorEeWInvWords
import Derived.Test.YthllgnephigfkaaDoorEeWGuard
import Derived.Test.YthllgnephigfkaaDoorEeWNEv
import Derived.Test.YthllgnephigfkaaDoorEeWMore
namespace Go.Proofs.YthllgnephigfkaaDoor.PE
open Go.RowKit Go.Proofs.YthllgnephigfkaaDoorW.PrintWords Go.Proofs.YthllgnephigfkaaDoorW.PrintLast Go.Proofs.YthllgnephigfkaaDoorW.PrintMore
attribute [local go_sem] max2_int min2_int max_two min_two max_three min_three max_four min_four   -- for this text's walks alone
set_option linter.unusedVariables false
set_option linter.unusedSimpArgs false
def errW : Option Int → Value
  | none => .nilIface
  | some c => .iface 0 (.int .i64 c)
theorem errW_none : errW none = .nilIface := rfl
theorem errW_some (c : Int) : errW (some c) = .iface 0 (.int .i64 c) := rfl
structure S23 where
  f0 : ByteArray
  f1 : Int
  f2 : Bool
end Go.Proofs.YthllgnephigfkaaDoor.PE
