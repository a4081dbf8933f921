-- Printed by wip/xprint.py of this claim's authors, over the kit's print; not trusted: Lean checks it.
import Derived.Test.YthllgnephigfkaaDoorProg
import Derived.Below
import Derived.Deep.Draws
import Derived.Deep.AppendLies
import Derived.Maps.AppendAt
import Derived.OwnWalk
import Derived.Laws.BytesArg
import Derived.Laws.MakeOwn
import Derived.Laws.OwnMore
import Derived.Deep.OwnRows
import Derived.Tactics
import Derived.Lib.ConvBytes
import Derived.Laws.Slices
import Derived.WalkKit
import Derived.KernelRfl
import Derived.RowKit3
import Derived.Deep.LoopGhost
import Derived.Deep.QuietTactic
import Derived.BigQuiet
import Derived.WideLaws
import Derived.Deep.DeepCutAuto
import Derived.Deep.CutBlock
import Derived.Deep.RegionHeld3
import Derived.Laws.Rows
import Derived.Lib.AppendStr
import Derived.ArgAppend
import Derived.Laws.IdiomCopy
import Derived.OrdersHeld
import Derived.Laws.BitsLemmas
import Derived.RowKit
import Derived.Test.YthllgnephigfkaaDoorEtXl
import Derived.WalkSpells
import Derived.WalkLawsBesides
import Derived.Outline
import Derived.Deep.DeepMust
import Derived.Test.YthllgnephigfkaaDoorEtXk
import Derived.Test.YthllgnephigfkaaDoorEtXb
import Derived.Test.YthllgnephigfkaaDoorEtWWords
import Derived.Test.YthllgnephigfkaaDoorEtWLast
import Derived.Test.YthllgnephigfkaaDoorEtWTab
import Derived.Test.YthllgnephigfkaaDoorEtWFour
import Derived.Test.YthllgnephigfkaaDoorEtWQPut
import Derived.Test.YthllgnephigfkaaDoorEtWApart
import Derived.Test.YthllgnephigfkaaDoorEtWArr
import Derived.Test.YthllgnephigfkaaDoorEtWZeros
import Derived.Test.YthllgnephigfkaaDoorEtWFoot
import Derived.Test.YthllgnephigfkaaDoorEtWKept
import Derived.Test.YthllgnephigfkaaDoorEtWShare
import Derived.Test.YthllgnephigfkaaDoorEtWN
import Derived.Test.YthllgnephigfkaaDoorEtWFootNe
import Derived.Test.YthllgnephigfkaaDoorEtWAt
import Derived.Test.YthllgnephigfkaaDoorEtWEqStruct
import Derived.Test.YthllgnephigfkaaDoorEtWRepsOne
import Derived.Test.YthllgnephigfkaaDoorEtWInv
import Derived.Test.YthllgnephigfkaaDoorEtWInvWords
import Derived.Test.YthllgnephigfkaaDoorEtWGuard
import Derived.Test.YthllgnephigfkaaDoorEtWNEv
import Derived.Test.YthllgnephigfkaaDoorEtWMore
namespace Go.Proofs.YthllgnephigfkaaDoor.PT
open Go.RowKit Go.Proofs.YthllgnephigfkaaDoorW.PrintWords Go.Proofs.YthllgnephigfkaaDoorW.PrintLast Go.Proofs.YthllgnephigfkaaDoorW.PrintMore
attribute [local go_sem] max2_int min2_int max_two min_two max_three min_three max_four min_four   -- for this text's walks alone
set_option linter.unusedVariables false
set_option linter.unusedSimpArgs false
def errW : Option Int → Value
  | none => .nilIface
  | some c => .iface 0 (.int .i64 c)
theorem errW_none : errW none = .nilIface := rfl
theorem errW_some (c : Int) : errW (some c) = .iface 0 (.int .i64 c) := rfl
structure S23 where
  f0 : ByteArray
  f1 : Int
  f2 : Bool
end Go.Proofs.YthllgnephigfkaaDoor.PT
