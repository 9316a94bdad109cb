-- PRINTED by print.py (a twelfth state) out of the translation. Not trusted: Lean checks it.
import Derived.Test.YthblmkailhdhlaaProg
import Derived.Below
import Derived.Deep.Draws
import Derived.Deep.AppendLies
import Derived.Maps.AppendAt
import Derived.OwnWalk
import Derived.Laws.BytesArg
import Derived.Laws.MakeOwn
import Derived.Laws.OwnMore
import Derived.Deep.OwnRows
import Derived.Tactics
import Derived.Lib.ConvBytes
import Derived.Laws.Slices
import Derived.WalkKit
import Derived.KernelRfl
import Derived.RowKit3
import Derived.Deep.LoopGhost
import Derived.Deep.QuietTactic
import Derived.BigQuiet
import Derived.WideLaws
import Derived.Deep.DeepCutAuto
import Derived.Deep.CutBlock
import Derived.Deep.RegionHeld3
import Derived.Laws.Rows
import Derived.Lib.AppendStr
import Derived.ArgAppend
import Derived.Laws.IdiomCopy
import Derived.OrdersHeld
import Derived.Laws.BitsLemmas
import Derived.RowKit
import Derived.Test.YthblmkailhdhlaaWWords
import Derived.Test.YthblmkailhdhlaaWLast
import Derived.Test.YthblmkailhdhlaaWTab
import Derived.Test.YthblmkailhdhlaaWFour
import Derived.Test.YthblmkailhdhlaaWQPut
import Derived.Test.YthblmkailhdhlaaWApart
import Derived.Test.YthblmkailhdhlaaWArr
import Derived.Test.YthblmkailhdhlaaWZeros
import Derived.Test.YthblmkailhdhlaaWFoot
import Derived.Test.YthblmkailhdhlaaWKept
import Derived.Test.YthblmkailhdhlaaWShare
import Derived.Test.YthblmkailhdhlaaWN
import Derived.Test.YthblmkailhdhlaaWFootNe
import Derived.Test.YthblmkailhdhlaaWAt
import Derived.Test.YthblmkailhdhlaaWEqStruct
import Derived.Test.YthblmkailhdhlaaWRepsOne
import Derived.Test.YthblmkailhdhlaaWInv
import Derived.Test.YthblmkailhdhlaaWInvWords
import Derived.Test.YthblmkailhdhlaaWGuard
import Derived.Test.YthblmkailhdhlaaWNEv
import Derived.Test.YthblmkailhdhlaaWMore
namespace Go.Proofs.Ythblmkailhdhlaa.G
open Go.RowKit Go.Proofs.YthblmkailhdhlaaW.PrintWords Go.Proofs.YthblmkailhdhlaaW.PrintLast Go.Proofs.YthblmkailhdhlaaW.PrintMore
attribute [local go_sem] max2_int min2_int max_two min_two max_three min_three max_four min_four   -- for this text's walks alone
set_option linter.unusedVariables false
set_option linter.unusedSimpArgs false



def errW : Option Int → Value
  | none => .nilIface
  | some c => .iface 0 (.int .i64 c)
theorem errW_none : errW none = .nilIface := rfl
theorem errW_some (c : Int) : errW (some c) = .iface 0 (.int .i64 c) := rfl

-- the values' own types

end Go.Proofs.Ythblmkailhdhlaa.G
