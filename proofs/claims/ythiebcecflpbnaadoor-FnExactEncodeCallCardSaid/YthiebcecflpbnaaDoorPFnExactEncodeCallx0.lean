-- a print of the walks of FnExactEncodeCall by a program
import Derived.Test.YthiebcecflpbnaaDoorProg
import Derived.Test.YthiebcecflpbnaaDoorH2
import Derived.Below
import Derived.Deep.Draws
import Derived.Deep.AppendLies
import Derived.Maps.AppendAt
import Derived.OwnWalk
import Derived.Laws.BytesArg
import Derived.Laws.MakeOwn
import Derived.Laws.OwnMore
import Derived.Deep.OwnRows
import Derived.Tactics
import Derived.Lib.ConvBytes
import Derived.Laws.Slices
import Derived.WalkKit
import Derived.KernelRfl
import Derived.RowKit3
import Derived.Deep.LoopGhost
import Derived.Deep.QuietTactic
import Derived.BigQuiet
import Derived.WideLaws
import Derived.Deep.DeepCutAuto
import Derived.Deep.CutBlock
import Derived.Deep.RegionHeld3
import Derived.Laws.Rows
import Derived.Lib.AppendStr
import Derived.ArgAppend
import Derived.Laws.IdiomCopy
import Derived.OrdersHeld
import Derived.Laws.BitsLemmas
import Derived.RowKit
import Derived.Test.YthiebcecflpbnaaDoorWWords
import Derived.Test.YthiebcecflpbnaaDoorWLast
import Derived.Test.YthiebcecflpbnaaDoorWTab
import Derived.Test.YthiebcecflpbnaaDoorWFour
import Derived.Test.YthiebcecflpbnaaDoorWQPut
import Derived.Test.YthiebcecflpbnaaDoorWApart
import Derived.Test.YthiebcecflpbnaaDoorWArr
import Derived.Test.YthiebcecflpbnaaDoorWZeros
import Derived.Test.YthiebcecflpbnaaDoorWFoot
import Derived.Test.YthiebcecflpbnaaDoorWKept
import Derived.Test.YthiebcecflpbnaaDoorWShare
import Derived.Test.YthiebcecflpbnaaDoorWN
import Derived.Test.YthiebcecflpbnaaDoorWFootNe
import Derived.Test.YthiebcecflpbnaaDoorWAt
import Derived.Test.YthiebcecflpbnaaDoorWEqStruct
import Derived.Test.YthiebcecflpbnaaDoorWRepsOne
import Derived.Test.YthiebcecflpbnaaDoorWInv
import Derived.Test.YthiebcecflpbnaaDoorWInvWords
import Derived.Test.YthiebcecflpbnaaDoorWGuard
import Derived.Test.YthiebcecflpbnaaDoorWNEv
import Derived.Test.YthiebcecflpbnaaDoorWMore
namespace Go.Proofs.YthiebcecflpbnaaDoor.PFnExactEncodeCall
open Go.RowKit Go.Proofs.YthiebcecflpbnaaDoorW.PrintWords Go.Proofs.YthiebcecflpbnaaDoorW.PrintLast Go.Proofs.YthiebcecflpbnaaDoorW.PrintMore
attribute [local go_sem] max2_int min2_int max_two min_two max_three min_three max_four min_four   -- for this text's walks alone
set_option linter.unusedVariables false
set_option linter.unusedSimpArgs false



def errW : Option Int → Value
  | none => .nilIface
  | some c => .iface 0 (.int .i64 c)
theorem errW_none : errW none = .nilIface := rfl
theorem errW_some (c : Int) : errW (some c) = .iface 0 (.int .i64 c) := rfl

theorem info5 : (Tryd.prog.info? 5).map (fun i => (i.zero, i.size, i.bytes)) = some (some (.int .u8 0), 1, 1) := by kernel_rfl
-- the values' own types

end Go.Proofs.YthiebcecflpbnaaDoor.PFnExactEncodeCall
