-- PRINTED BY print.sh 35421559b90ae4d0a3588c463048766b98c2df88dd9212a6774a882060cdf62d: not written by this session
import Derived.Test.YtpncoliiimpgcaaProg
import Derived.Below
import Derived.Deep.Draws
import Derived.Deep.AppendLies
import Derived.Maps.AppendAt
import Derived.OwnWalk
import Derived.Laws.BytesArg
import Derived.Laws.MakeOwn
import Derived.Laws.OwnMore
import Derived.Deep.OwnRows
import Derived.Tactics
import Derived.Lib.ConvBytes
import Derived.Laws.Slices
import Derived.WalkKit
import Derived.KernelRfl
import Derived.RowKit3
import Derived.Deep.LoopGhost
import Derived.Deep.QuietTactic
import Derived.BigQuiet
import Derived.WideLaws
import Derived.Deep.DeepCutAuto
import Derived.Deep.CutBlock
import Derived.Deep.RegionHeld3
import Derived.Laws.Rows
import Derived.Lib.AppendStr
import Derived.ArgAppend
import Derived.Laws.IdiomCopy
import Derived.OrdersHeld
import Derived.Laws.BitsLemmas
import Derived.RowKit
import Derived.Test.YtpncoliiimpgcaaWWords
import Derived.Test.YtpncoliiimpgcaaWLast
import Derived.Test.YtpncoliiimpgcaaWTab
import Derived.Test.YtpncoliiimpgcaaWFour
import Derived.Test.YtpncoliiimpgcaaWQPut
import Derived.Test.YtpncoliiimpgcaaWApart
import Derived.Test.YtpncoliiimpgcaaWArr
import Derived.Test.YtpncoliiimpgcaaWZeros
import Derived.Test.YtpncoliiimpgcaaWFoot
import Derived.Test.YtpncoliiimpgcaaWKept
import Derived.Test.YtpncoliiimpgcaaWShare
import Derived.Test.YtpncoliiimpgcaaWN
import Derived.Test.YtpncoliiimpgcaaWFootNe
import Derived.Test.YtpncoliiimpgcaaWAt
import Derived.Test.YtpncoliiimpgcaaWEqStruct
import Derived.Test.YtpncoliiimpgcaaWRepsOne
import Derived.Test.YtpncoliiimpgcaaWInv
import Derived.Test.YtpncoliiimpgcaaWInvWords
import Derived.Test.YtpncoliiimpgcaaWGuard
import Derived.Test.YtpncoliiimpgcaaWNEv
import Derived.Test.YtpncoliiimpgcaaWMore
namespace Go.Proofs.Ytpncoliiimpgcaa.PPosFinds
open Go.RowKit Go.Proofs.YtpncoliiimpgcaaW.PrintWords Go.Proofs.YtpncoliiimpgcaaW.PrintLast Go.Proofs.YtpncoliiimpgcaaW.PrintMore
attribute [local go_sem] max2_int min2_int max_two min_two max_three min_three max_four min_four   -- for this text's walks alone
set_option linter.unusedVariables false
set_option linter.unusedSimpArgs false



def errW : Option Int → Value
  | none => .nilIface
  | some c => .iface 0 (.int .i64 c)
theorem errW_none : errW none = .nilIface := rfl
theorem errW_some (c : Int) : errW (some c) = .iface 0 (.int .i64 c) := rfl

theorem info9 : (Try.prog.info? 9).map (fun i => (i.zero, i.size, i.bytes)) = some (some (.string ⟨#[]⟩), 1, 16) := by kernel_rfl
-- the values' own types

end Go.Proofs.Ytpncoliiimpgcaa.PPosFinds
