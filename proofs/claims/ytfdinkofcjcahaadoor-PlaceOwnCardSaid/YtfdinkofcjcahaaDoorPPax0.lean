-- Functions of the program as Lean functions, and that the machine's calls come to just them: written by the kit's print.py, run by this session's mkprint.py.
import Derived.Test.YtfdinkofcjcahaaDoorProg
import Derived.Below
import Derived.Deep.Draws
import Derived.Deep.AppendLies
import Derived.Maps.AppendAt
import Derived.OwnWalk
import Derived.Laws.BytesArg
import Derived.Laws.MakeOwn
import Derived.Laws.OwnMore
import Derived.Deep.OwnRows
import Derived.Tactics
import Derived.Lib.ConvBytes
import Derived.Laws.Slices
import Derived.WalkKit
import Derived.KernelRfl
import Derived.RowKit3
import Derived.Deep.LoopGhost
import Derived.Deep.QuietTactic
import Derived.BigQuiet
import Derived.WideLaws
import Derived.Deep.DeepCutAuto
import Derived.Deep.CutBlock
import Derived.Deep.RegionHeld3
import Derived.Laws.Rows
import Derived.Lib.AppendStr
import Derived.ArgAppend
import Derived.Laws.IdiomCopy
import Derived.OrdersHeld
import Derived.Laws.BitsLemmas
import Derived.RowKit
import Derived.Test.YtfdinkofcjcahaaDoorEnv
import Derived.Test.YtfdinkofcjcahaaDoorIsName
import Derived.Test.YtfdinkofcjcahaaDoorShelfed
import Derived.Test.YtfdinkofcjcahaaDoorWWords
import Derived.Test.YtfdinkofcjcahaaDoorWLast
import Derived.Test.YtfdinkofcjcahaaDoorWQPut
import Derived.Test.YtfdinkofcjcahaaDoorWApart
import Derived.Test.YtfdinkofcjcahaaDoorWArr
import Derived.Test.YtfdinkofcjcahaaDoorWZeros
import Derived.Test.YtfdinkofcjcahaaDoorWFoot
import Derived.Test.YtfdinkofcjcahaaDoorWKept
import Derived.Test.YtfdinkofcjcahaaDoorWShare
import Derived.Test.YtfdinkofcjcahaaDoorWN
import Derived.Test.YtfdinkofcjcahaaDoorWNEv
import Derived.Test.YtfdinkofcjcahaaDoorWMore
namespace Go.Proofs.YtfdinkofcjcahaaDoor.PPa
open Go.RowKit Go.Proofs.YtfdinkofcjcahaaDoor.Ext Go.Proofs.YtfdinkofcjcahaaDoorW.PrintWords Go.Proofs.YtfdinkofcjcahaaDoorW.PrintLast Go.Proofs.YtfdinkofcjcahaaDoorW.PrintMore
attribute [local go_sem] max2_int min2_int max_two min_two max_three min_three max_four min_four   -- for this text's walks alone
set_option linter.unusedVariables false
set_option linter.unusedSimpArgs false



def errW : Option Int → Value
  | none => .nilIface
  | some c => .iface 0 (.int .i64 c)
theorem errW_none : errW none = .nilIface := rfl
theorem errW_some (c : Int) : errW (some c) = .iface 0 (.int .i64 c) := rfl

theorem info9 : (Tryd.prog.info? 9).map (fun i => (i.zero, i.size, i.bytes)) = some (some (.string ⟨#[]⟩), 1, 16) := by kernel_rfl
-- the values' own types

end Go.Proofs.YtfdinkofcjcahaaDoor.PPa
