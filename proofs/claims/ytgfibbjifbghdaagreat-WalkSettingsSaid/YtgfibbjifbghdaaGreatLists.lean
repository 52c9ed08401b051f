/- What a string's row of the table is; the contract of the reference's Exact. -/
import Derived.Test.YtgfibbjifbghdaaGreatEqual
import Derived.BigQuiet
import Derived.Deep.QuietTactic
import Derived.WalkSpells
namespace Go.Proofs.YtgfibbjifbghdaaGreat
open Go.ChangeShapes Go.WideShapes Go.ChangeAt Go.RowKit

theorem strInfo : (Tryz.prog.info? 9).map (fun i => (i.zero, i.size, i.bytes)) = some (some (.string ByteArray.empty), 1, 16) := by kernel_rfl

def exactB (a b : List ByteArray) : Bool := decide (a = b)

end Go.Proofs.YtgfibbjifbghdaaGreat
