/- Laws and walks that a claim of this seat leans on: Reads. -/
import Derived.Test.YtemabheegnngdaaGreatUWrites
import Derived.Test.YtemabheegnngdaaGreatU00
set_option linter.all false
namespace Go.Proofs.YtemabheegnngdaaGreat
open Go.RowKit
/-! ### stmt.Reads$1: the bits that statements read -/
def rS (ls:List Signal) (ts:List T) (n:Nat):List Span:=((ts.take n).map fun t=>(t.e.map (partsE ls)).flatten).flatten
end Go.Proofs.YtemabheegnngdaaGreat
