/- Laws and walks that a claim of this seat leans on: Reads. -/
import Derived.Test.YtemabheegnngdaaGreatVWrites
import Derived.Test.YtemabheegnngdaaGreatV00
set_option linter.all false
namespace Go.Proofs.YtemabheegnngdaaGreat
open Go.RowKit
/-! ### stmt.Reads$1: the bits that statements read -/
end Go.Proofs.YtemabheegnngdaaGreat
