/- Laws and walks that a claim of this seat leans on: Always. -/
import Derived.Test.YtemabheegnngdaaGreatV12
import Derived.Test.YtemabheegnngdaaGreatV00
set_option linter.all false
namespace Go.Proofs.YtemabheegnngdaaGreat
open Go.RowKit
/-! ### stmt.always -/
end Go.Proofs.YtemabheegnngdaaGreat
