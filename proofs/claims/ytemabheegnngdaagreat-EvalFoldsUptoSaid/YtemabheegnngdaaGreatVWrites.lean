/- Laws and walks that a claim of this seat leans on: Writes. -/
import Derived.Test.YtemabheegnngdaaGreatV12
import Derived.Test.YtemabheegnngdaaGreatV00
set_option linter.all false
namespace Go.Proofs.YtemabheegnngdaaGreat
open Go.RowKit
/-! ### stmt.Writes$1: the bits that statements write -/
theorem own_rowI {A B:World} {N M:Nat} {v:Value} {l:List Int} {row:Option Nat} (h:IntRow N v l A) (hg:A.grownBy B row) (hr:∀ r,row=some r→M ≤ r∧∃ o:Obj,A.heap[r]? = some o∧o.isCells=false):IntRow N v l B :=
 h.grown hg fun k hk e=>by
  obtain ⟨-,o,ho,hc⟩:=hr k e.symm
  obtain ⟨-,cur,hcur⟩:=h.at hk
  rw [hcur] at ho;cases ho;cases hc
end Go.Proofs.YtemabheegnngdaaGreat
