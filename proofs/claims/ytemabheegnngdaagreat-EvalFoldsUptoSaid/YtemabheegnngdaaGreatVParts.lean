/- Laws and walks that a claim of this seat leans on: Parts. -/
import Derived.Test.YtemabheegnngdaaGreatV04
import Derived.Test.YtemabheegnngdaaGreatV03
import Derived.Test.YtemabheegnngdaaGreatV05
import Derived.Shelf.RegionOpen
import Derived.Test.YtemabheegnngdaaGreatV00
set_option linter.all false
namespace Go.Proofs.YtemabheegnngdaaGreat
open Go.RowKit
/-! ### the bits that an expression reads -/
structure Span where
 sig:Int
 hi:Int
 lo:Int
def spans0 (ls:List Signal) (op sig hi lo:Int):List Span:=if op=2 then [⟨sig,hi,lo⟩] else if op=3 then [⟨sig,sigW ls sig - 1,0⟩] else []
def partsE (ls:List Signal):E→List Span
 | ⟨op,_,_,sig,hi,lo,_,l⟩=>spans0 ls op sig hi lo ++ partsL l
where partsL:List E→List Span
 | []=>[]
 | e :: l=>partsE ls e ++ partsL l
theorem partsE_eq (ls:List Signal) (e:E):partsE ls e=spans0 ls e.op e.sig e.hi e.lo ++ (e.l.map (partsE ls)).flatten:=by
 have h:∀ l,partsE.partsL ls l=(l.map (partsE ls)).flatten:=by
  intro l;induction l with
  | nil=>rfl
  | cons x l ih=>simp [partsE.partsL,ih]
 cases e;simp [partsE,h]
end Go.Proofs.YtemabheegnngdaaGreat
