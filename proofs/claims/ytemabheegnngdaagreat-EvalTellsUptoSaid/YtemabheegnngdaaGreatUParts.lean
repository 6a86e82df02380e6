/- Laws and walks that a claim of this seat leans on: Parts. -/
import Derived.Test.YtemabheegnngdaaGreatU04
import Derived.Test.YtemabheegnngdaaGreatU03
import Derived.Test.YtemabheegnngdaaGreatU05
import Derived.Shelf.RegionOpen
import Derived.Test.YtemabheegnngdaaGreatU00
set_option linter.all false
namespace Go.Proofs.YtemabheegnngdaaGreat
open Go.RowKit
/-! ### the bits that an expression reads -/
structure Span where
 sig:Int
 hi:Int
 lo:Int
abbrev Span.cells (x:Span):List Value:=[.int .i64 x.sig,.int .i64 x.hi,.int .i64 x.lo]
def spans0 (ls:List Signal) (op sig hi lo:Int):List Span:=if op=2 then [⟨sig,hi,lo⟩] else if op=3 then [⟨sig,sigW ls sig - 1,0⟩] else []
def partsE (ls:List Signal):E→List Span
 | ⟨op,_,_,sig,hi,lo,_,l⟩=>spans0 ls op sig hi lo ++ partsL l
where partsL:List E→List Span
 | []=>[]
 | e :: l=>partsE ls e ++ partsL l
theorem partsE_eq (ls:List Signal) (e:E):partsE ls e=spans0 ls e.op e.sig e.hi e.lo ++ (e.l.map (partsE ls)).flatten:=by
 have h:∀ l,partsE.partsL ls l=(l.map (partsE ls)).flatten:=by
  intro l;induction l with
  | nil=>rfl
  | cons x l ih=>simp [partsE.partsL,ih]
 cases e;simp [partsE,h]
def IndOk (ls:List Signal):E→Prop
 | ⟨op,_,_,sig,_,_,_,l⟩=>(op=3→0 ≤ sig∧sig < ls.length)∧oks l
where oks:List E→Prop
 | []=>True
 | e :: l=>IndOk ls e∧oks l
def PartsOk (ls:List Signal) (e:E):Prop:=∀ (n0:Nat) (wb w:World) (sv pv cv s:Value) (D Eb:Nat),Sigs wb sv ls→Es wb s e.l→[sv,pv,cv].all (·.oneCell')=true→wb.heap.size ≤ n0→Ext wb w→Blk w D #[sv,pv,cv] 26→Blk w Eb (e.cells s).toArray 44 →
 n0 ≤ w.heap.size→IndOk ls e→Seq Tryz.prog n0 219 #[.pointer (some ⟨Eb,0,none⟩),.pointer (some ⟨D,0,none⟩)] ((partsE ls e).map Span.cells) w
end Go.Proofs.YtemabheegnngdaaGreat
