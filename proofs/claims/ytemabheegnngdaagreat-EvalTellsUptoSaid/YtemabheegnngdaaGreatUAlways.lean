/- Laws and walks that a claim of this seat leans on: Always. -/
import Derived.Test.YtemabheegnngdaaGreatU12
import Derived.Test.YtemabheegnngdaaGreatU00
set_option linter.all false
namespace Go.Proofs.YtemabheegnngdaaGreat
open Go.RowKit
/-! ### stmt.always -/
def AlwaysSaid (offs:List Int) (l:List T):Prop:=∀ (w:World) (ov lv:Value),Ints w ov offs→Ts w lv l →
 Calls Tryz.prog 81 #[ov,lv] w fun r w'=>∃ v,r=.returned v∧IntRow w.heap.size v (alwM offs l) w'∧Ext w w'
theorem IntRow.fv {M:Nat} {v:Value} {l:List Int} {w:World} (h:IntRow M v l w):FV VInts M w [v] l:=fun W hW =>
 ⟨v,rfl,(h.keep fun k hk o ho=>(hW.2 k (h.at hk).1 (Array.getElem?_eq_some_iff.1 ho).1).trans ho).cells⟩
theorem RowIs.blk {α : Type} {V:World→List Value→α→Prop} {e:TypeId} {size N:Nat} {v:Value} {r:List α} {w:World} (h:RowIs V e size N v r w) {k:Nat} (hk:v.ownBlock=some k):N ≤ k∧∃ cur,Blk w k cur e:=by
 obtain ⟨css,h1,-⟩:=h
 rcases h1.2 with ⟨rfl,h0⟩ | ⟨g,cap,cur,rfl,hb,hg,-⟩
 ·cases hk
 ·cases hk;exact ⟨hb,cur,hg⟩
end Go.Proofs.YtemabheegnngdaaGreat
