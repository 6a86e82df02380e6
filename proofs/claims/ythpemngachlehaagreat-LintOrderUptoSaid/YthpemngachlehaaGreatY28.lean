/- Laws and walks that a claim of this seat leans on: Rel. -/
import Derived.Test.YthpemngachlehaaGreatY01
import Derived.Test.YthpemngachlehaaGreatY00
set_option linter.all false
namespace Go.Proofs.YthpemngachlehaaGreat
open Go.RowKit
theorem wl_pure {P:Program} {ops:Array Oper} {rest:List Oper} {o:Oper} {a:Act} {w:World} {Q:Exit→Act→World→Prop} {v:Value} (hw:Region.wanted o (yielded ops a.tmps)=true)
  (h:(execOp a.eval o).run P w=.ok (.value v) w) (k:wpList P ops Q rest (a.put o.dst v) w):wpList P ops Q (o :: rest) a w :=
 BigFrame.wpList_want hw fun K hK=>by
  unfold Oper.wp
  rw [h]
  exact hK _ _ k
theorem forget {P:Program} {C:Code} {Q:Exit→Act→World→Prop} {a:Act} {w:World} (fr:(Nat→Value)→Act) (h:a=fr (fun i=>a.tmps.getD i undef)) (k:∀ f,C.wp P Q (fr f) w):C.wp P Q a w:=by
 rw [h];exact k _
end Go.Proofs.YthpemngachlehaaGreat
