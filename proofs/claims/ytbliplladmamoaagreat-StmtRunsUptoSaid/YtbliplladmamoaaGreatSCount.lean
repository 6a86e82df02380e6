/- Laws and walks that a claim of this seat leans on: Count. -/
import Derived.Test.YtbliplladmamoaaGreatSSame
import Derived.Test.YtbliplladmamoaaGreatS00
set_option maxRecDepth 100000
set_option maxHeartbeats 8000000
set_option linter.all false
namespace Go.Proofs.YtbliplladmamoaaGreat
open Go.RowKit
theorem Fw:Agg Tryz.prog 127 2:=by unfold Agg;exact ⟨by kernel_rfl,by kernel_rfl⟩
theorem I3 (B a b x y:Nat) (w:World) (hc:Blk w B #[.int .i64 a,.int .i64 b] 127) (h1:a<=4194304) (h2:x<=4194304) (h3:b<=4194304) (h4:y<=4194304) :
  Calls Tryz.prog 83 #[.pointer (some ⟨B,0,none⟩),.agg #[.int .i64 x,.int .i64 y]] w fun r w'=>r=.returned (.tuple #[]) /\
   (Blk w' B #[.int .i64 ((a+x:Nat):Int),.int .i64 ((max b y:Nat):Int)] 127/\w.grownBy w' (some B)):=by
 have hB:=hc.lt
 have j:B≠w.heap.size:=by omega
 have c0:=hc.cell 0
 have c1:=hc.cell 1
 have f0:=hc.frozen 0
 have f1:=hc.frozen 1
 simp only [List.getElem?_toArray,List.getElem?_cons_zero,List.getElem?_cons_succ] at c0 c1
 have HC:=Jh hc
 clear hc
 go_enter Tryz.func83,Tryz.ntmps83
 go_wp2_with fail
 go_region
 go_wp2_with fail
 go_region
 go_wp2_with fail
 all_goals go_end0
 ·have hm:max b y=y:=by omega
  have h:=((HC.out.set 0 (.int .i64 (a+x))).set 1 (.int .i64 y)).alloc (.cells #[.int .i64 x,.int .i64 y] 127)
  rw [hm]
  exact ⟨rfl,h.drew.drew,Hm (Hm (Yf (A5 (Ay w B 0 _) (Ay _ B 1 _)) _))⟩
 ·have hm:max b y=b:=by omega
  have h:=((HC.out.set 0 (.int .i64 (a+x))).set 1 (.int .i64 b)).alloc (.cells #[.int .i64 x,.int .i64 y] 127)
  rw [hm]
  exact ⟨rfl,h.drew.drew,Hm (Hm (Yf (A5 (Ay w B 0 _) (Ay _ B 1 _)) _))⟩
end Go.Proofs.YtbliplladmamoaaGreat
