/- Laws and walks that a claim of this seat leans on: Shape. -/
import Derived.Test.YtbliplladmamoaaGreatS01
import Derived.Test.YtbliplladmamoaaGreatSSame
import Derived.Test.YtbliplladmamoaaGreatShelf
import Derived.Test.YtbliplladmamoaaGreatS00
set_option maxRecDepth 100000
set_option maxHeartbeats 8000000
set_option linter.all false
namespace Go.Proofs.YtbliplladmamoaaGreat
open Go.RowKit
theorem Ie (wd v:Int) (w:World) (hv:St v) :
  Calls Tryz.prog 57 #[.int .i64 wd,.int .u64 v] w fun r w'=>r=.returned (.bool (holds wd v))/\w'=w:=by
 have HL:=Jh (Tryz.bits_Len64 v w hv.1 hv.2)
 go_enter Tryz.func57,Tryz.ntmps57
 go_wp2_with (first | (go_at_call 97;refine HL.out.mono ?_;rintro r w1 ⟨rfl,rfl⟩))
 go_ret
 exact ⟨rfl,rfl⟩
theorem P0 (ls:List Ai) (s:Value) (sig hi lo:Int) (w:World) (h:Cq w s ls) (h1:Fp sig) :
  Calls Tryz.prog 127 #[s,.int .i64 sig,.int .i64 hi,.int .i64 lo] w fun r w'=>r=.returned (.bool (slice ls sig hi lo))/\w'=w:=by
 obtain ⟨a,b,o,cap,hs,u,aa,ha,hr⟩:=h.open
 subst hs
 obtain ⟨h1,h2⟩:=h1
 by_cases g1:0<=sig
 ·obtain ⟨k,rfl⟩:=Int.eq_ofNat_of_zero_le g1
  by_cases g2:k<ls.length
  ·obtain rfl:=ha (by omega)
   have hc:=(Cq.get hr g2) 1 _ rfl
   have HW:Dn ls (k:Int)=ls[k].w:=by simp [Dn,List.getElem?_eq_getElem g2]
   have j:=Jh HW
   clear HW
   generalize ls[k]=x at *
   go_enter Tryz.func127,Tryz.ntmps127
   go_wp2_with fail
   all_goals go_ret
   all_goals exact ⟨Af (Bool.eq_iff_iff.2 (by unfold slice;rw [j.out];simp;omega)),rfl⟩
  ·go_enter Tryz.func127,Tryz.ntmps127
   go_wp2_with fail
   all_goals go_ret
   all_goals exact ⟨Af (Bool.eq_iff_iff.2 (by unfold slice;simp;omega)),rfl⟩
 ·go_enter Tryz.func127,Tryz.ntmps127
  go_wp2_with fail
  all_goals go_ret
  all_goals exact ⟨Af (Bool.eq_iff_iff.2 (by unfold slice;simp;omega)),rfl⟩
end Go.Proofs.YtbliplladmamoaaGreat
