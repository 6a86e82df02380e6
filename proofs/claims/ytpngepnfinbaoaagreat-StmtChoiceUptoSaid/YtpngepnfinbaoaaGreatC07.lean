/- Laws and walks that a claim of this seat leans on: Shape. -/
import Derived.Test.YtpngepnfinbaoaaGreatC01
import Derived.Test.YtpngepnfinbaoaaGreatCSame
import Derived.Test.YtpngepnfinbaoaaGreatShelf
import Derived.Test.YtpngepnfinbaoaaGreatC00
set_option maxRecDepth 100000
set_option maxHeartbeats 8000000
set_option linter.all false
namespace Go.Proofs.YtpngepnfinbaoaaGreat
open Go.RowKit
theorem holds_calls (wd v:Int) (w:World) (hv:u64r v) :
  Calls Tryz.prog 43 #[.int .i64 wd,.int .u64 v] w fun r w'=>r=.returned (.bool (holds wd v))/\w'=w:=by
 have HL:=Jh (Tryz.bits_Len64 v w hv.1 hv.2)
 go_enter Tryz.func43,Tryz.ntmps43
 go_wp2_with (first | (go_at_call 89;refine HL.out.mono ?_;rintro r w1 ⟨rfl,rfl⟩))
 go_ret
 exact ⟨rfl,rfl⟩
theorem slice_calls (ls:List Signal) (s:Value) (sig hi lo:Int) (w:World) (h:Sigs w s ls) (h1:i64r sig) :
  Calls Tryz.prog 113 #[s,.int .i64 sig,.int .i64 hi,.int .i64 lo] w fun r w'=>r=.returned (.bool (slice ls sig hi lo))/\w'=w:=by
 obtain ⟨a,b,o,cap,hs,hc1,hc2,ha,hr⟩:=h.open
 subst hs
 obtain ⟨h1,h2⟩:=h1
 by_cases g1:0<=sig
 ·obtain ⟨k,rfl⟩:=Int.eq_ofNat_of_zero_le g1
  by_cases g2:k<ls.length
  ·obtain rfl:=ha (by omega)
   have hc:=(Sigs.get hr g2) 1 _ rfl
   have HW:sigW ls (k:Int)=ls[k].w:=by simp [sigW,List.getElem?_eq_getElem g2]
   have HW2:=Jh HW
   clear HW
   generalize ls[k]=x at *
   go_enter Tryz.func113,Tryz.ntmps113
   go_wp2_with fail
   all_goals go_ret
   all_goals exact ⟨ret_bool (Bool.eq_iff_iff.2 (by unfold slice;rw [HW2.out];simp;omega)),rfl⟩
  ·go_enter Tryz.func113,Tryz.ntmps113
   go_wp2_with fail
   all_goals go_ret
   all_goals exact ⟨ret_bool (Bool.eq_iff_iff.2 (by unfold slice;simp;omega)),rfl⟩
 ·go_enter Tryz.func113,Tryz.ntmps113
  go_wp2_with fail
  all_goals go_ret
  all_goals exact ⟨ret_bool (Bool.eq_iff_iff.2 (by unfold slice;simp;omega)),rfl⟩
end Go.Proofs.YtpngepnfinbaoaaGreat
