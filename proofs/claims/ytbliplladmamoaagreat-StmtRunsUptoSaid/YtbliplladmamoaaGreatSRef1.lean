/- Laws and walks that a claim of this seat leans on: Ref1. -/
import Derived.Test.YtbliplladmamoaaGreatS25
import Derived.Test.YtbliplladmamoaaGreatS00
set_option maxRecDepth 100000
set_option maxHeartbeats 8000000
set_option linter.all false
namespace Go.Proofs.YtbliplladmamoaaGreat
open Go.RowKit
theorem Mx (x w:Nat) (h:x<2^64):Lib.bitLen x<=w↔x / 2^w=0:=by
 rw [Nat.div_eq_zero_iff_lt (Nat.two_pow_pos w)]
 by_cases h0:x=0
 ·subst h0
  simp [Lib.bitLen,Lib.bitLenAux_zero,Nat.two_pow_pos]
 ·obtain ⟨h1,h2,h3⟩:=Lib.bitLenAux_bounds 64 x h h0
  change 1<=Lib.bitLen x at h1
  change 2^(Lib.bitLen x-1)<=x at h2
  change x<2^Lib.bitLen x at h3
  constructor
  ·intro hw
   exact Nat.lt_of_lt_of_le h3 (Nat.pow_le_pow_right (by decide) hw)
  ·intro hx
   by_cases hw:Lib.bitLen x<=w
   ·exact hw
   ·exfalso
    have:2^w<=2^(Lib.bitLen x-1):=Nat.pow_le_pow_right (by decide) (by omega)
    omega
theorem Xw (x:Nat) (h:x<2^64):Lib.bitLen x<=64:=(Mx x 64 h).2 (Nat.div_eq_of_lt h)
theorem Yg (wd v:Int) (hv:St v) (h0:0<=wd):holds wd v=(v / 2^wd.toNat==0):=by
 obtain ⟨k,rfl⟩:=Int.eq_ofNat_of_zero_le h0
 obtain ⟨m,rfl⟩:=Int.eq_ofNat_of_zero_le hv.1
 have hm:m<2^64:=by have:=hv.2;omega
 have h:=Mx m k hm
 rw [Bool.eq_iff_iff,beq_iff_eq]
 simp only [holds,decide_eq_true_eq,Int.toNat_natCast]
 have e:((m:Int) / 2^k=0)↔m / 2^k=0:=by
  have:((m:Int) / 2^k)=((m / 2^k:Nat):Int):=by norm_cast
  rw [this];omega
 rw [e,<-h];omega
theorem Aby (wd v:Int) (hv:St v) (h0:64<=wd):holds wd v=true:=by
 obtain ⟨m,rfl⟩:=Int.eq_ofNat_of_zero_le hv.1
 have hm:m<2^64:=by have:=hv.2;omega
 have:=Xw m hm
 simp only [holds,decide_eq_true_eq,Int.toNat_natCast]
 omega
theorem Lg (wd v:Int) (w:World) (hv:St v) (h0:0<=wd) (h1:wd<=9223372036854775807) :
  Calls Tryz.prog 141 #[.int .i64 wd,.int .u64 v] w fun r w'=>r=.returned (.bool (holds wd v))/\w'=w:=by
 by_cases h:64<=wd
 ·have HE:=Jh (Aby wd v hv h)
  go_enter Tryz.func141,Tryz.ntmps141
  go_wp2_with fail
  go_ret
  exact ⟨Af HE.out.symm,rfl⟩
 ·have HE:=Jh (Yg wd v hv h0)
  go_enter Tryz.func141,Tryz.ntmps141
  go_wp2_with fail
  go_ret
  exact ⟨Af HE.out.symm,rfl⟩
theorem Pu (ls:List Ai) (s:Value) (sig hi lo:Int) (w:World) (h:Cq w s ls) (h1:Fp sig) :
  Calls Tryz.prog 193 #[s,.int .i64 sig,.int .i64 hi,.int .i64 lo] w fun r w'=>r=.returned (.bool (slice ls sig hi lo))/\w'=w:=by
 obtain ⟨a,b,o,cap,hs,u,aa,ha,hr⟩:=h.open
 subst hs
 obtain ⟨h1,h2⟩:=h1
 by_cases g1:0<=sig
 ·obtain ⟨k,rfl⟩:=Int.eq_ofNat_of_zero_le g1
  by_cases g2:k<ls.length
  ·obtain rfl:=ha (by omega)
   have hc:=(Cq.get hr g2) 1 _ rfl
   have HW:Dn ls (k:Int)=ls[k].w:=by simp [Dn,List.getElem?_eq_getElem g2]
   have j:=Jh HW
   clear HW
   generalize ls[k]=x at *
   go_enter Tryz.func193,Tryz.ntmps193
   go_wp2_with fail
   all_goals go_ret
   all_goals exact ⟨Af (Bool.eq_iff_iff.2 (by unfold slice;rw [j.out];simp;omega)),rfl⟩
  ·go_enter Tryz.func193,Tryz.ntmps193
   go_wp2_with fail
   all_goals go_ret
   all_goals exact ⟨Af (Bool.eq_iff_iff.2 (by unfold slice;simp;omega)),rfl⟩
 ·go_enter Tryz.func193,Tryz.ntmps193
  go_wp2_with fail
  all_goals go_ret
  all_goals exact ⟨Af (Bool.eq_iff_iff.2 (by unfold slice;simp;omega)),rfl⟩
theorem Vm (e:E) (cs:List Value) (w:World) (h:VE w cs e) :
  Calls Tryz.prog 172 #[.agg cs.toArray] w fun r w'=>r=.returned (.bool (Gu e.op e.l.length))/\Ext w w':=by
 obtain ⟨op,j,v,sig,hi,lo,m,l⟩:=e
 obtain ⟨s,rfl,hs⟩:=h
 obtain ⟨a,b,o,cap,rfl,u,aa,ha,hr⟩:=hs.open
 clear hr ha hs
 simp only at u ⊢
 generalize l.length=n at *
 have hx:=Ab w (.cells (E.cells ⟨op,j,v,sig,hi,lo,m,l⟩ (.slice a n cap)).toArray 40)
 have hb:=Has.alloc w (E.cells ⟨op,j,v,sig,hi,lo,m,l⟩ (.slice a n cap)) 40
 go_enter Tryz.func172,Tryz.ntmps172
 go_upto_region 1 with fail
 generalize w.alloc _=w0 at *
 have g0:=hb 0 _ rfl
 have g7:=hb 7 _ rfl
 have HX:=Jh hx
 clear hx
 by_cases h1:op=1
 ·subst h1;go_wp2_with fail;go_ret;exact ⟨Af (Bool.eq_iff_iff.2 (by simp [Gu])),HX.out⟩
 by_cases h2:op=2
 ·subst h2;go_wp2_with fail;go_ret;exact ⟨Af (Bool.eq_iff_iff.2 (by simp [Gu])),HX.out⟩
 by_cases h3:op=3
 ·subst h3;go_wp2_with fail;go_ret;exact ⟨Af (Bool.eq_iff_iff.2 (by simp [Gu];omega)),HX.out⟩
 by_cases h4:op=4
 ·subst h4;go_wp2_with fail;go_ret;exact ⟨Af (Bool.eq_iff_iff.2 (by simp [Gu];omega)),HX.out⟩
 by_cases h5:op=5
 ·subst h5;go_wp2_with fail;go_ret;exact ⟨Af (Bool.eq_iff_iff.2 (by simp [Gu];omega)),HX.out⟩
 by_cases h6:op=6
 ·subst h6;go_wp2_with fail;go_ret;exact ⟨Af (Bool.eq_iff_iff.2 (by simp [Gu];omega)),HX.out⟩
 by_cases h7:op=7
 ·subst h7;go_wp2_with fail;go_ret;exact ⟨Af (Bool.eq_iff_iff.2 (by simp [Gu];omega)),HX.out⟩
 by_cases h8:op=8
 ·subst h8;go_wp2_with fail;go_ret;exact ⟨Af (Bool.eq_iff_iff.2 (by simp [Gu];omega)),HX.out⟩
 have b1:(op==1)=false:=by rw [beq_eq_false_iff_ne];exact h1
 have b2:(op==2)=false:=by rw [beq_eq_false_iff_ne];exact h2
 have b3:(op==3)=false:=by rw [beq_eq_false_iff_ne];exact h3
 have b4:(op==4)=false:=by rw [beq_eq_false_iff_ne];exact h4
 have b5:(op==5)=false:=by rw [beq_eq_false_iff_ne];exact h5
 have b6:(op==6)=false:=by rw [beq_eq_false_iff_ne];exact h6
 have b7:(op==7)=false:=by rw [beq_eq_false_iff_ne];exact h7
 have b8:(op==8)=false:=by rw [beq_eq_false_iff_ne];exact h8
 have HP:=Jh (show Gu op n=false by simp [Gu,h1,h2,h3,h4,h5,h6,h7,h8])
 clear h1 h2 h3 h4 h5 h6 h7 h8
 go_wp2_with fail
 go_ret
 exact ⟨Af HP.out.symm,HX.out⟩
theorem R8 (ls:List Ai) (e:E) (s0:Value) (cs:List Value) (w:World) (hS:Cq w s0 ls) (h:VE w cs e) (u:e.wf) :
  Calls Tryz.prog 173 #[s0,.agg cs.toArray] w fun r w'=>r=.returned (.bool (A1 ls e.op e.w e.v e.sig e.hi e.lo e.n))/\Ext w w':=by
 have HV:=Jh ((E.wf_iff e).1 u).2.2.1
 have HI:=Jh ((E.wf_iff e).1 u).2.2.2.1
 have HW:=Jh ((E.wf_iff e).1 u).2.1
 clear u
 obtain ⟨op,j,v,sig,hi,lo,n,l⟩:=e
 obtain ⟨s,rfl,hs⟩:=h
 have hx:=Ab w (.cells (E.cells ⟨op,j,v,sig,hi,lo,n,l⟩ s).toArray 40)
 have hb:=Has.alloc w (E.cells ⟨op,j,v,sig,hi,lo,n,l⟩ s) 40
 have aa:=hS.ext hx
 obtain ⟨a,b,o,cap,rfl,ab,ac,ha,hr⟩:=hS.open
 clear hs ha hr hS
 simp only at HV HI HW ⊢
 go_enter Tryz.func173,Tryz.ntmps173
 go_upto_region 1 with fail
 generalize w.alloc _=w0 at *
 have g0:=hb 0 _ rfl
 have g1:=hb 1 _ rfl
 have g2:=hb 2 _ rfl
 have g3:=hb 3 _ rfl
 have g4:=hb 4 _ rfl
 have g5:=hb 5 _ rfl
 have g6:=hb 6 _ rfl
 clear hb
 obtain ⟨r,hr⟩:∃ r,A1 ls op j v sig hi lo n=r:=⟨_,rfl⟩
 have HR:=Jh hr
 have HX:=Jh hx
 have HS:=Jh aa
 clear hr hx aa
 by_cases h1:op=1
 ·subst h1
  by_cases qs:sig=0
  rotate_left
  ·have cs:(sig != 0)=true:=by rw [bne_iff_ne];exact qs
   have Q:=Jh qs
   have HF:=Jh (show r=false by rw [<-HR.out];simp [A1,Q.out])
   clear qs
   go_wp2_with fail
   go_ret
   exact ⟨Af (HR.out.trans HF.out).symm,HX.out⟩
  subst qs
  by_cases qh:hi=0
  rotate_left
  ·have ch:(hi != 0)=true:=by rw [bne_iff_ne];exact qh
   have Q:=Jh qh
   have HF:=Jh (show r=false by rw [<-HR.out];simp [A1,Q.out])
   clear qh
   go_wp2_with fail
   go_ret
   exact ⟨Af (HR.out.trans HF.out).symm,HX.out⟩
  subst qh
  by_cases ql:lo=0
  rotate_left
  ·have cl:(lo != 0)=true:=by rw [bne_iff_ne];exact ql
   have Q:=Jh ql
   have HF:=Jh (show r=false by rw [<-HR.out];simp [A1,Q.out])
   clear ql
   go_wp2_with fail
   go_ret
   exact ⟨Af (HR.out.trans HF.out).symm,HX.out⟩
  subst ql
  by_cases qn:n=0
  rotate_left
  ·have cn:(n != 0)=true:=by rw [bne_iff_ne];exact qn
   have Q:=Jh qn
   have HF:=Jh (show r=false by rw [<-HR.out];simp [A1,Q.out])
   clear qn
   go_wp2_with fail
   go_ret
   exact ⟨Af (HR.out.trans HF.out).symm,HX.out⟩
  subst qn
  by_cases r1:0<=j
  rotate_left
  ·have HF:=Jh (show r=false by rw [<-HR.out];simp [A1];omega)
   go_wp2_with fail
   go_ret
   exact ⟨Af (HR.out.trans HF.out).symm,HX.out⟩
  by_cases r2:j<=64
  rotate_left
  ·have HF:=Jh (show r=false by rw [<-HR.out];simp [A1];omega)
   go_wp2_with fail
   go_ret
   exact ⟨Af (HR.out.trans HF.out).symm,HX.out⟩
  by_cases r3:j=0
  ·have HF:=Jh (show r=true by rw [<-HR.out];simp [A1,r3])
   subst r3
   go_wp2_with fail
   go_ret
   exact ⟨Af (HR.out.trans HF.out).symm,HX.out⟩
  have c3:(j==0)=false:=by rw [beq_eq_false_iff_ne];exact r3
  have HF:=Jh (show r=holds j v by rw [<-HR.out];simp [A1,r1,r2,r3])
  have HC:=Jh (Lg j v w0 HV.out r1 (by omega))
  clear r3
  go_wp2_with (first | (go_at_call 141;refine HC.out.mono ?_;rintro r' w1 ⟨rfl,rfl⟩))
  go_ret
  exact ⟨Af (HR.out.trans HF.out).symm,HX.out⟩
 by_cases h2:op=2
 ·subst h2
  clear h1
  by_cases qv:v=0
  rotate_left
  ·have cv:(v != 0)=true:=by rw [bne_iff_ne];exact qv
   have Q:=Jh qv
   have HF:=Jh (show r=false by rw [<-HR.out];simp [A1,Q.out])
   clear qv
   go_wp2_with fail
   go_ret
   exact ⟨Af (HR.out.trans HF.out).symm,HX.out⟩
  subst qv
  by_cases qn:n=0
  rotate_left
  ·have cn:(n != 0)=true:=by rw [bne_iff_ne];exact qn
   have Q:=Jh qn
   have HF:=Jh (show r=false by rw [<-HR.out];simp [A1,Q.out])
   clear qn
   go_wp2_with fail
   go_ret
   exact ⟨Af (HR.out.trans HF.out).symm,HX.out⟩
  subst qn
  have HF:=Jh (show r=slice ls sig hi lo by rw [<-HR.out];simp [A1])
  have HC:=Jh (Pu ls _ sig hi lo w0 HS.out HI.out)
  go_wp2_with (first | (go_at_call 193;refine HC.out.mono ?_;rintro r' w1 ⟨rfl,rfl⟩))
  go_ret
  exact ⟨Af (HR.out.trans HF.out).symm,HX.out⟩
 by_cases h3:op=3
 ·subst h3
  clear h1 h2
  by_cases qv:v=0
  rotate_left
  ·have cv:(v != 0)=true:=by rw [bne_iff_ne];exact qv
   have Q:=Jh qv
   have HF:=Jh (show r=false by rw [<-HR.out];simp [A1,Q.out])
   clear qv
   go_wp2_with fail
   go_ret
   exact ⟨Af (HR.out.trans HF.out).symm,HX.out⟩
  subst qv
  by_cases qh:hi=0
  rotate_left
  ·have ch:(hi != 0)=true:=by rw [bne_iff_ne];exact qh
   have Q:=Jh qh
   have HF:=Jh (show r=false by rw [<-HR.out];simp [A1,Q.out])
   clear qh
   go_wp2_with fail
   go_ret
   exact ⟨Af (HR.out.trans HF.out).symm,HX.out⟩
  subst qh
  by_cases ql:lo=0
  rotate_left
  ·have cl:(lo != 0)=true:=by rw [bne_iff_ne];exact ql
   have Q:=Jh ql
   have HF:=Jh (show r=false by rw [<-HR.out];simp [A1,Q.out])
   clear ql
   go_wp2_with fail
   go_ret
   exact ⟨Af (HR.out.trans HF.out).symm,HX.out⟩
  subst ql
  by_cases qn:n=0
  rotate_left
  ·have cn:(n != 0)=true:=by rw [bne_iff_ne];exact qn
   have Q:=Jh qn
   have HF:=Jh (show r=false by rw [<-HR.out];simp [A1,Q.out])
   clear qn
   go_wp2_with fail
   go_ret
   exact ⟨Af (HR.out.trans HF.out).symm,HX.out⟩
  subst qn
  go_wp2_with fail
  all_goals go_ret
  all_goals exact ⟨Af (by refine Bool.eq_iff_iff.2 ?_;simp [A1];omega),HX.out⟩
 by_cases h4:op=4
 ·subst h4
  clear h1 h2 h3
  by_cases qv:v=0
  rotate_left
  ·have cv:(v != 0)=true:=by rw [bne_iff_ne];exact qv
   have Q:=Jh qv
   have HF:=Jh (show r=false by rw [<-HR.out];simp [A1,Q.out])
   clear qv
   go_wp2_with fail
   go_ret
   exact ⟨Af (HR.out.trans HF.out).symm,HX.out⟩
  subst qv
  by_cases qs:sig=0
  rotate_left
  ·have cs:(sig != 0)=true:=by rw [bne_iff_ne];exact qs
   have Q:=Jh qs
   have HF:=Jh (show r=false by rw [<-HR.out];simp [A1,Q.out])
   clear qs
   go_wp2_with fail
   go_ret
   exact ⟨Af (HR.out.trans HF.out).symm,HX.out⟩
  subst qs
  by_cases qh:hi=0
  rotate_left
  ·have ch:(hi != 0)=true:=by rw [bne_iff_ne];exact qh
   have Q:=Jh qh
   have HF:=Jh (show r=false by rw [<-HR.out];simp [A1,Q.out])
   clear qh
   go_wp2_with fail
   go_ret
   exact ⟨Af (HR.out.trans HF.out).symm,HX.out⟩
  subst qh
  by_cases ql:lo=0
  rotate_left
  ·have cl:(lo != 0)=true:=by rw [bne_iff_ne];exact ql
   have Q:=Jh ql
   have HF:=Jh (show r=false by rw [<-HR.out];simp [A1,Q.out])
   clear ql
   go_wp2_with fail
   go_ret
   exact ⟨Af (HR.out.trans HF.out).symm,HX.out⟩
  subst ql
  go_wp2_with fail
  all_goals go_ret
  all_goals exact ⟨Af (by refine Bool.eq_iff_iff.2 ?_;simp [A1];omega),HX.out⟩
 by_cases h5:op=5
 ·subst h5
  clear h1 h2 h3 h4
  by_cases qv:v=0
  rotate_left
  ·have cv:(v != 0)=true:=by rw [bne_iff_ne];exact qv
   have Q:=Jh qv
   have HF:=Jh (show r=false by rw [<-HR.out];simp [A1,Q.out])
   clear qv
   go_wp2_with fail
   go_ret
   exact ⟨Af (HR.out.trans HF.out).symm,HX.out⟩
  subst qv
  by_cases qs:sig=0
  rotate_left
  ·have cs:(sig != 0)=true:=by rw [bne_iff_ne];exact qs
   have Q:=Jh qs
   have HF:=Jh (show r=false by rw [<-HR.out];simp [A1,Q.out])
   clear qs
   go_wp2_with fail
   go_ret
   exact ⟨Af (HR.out.trans HF.out).symm,HX.out⟩
  subst qs
  by_cases qh:hi=0
  rotate_left
  ·have ch:(hi != 0)=true:=by rw [bne_iff_ne];exact qh
   have Q:=Jh qh
   have HF:=Jh (show r=false by rw [<-HR.out];simp [A1,Q.out])
   clear qh
   go_wp2_with fail
   go_ret
   exact ⟨Af (HR.out.trans HF.out).symm,HX.out⟩
  subst qh
  by_cases ql:lo=0
  rotate_left
  ·have cl:(lo != 0)=true:=by rw [bne_iff_ne];exact ql
   have Q:=Jh ql
   have HF:=Jh (show r=false by rw [<-HR.out];simp [A1,Q.out])
   clear ql
   go_wp2_with fail
   go_ret
   exact ⟨Af (HR.out.trans HF.out).symm,HX.out⟩
  subst ql
  go_wp2_with fail
  all_goals go_ret
  all_goals exact ⟨Af (by refine Bool.eq_iff_iff.2 ?_;simp [A1];omega),HX.out⟩
 by_cases h6:op=6
 ·subst h6
  clear h1 h2 h3 h4 h5
  by_cases qv:v=0
  rotate_left
  ·have cv:(v != 0)=true:=by rw [bne_iff_ne];exact qv
   have Q:=Jh qv
   have HF:=Jh (show r=false by rw [<-HR.out];simp [A1,Q.out])
   clear qv
   go_wp2_with fail
   go_ret
   exact ⟨Af (HR.out.trans HF.out).symm,HX.out⟩
  subst qv
  by_cases qs:sig=0
  rotate_left
  ·have cs:(sig != 0)=true:=by rw [bne_iff_ne];exact qs
   have Q:=Jh qs
   have HF:=Jh (show r=false by rw [<-HR.out];simp [A1,Q.out])
   clear qs
   go_wp2_with fail
   go_ret
   exact ⟨Af (HR.out.trans HF.out).symm,HX.out⟩
  subst qs
  by_cases qh:hi=0
  rotate_left
  ·have ch:(hi != 0)=true:=by rw [bne_iff_ne];exact qh
   have Q:=Jh qh
   have HF:=Jh (show r=false by rw [<-HR.out];simp [A1,Q.out])
   clear qh
   go_wp2_with fail
   go_ret
   exact ⟨Af (HR.out.trans HF.out).symm,HX.out⟩
  subst qh
  by_cases ql:lo=0
  rotate_left
  ·have cl:(lo != 0)=true:=by rw [bne_iff_ne];exact ql
   have Q:=Jh ql
   have HF:=Jh (show r=false by rw [<-HR.out];simp [A1,Q.out])
   clear ql
   go_wp2_with fail
   go_ret
   exact ⟨Af (HR.out.trans HF.out).symm,HX.out⟩
  subst ql
  by_cases qn:n=0
  rotate_left
  ·have cn:(n != 0)=true:=by rw [bne_iff_ne];exact qn
   have Q:=Jh qn
   have HF:=Jh (show r=false by rw [<-HR.out];simp [A1,Q.out])
   clear qn
   go_wp2_with fail
   go_ret
   exact ⟨Af (HR.out.trans HF.out).symm,HX.out⟩
  subst qn
  have HF:=Jh (show r=true by rw [<-HR.out];simp [A1])
  go_wp2_with fail
  go_ret
  exact ⟨Af (HR.out.trans HF.out).symm,HX.out⟩
 by_cases h7:op=7
 ·subst h7
  clear h1 h2 h3 h4 h5 h6
  by_cases qv:v=0
  rotate_left
  ·have cv:(v != 0)=true:=by rw [bne_iff_ne];exact qv
   have Q:=Jh qv
   have HF:=Jh (show r=false by rw [<-HR.out];simp [A1,Q.out])
   clear qv
   go_wp2_with fail
   go_ret
   exact ⟨Af (HR.out.trans HF.out).symm,HX.out⟩
  subst qv
  by_cases qs:sig=0
  rotate_left
  ·have cs:(sig != 0)=true:=by rw [bne_iff_ne];exact qs
   have Q:=Jh qs
   have HF:=Jh (show r=false by rw [<-HR.out];simp [A1,Q.out])
   clear qs
   go_wp2_with fail
   go_ret
   exact ⟨Af (HR.out.trans HF.out).symm,HX.out⟩
  subst qs
  by_cases qh:hi=0
  rotate_left
  ·have ch:(hi != 0)=true:=by rw [bne_iff_ne];exact qh
   have Q:=Jh qh
   have HF:=Jh (show r=false by rw [<-HR.out];simp [A1,Q.out])
   clear qh
   go_wp2_with fail
   go_ret
   exact ⟨Af (HR.out.trans HF.out).symm,HX.out⟩
  subst qh
  by_cases ql:lo=0
  rotate_left
  ·have cl:(lo != 0)=true:=by rw [bne_iff_ne];exact ql
   have Q:=Jh ql
   have HF:=Jh (show r=false by rw [<-HR.out];simp [A1,Q.out])
   clear ql
   go_wp2_with fail
   go_ret
   exact ⟨Af (HR.out.trans HF.out).symm,HX.out⟩
  subst ql
  by_cases qn:n=0
  rotate_left
  ·have cn:(n != 0)=true:=by rw [bne_iff_ne];exact qn
   have Q:=Jh qn
   have HF:=Jh (show r=false by rw [<-HR.out];simp [A1,Q.out])
   clear qn
   go_wp2_with fail
   go_ret
   exact ⟨Af (HR.out.trans HF.out).symm,HX.out⟩
  subst qn
  have HF:=Jh (show r=true by rw [<-HR.out];simp [A1])
  go_wp2_with fail
  go_ret
  exact ⟨Af (HR.out.trans HF.out).symm,HX.out⟩
 by_cases h8:op=8
 ·subst h8
  clear h1 h2 h3 h4 h5 h6 h7
  by_cases qv:v=0
  rotate_left
  ·have cv:(v != 0)=true:=by rw [bne_iff_ne];exact qv
   have Q:=Jh qv
   have HF:=Jh (show r=false by rw [<-HR.out];simp [A1,Q.out])
   clear qv
   go_wp2_with fail
   go_ret
   exact ⟨Af (HR.out.trans HF.out).symm,HX.out⟩
  subst qv
  by_cases qs:sig=0
  rotate_left
  ·have cs:(sig != 0)=true:=by rw [bne_iff_ne];exact qs
   have Q:=Jh qs
   have HF:=Jh (show r=false by rw [<-HR.out];simp [A1,Q.out])
   clear qs
   go_wp2_with fail
   go_ret
   exact ⟨Af (HR.out.trans HF.out).symm,HX.out⟩
  subst qs
  by_cases qh:hi=0
  rotate_left
  ·have ch:(hi != 0)=true:=by rw [bne_iff_ne];exact qh
   have Q:=Jh qh
   have HF:=Jh (show r=false by rw [<-HR.out];simp [A1,Q.out])
   clear qh
   go_wp2_with fail
   go_ret
   exact ⟨Af (HR.out.trans HF.out).symm,HX.out⟩
  subst qh
  by_cases ql:lo=0
  rotate_left
  ·have cl:(lo != 0)=true:=by rw [bne_iff_ne];exact ql
   have Q:=Jh ql
   have HF:=Jh (show r=false by rw [<-HR.out];simp [A1,Q.out])
   clear ql
   go_wp2_with fail
   go_ret
   exact ⟨Af (HR.out.trans HF.out).symm,HX.out⟩
  subst ql
  go_wp2_with fail
  all_goals go_ret
  all_goals exact ⟨Af (by refine Bool.eq_iff_iff.2 ?_;simp [A1];omega),HX.out⟩
 have b1:(op==1)=false:=by rw [beq_eq_false_iff_ne];exact h1
 have d1:(op != 1)=true:=by rw [bne_iff_ne];exact h1
 have B1:=Jh h1
 have b2:(op==2)=false:=by rw [beq_eq_false_iff_ne];exact h2
 have d2:(op != 2)=true:=by rw [bne_iff_ne];exact h2
 have B2:=Jh h2
 have b3:(op==3)=false:=by rw [beq_eq_false_iff_ne];exact h3
 have d3:(op != 3)=true:=by rw [bne_iff_ne];exact h3
 have B3:=Jh h3
 have b4:(op==4)=false:=by rw [beq_eq_false_iff_ne];exact h4
 have d4:(op != 4)=true:=by rw [bne_iff_ne];exact h4
 have B4:=Jh h4
 have b5:(op==5)=false:=by rw [beq_eq_false_iff_ne];exact h5
 have d5:(op != 5)=true:=by rw [bne_iff_ne];exact h5
 have B5:=Jh h5
 have b6:(op==6)=false:=by rw [beq_eq_false_iff_ne];exact h6
 have d6:(op != 6)=true:=by rw [bne_iff_ne];exact h6
 have B6:=Jh h6
 have b7:(op==7)=false:=by rw [beq_eq_false_iff_ne];exact h7
 have d7:(op != 7)=true:=by rw [bne_iff_ne];exact h7
 have B7:=Jh h7
 have b8:(op==8)=false:=by rw [beq_eq_false_iff_ne];exact h8
 have d8:(op != 8)=true:=by rw [bne_iff_ne];exact h8
 have B8:=Jh h8
 clear h1 h2 h3 h4 h5 h6 h7 h8
 by_cases qv:v=0
 rotate_left
 ·have cv:(v != 0)=true:=by rw [bne_iff_ne];exact qv
  have Q:=Jh qv
  have HF:=Jh (show r=false by rw [<-HR.out];simp [A1,Q.out,B1.out,B2.out,B3.out,B4.out,B5.out,B6.out,B7.out,B8.out])
  clear qv
  go_wp2_with fail
  go_ret
  exact ⟨Af (HR.out.trans HF.out).symm,HX.out⟩
 subst qv
 by_cases qs:sig=0
 rotate_left
 ·have cs:(sig != 0)=true:=by rw [bne_iff_ne];exact qs
  have Q:=Jh qs
  have HF:=Jh (show r=false by rw [<-HR.out];simp [A1,Q.out,B1.out,B2.out,B3.out,B4.out,B5.out,B6.out,B7.out,B8.out])
  clear qs
  go_wp2_with fail
  go_ret
  exact ⟨Af (HR.out.trans HF.out).symm,HX.out⟩
 subst qs
 by_cases qh:hi=0
 rotate_left
 ·have ch:(hi != 0)=true:=by rw [bne_iff_ne];exact qh
  have Q:=Jh qh
  have HF:=Jh (show r=false by rw [<-HR.out];simp [A1,Q.out,B1.out,B2.out,B3.out,B4.out,B5.out,B6.out,B7.out,B8.out])
  clear qh
  go_wp2_with fail
  go_ret
  exact ⟨Af (HR.out.trans HF.out).symm,HX.out⟩
 subst qh
 by_cases ql:lo=0
 rotate_left
 ·have cl:(lo != 0)=true:=by rw [bne_iff_ne];exact ql
  have Q:=Jh ql
  have HF:=Jh (show r=false by rw [<-HR.out];simp [A1,Q.out,B1.out,B2.out,B3.out,B4.out,B5.out,B6.out,B7.out,B8.out])
  clear ql
  go_wp2_with fail
  go_ret
  exact ⟨Af (HR.out.trans HF.out).symm,HX.out⟩
 subst ql
 by_cases qn:n=0
 rotate_left
 ·have cn:(n != 0)=true:=by rw [bne_iff_ne];exact qn
  have Q:=Jh qn
  have HF:=Jh (show r=false by rw [<-HR.out];simp [A1,Q.out,B1.out,B2.out,B3.out,B4.out,B5.out,B6.out,B7.out,B8.out])
  clear qn
  go_wp2_with fail
  go_ret
  exact ⟨Af (HR.out.trans HF.out).symm,HX.out⟩
 subst qn
 have HF:=Jh (show r=true by rw [<-HR.out];simp [A1,B1.out,B2.out,B3.out,B4.out,B5.out,B6.out,B7.out,B8.out])
 go_wp2_with fail
 go_ret
 exact ⟨Af (HR.out.trans HF.out).symm,HX.out⟩
end Go.Proofs.YtbliplladmamoaaGreat
