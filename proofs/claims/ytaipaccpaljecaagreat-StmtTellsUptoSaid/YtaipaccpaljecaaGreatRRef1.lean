/- Laws and walks that a claim of this seat leans on: Ref1. -/
import Derived.Test.YtaipaccpaljecaaGreatR25
import Derived.Test.YtaipaccpaljecaaGreatR00
set_option maxRecDepth 100000
set_option maxHeartbeats 8000000
set_option linter.all false
namespace Go.Proofs.YtaipaccpaljecaaGreat
open Go.RowKit
theorem bitLen_le_iff (x w:Nat) (h:x<2^64):Lib.bitLen x<=w↔x / 2^w=0:=by
 rw [Nat.div_eq_zero_iff_lt (Nat.two_pow_pos w)]
 by_cases h0:x=0
 ·subst h0
  simp [Lib.bitLen,Lib.bitLenAux_zero,Nat.two_pow_pos]
 ·obtain ⟨h1,h2,h3⟩:=Lib.bitLenAux_bounds 64 x h h0
  change 1<=Lib.bitLen x at h1
  change 2^(Lib.bitLen x-1)<=x at h2
  change x<2^Lib.bitLen x at h3
  constructor
  ·intro hw
   exact Nat.lt_of_lt_of_le h3 (Nat.pow_le_pow_right (by decide) hw)
  ·intro hx
   by_cases hw:Lib.bitLen x<=w
   ·exact hw
   ·exfalso
    have:2^w<=2^(Lib.bitLen x-1):=Nat.pow_le_pow_right (by decide) (by omega)
    omega
theorem bitLen_le64 (x:Nat) (h:x<2^64):Lib.bitLen x<=64:=(bitLen_le_iff x 64 h).2 (Nat.div_eq_of_lt h)
theorem holds_shift (wd v:Int) (hv:u64r v) (h0:0<=wd):holds wd v=(v / 2^wd.toNat==0):=by
 obtain ⟨k,rfl⟩:=Int.eq_ofNat_of_zero_le h0
 obtain ⟨m,rfl⟩:=Int.eq_ofNat_of_zero_le hv.1
 have hm:m<2^64:=by have:=hv.2;omega
 have h:=bitLen_le_iff m k hm
 rw [Bool.eq_iff_iff,beq_iff_eq]
 simp only [holds,decide_eq_true_eq,Int.toNat_natCast]
 have e:((m:Int) / 2^k=0)↔m / 2^k=0:=by
  have:((m:Int) / 2^k)=((m / 2^k:Nat):Int):=by norm_cast
  rw [this];omega
 rw [e,<-h];omega
theorem holds_big (wd v:Int) (hv:u64r v) (h0:64<=wd):holds wd v=true:=by
 obtain ⟨m,rfl⟩:=Int.eq_ofNat_of_zero_le hv.1
 have hm:m<2^64:=by have:=hv.2;omega
 have:=bitLen_le64 m hm
 simp only [holds,decide_eq_true_eq,Int.toNat_natCast]
 omega
theorem Holds_calls (wd v:Int) (w:World) (hv:u64r v) (h0:0<=wd) (h1:wd<=9223372036854775807) :
  Calls Tryz.prog 194 #[.int .i64 wd,.int .u64 v] w fun r w'=>r=.returned (.bool (holds wd v))/\w'=w:=by
 by_cases h:64<=wd
 ·have HE:=Jh (holds_big wd v hv h)
  go_enter Tryz.func194,Tryz.ntmps194
  go_wp2_with fail
  go_ret
  exact ⟨ret_bool HE.out.symm,rfl⟩
 ·have HE:=Jh (holds_shift wd v hv h0)
  go_enter Tryz.func194,Tryz.ntmps194
  go_wp2_with fail
  go_ret
  exact ⟨ret_bool HE.out.symm,rfl⟩
theorem place_calls (ls:List Signal) (s:Value) (sig hi lo:Int) (w:World) (h:Sigs w s ls) (h1:i64r sig) :
  Calls Tryz.prog 257 #[s,.int .i64 sig,.int .i64 hi,.int .i64 lo] w fun r w'=>r=.returned (.bool (slice ls sig hi lo))/\w'=w:=by
 obtain ⟨a,b,o,cap,hs,hc1,hc2,ha,hr⟩:=h.open
 subst hs
 obtain ⟨h1,h2⟩:=h1
 by_cases g1:0<=sig
 ·obtain ⟨k,rfl⟩:=Int.eq_ofNat_of_zero_le g1
  by_cases g2:k<ls.length
  ·obtain rfl:=ha (by omega)
   have hc:=(Sigs.get hr g2) 1 _ rfl
   have HW:sigW ls (k:Int)=ls[k].w:=by simp [sigW,List.getElem?_eq_getElem g2]
   have HW2:=Jh HW
   clear HW
   generalize ls[k]=x at *
   go_enter Tryz.func257,Tryz.ntmps257
   go_wp2_with fail
   all_goals go_ret
   all_goals exact ⟨ret_bool (Bool.eq_iff_iff.2 (by unfold slice;rw [HW2.out];simp;omega)),rfl⟩
  ·go_enter Tryz.func257,Tryz.ntmps257
   go_wp2_with fail
   all_goals go_ret
   all_goals exact ⟨ret_bool (Bool.eq_iff_iff.2 (by unfold slice;simp;omega)),rfl⟩
 ·go_enter Tryz.func257,Tryz.ntmps257
  go_wp2_with fail
  all_goals go_ret
  all_goals exact ⟨ret_bool (Bool.eq_iff_iff.2 (by unfold slice;simp;omega)),rfl⟩
theorem parts_callsR (e:E) (cs:List Value) (w:World) (h:VE w cs e) :
  Calls Tryz.prog 238 #[.agg cs.toArray] w fun r w'=>r=.returned (.bool (partsR e.op e.l.length))/\Ext w w':=by
 obtain ⟨op,ewd,v,sig,hi,lo,m,l⟩:=e
 obtain ⟨s,rfl,hs⟩:=h
 obtain ⟨a,b,o,cap,rfl,hc1,hc2,ha,hr⟩:=hs.open
 clear hr ha hs
 simp only at hc1 ⊢
 generalize l.length=n at *
 have hx:=ext_alloc w (.cells (E.cells ⟨op,ewd,v,sig,hi,lo,m,l⟩ (.slice a n cap)).toArray 64)
 have hb:=Has.alloc w (E.cells ⟨op,ewd,v,sig,hi,lo,m,l⟩ (.slice a n cap)) 64
 go_enter Tryz.func238,Tryz.ntmps238
 go_upto_region 1 with fail
 generalize w.alloc _=w0 at *
 have g0:=hb 0 _ rfl
 have g7:=hb 7 _ rfl
 have HX:=Jh hx
 clear hx
 by_cases h1:op=1
 ·subst h1;go_wp2_with fail;go_ret;exact ⟨ret_bool (Bool.eq_iff_iff.2 (by simp [partsR])),HX.out⟩
 by_cases h2:op=2
 ·subst h2;go_wp2_with fail;go_ret;exact ⟨ret_bool (Bool.eq_iff_iff.2 (by simp [partsR])),HX.out⟩
 by_cases h3:op=3
 ·subst h3;go_wp2_with fail;go_ret;exact ⟨ret_bool (Bool.eq_iff_iff.2 (by simp [partsR];omega)),HX.out⟩
 by_cases h4:op=4
 ·subst h4;go_wp2_with fail;go_ret;exact ⟨ret_bool (Bool.eq_iff_iff.2 (by simp [partsR];omega)),HX.out⟩
 by_cases h5:op=5
 ·subst h5;go_wp2_with fail;go_ret;exact ⟨ret_bool (Bool.eq_iff_iff.2 (by simp [partsR];omega)),HX.out⟩
 by_cases h6:op=6
 ·subst h6;go_wp2_with fail;go_ret;exact ⟨ret_bool (Bool.eq_iff_iff.2 (by simp [partsR];omega)),HX.out⟩
 by_cases h7:op=7
 ·subst h7;go_wp2_with fail;go_ret;exact ⟨ret_bool (Bool.eq_iff_iff.2 (by simp [partsR];omega)),HX.out⟩
 by_cases h8:op=8
 ·subst h8;go_wp2_with fail;go_ret;exact ⟨ret_bool (Bool.eq_iff_iff.2 (by simp [partsR];omega)),HX.out⟩
 have b1:(op==1)=false:=by rw [beq_eq_false_iff_ne];exact h1
 have b2:(op==2)=false:=by rw [beq_eq_false_iff_ne];exact h2
 have b3:(op==3)=false:=by rw [beq_eq_false_iff_ne];exact h3
 have b4:(op==4)=false:=by rw [beq_eq_false_iff_ne];exact h4
 have b5:(op==5)=false:=by rw [beq_eq_false_iff_ne];exact h5
 have b6:(op==6)=false:=by rw [beq_eq_false_iff_ne];exact h6
 have b7:(op==7)=false:=by rw [beq_eq_false_iff_ne];exact h7
 have b8:(op==8)=false:=by rw [beq_eq_false_iff_ne];exact h8
 have HP:=Jh (show partsR op n=false by simp [partsR,h1,h2,h3,h4,h5,h6,h7,h8])
 clear h1 h2 h3 h4 h5 h6 h7 h8
 go_wp2_with fail
 go_ret
 exact ⟨ret_bool HP.out.symm,HX.out⟩
theorem fields_callsR (ls:List Signal) (e:E) (s0:Value) (cs:List Value) (w:World) (hS:Sigs w s0 ls) (h:VE w cs e) (hwf:e.wf) :
  Calls Tryz.prog 239 #[s0,.agg cs.toArray] w fun r w'=>r=.returned (.bool (fieldsR ls e.op e.w e.v e.sig e.hi e.lo e.n))/\Ext w w':=by
 have HV:=Jh ((E.wf_iff e).1 hwf).2.2.1
 have HI:=Jh ((E.wf_iff e).1 hwf).2.2.2.1
 have HW:=Jh ((E.wf_iff e).1 hwf).2.1
 clear hwf
 obtain ⟨op,ewd,v,sig,hi,lo,n,l⟩:=e
 obtain ⟨s,rfl,hs⟩:=h
 have hx:=ext_alloc w (.cells (E.cells ⟨op,ewd,v,sig,hi,lo,n,l⟩ s).toArray 64)
 have hb:=Has.alloc w (E.cells ⟨op,ewd,v,sig,hi,lo,n,l⟩ s) 64
 have hS1:=hS.ext hx
 obtain ⟨a,b,o,cap,rfl,hc1,hc2,ha,hr⟩:=hS.open
 clear hs ha hr hS
 simp only at HV HI HW ⊢
 go_enter Tryz.func239,Tryz.ntmps239
 go_upto_region 1 with fail
 generalize w.alloc _=w0 at *
 have g0:=hb 0 _ rfl
 have g1:=hb 1 _ rfl
 have g2:=hb 2 _ rfl
 have g3:=hb 3 _ rfl
 have g4:=hb 4 _ rfl
 have g5:=hb 5 _ rfl
 have g6:=hb 6 _ rfl
 clear hb
 obtain ⟨r,hr⟩:∃ r,fieldsR ls op ewd v sig hi lo n=r:=⟨_,rfl⟩
 have HR:=Jh hr
 have HX:=Jh hx
 have HS:=Jh hS1
 clear hr hx hS1
 by_cases h1:op=1
 ·subst h1
  by_cases qs:sig=0
  rotate_left
  ·have cs:(sig != 0)=true:=by rw [bne_iff_ne];exact qs
   have Q:=Jh qs
   have HF:=Jh (show r=false by rw [<-HR.out];simp [fieldsR,Q.out])
   clear qs
   go_wp2_with fail
   go_ret
   exact ⟨ret_bool (HR.out.trans HF.out).symm,HX.out⟩
  subst qs
  by_cases qh:hi=0
  rotate_left
  ·have ch:(hi != 0)=true:=by rw [bne_iff_ne];exact qh
   have Q:=Jh qh
   have HF:=Jh (show r=false by rw [<-HR.out];simp [fieldsR,Q.out])
   clear qh
   go_wp2_with fail
   go_ret
   exact ⟨ret_bool (HR.out.trans HF.out).symm,HX.out⟩
  subst qh
  by_cases ql:lo=0
  rotate_left
  ·have cl:(lo != 0)=true:=by rw [bne_iff_ne];exact ql
   have Q:=Jh ql
   have HF:=Jh (show r=false by rw [<-HR.out];simp [fieldsR,Q.out])
   clear ql
   go_wp2_with fail
   go_ret
   exact ⟨ret_bool (HR.out.trans HF.out).symm,HX.out⟩
  subst ql
  by_cases qn:n=0
  rotate_left
  ·have cn:(n != 0)=true:=by rw [bne_iff_ne];exact qn
   have Q:=Jh qn
   have HF:=Jh (show r=false by rw [<-HR.out];simp [fieldsR,Q.out])
   clear qn
   go_wp2_with fail
   go_ret
   exact ⟨ret_bool (HR.out.trans HF.out).symm,HX.out⟩
  subst qn
  by_cases r1:0<=ewd
  rotate_left
  ·have HF:=Jh (show r=false by rw [<-HR.out];simp [fieldsR];omega)
   go_wp2_with fail
   go_ret
   exact ⟨ret_bool (HR.out.trans HF.out).symm,HX.out⟩
  by_cases r2:ewd<=64
  rotate_left
  ·have HF:=Jh (show r=false by rw [<-HR.out];simp [fieldsR];omega)
   go_wp2_with fail
   go_ret
   exact ⟨ret_bool (HR.out.trans HF.out).symm,HX.out⟩
  by_cases r3:ewd=0
  ·have HF:=Jh (show r=true by rw [<-HR.out];simp [fieldsR,r3])
   subst r3
   go_wp2_with fail
   go_ret
   exact ⟨ret_bool (HR.out.trans HF.out).symm,HX.out⟩
  have c3:(ewd==0)=false:=by rw [beq_eq_false_iff_ne];exact r3
  have HF:=Jh (show r=holds ewd v by rw [<-HR.out];simp [fieldsR,r1,r2,r3])
  have HC:=Jh (Holds_calls ewd v w0 HV.out r1 (by omega))
  clear r3
  go_wp2_with (first | (go_at_call 194;refine HC.out.mono ?_;rintro r' w1 ⟨rfl,rfl⟩))
  go_ret
  exact ⟨ret_bool (HR.out.trans HF.out).symm,HX.out⟩
 by_cases h2:op=2
 ·subst h2
  clear h1
  by_cases qv:v=0
  rotate_left
  ·have cv:(v != 0)=true:=by rw [bne_iff_ne];exact qv
   have Q:=Jh qv
   have HF:=Jh (show r=false by rw [<-HR.out];simp [fieldsR,Q.out])
   clear qv
   go_wp2_with fail
   go_ret
   exact ⟨ret_bool (HR.out.trans HF.out).symm,HX.out⟩
  subst qv
  by_cases qn:n=0
  rotate_left
  ·have cn:(n != 0)=true:=by rw [bne_iff_ne];exact qn
   have Q:=Jh qn
   have HF:=Jh (show r=false by rw [<-HR.out];simp [fieldsR,Q.out])
   clear qn
   go_wp2_with fail
   go_ret
   exact ⟨ret_bool (HR.out.trans HF.out).symm,HX.out⟩
  subst qn
  have HF:=Jh (show r=slice ls sig hi lo by rw [<-HR.out];simp [fieldsR])
  have HC:=Jh (place_calls ls _ sig hi lo w0 HS.out HI.out)
  go_wp2_with (first | (go_at_call 257;refine HC.out.mono ?_;rintro r' w1 ⟨rfl,rfl⟩))
  go_ret
  exact ⟨ret_bool (HR.out.trans HF.out).symm,HX.out⟩
 by_cases h3:op=3
 ·subst h3
  clear h1 h2
  by_cases qv:v=0
  rotate_left
  ·have cv:(v != 0)=true:=by rw [bne_iff_ne];exact qv
   have Q:=Jh qv
   have HF:=Jh (show r=false by rw [<-HR.out];simp [fieldsR,Q.out])
   clear qv
   go_wp2_with fail
   go_ret
   exact ⟨ret_bool (HR.out.trans HF.out).symm,HX.out⟩
  subst qv
  by_cases qh:hi=0
  rotate_left
  ·have ch:(hi != 0)=true:=by rw [bne_iff_ne];exact qh
   have Q:=Jh qh
   have HF:=Jh (show r=false by rw [<-HR.out];simp [fieldsR,Q.out])
   clear qh
   go_wp2_with fail
   go_ret
   exact ⟨ret_bool (HR.out.trans HF.out).symm,HX.out⟩
  subst qh
  by_cases ql:lo=0
  rotate_left
  ·have cl:(lo != 0)=true:=by rw [bne_iff_ne];exact ql
   have Q:=Jh ql
   have HF:=Jh (show r=false by rw [<-HR.out];simp [fieldsR,Q.out])
   clear ql
   go_wp2_with fail
   go_ret
   exact ⟨ret_bool (HR.out.trans HF.out).symm,HX.out⟩
  subst ql
  by_cases qn:n=0
  rotate_left
  ·have cn:(n != 0)=true:=by rw [bne_iff_ne];exact qn
   have Q:=Jh qn
   have HF:=Jh (show r=false by rw [<-HR.out];simp [fieldsR,Q.out])
   clear qn
   go_wp2_with fail
   go_ret
   exact ⟨ret_bool (HR.out.trans HF.out).symm,HX.out⟩
  subst qn
  go_wp2_with fail
  all_goals go_ret
  all_goals exact ⟨ret_bool (by refine Bool.eq_iff_iff.2 ?_;simp [fieldsR];omega),HX.out⟩
 by_cases h4:op=4
 ·subst h4
  clear h1 h2 h3
  by_cases qv:v=0
  rotate_left
  ·have cv:(v != 0)=true:=by rw [bne_iff_ne];exact qv
   have Q:=Jh qv
   have HF:=Jh (show r=false by rw [<-HR.out];simp [fieldsR,Q.out])
   clear qv
   go_wp2_with fail
   go_ret
   exact ⟨ret_bool (HR.out.trans HF.out).symm,HX.out⟩
  subst qv
  by_cases qs:sig=0
  rotate_left
  ·have cs:(sig != 0)=true:=by rw [bne_iff_ne];exact qs
   have Q:=Jh qs
   have HF:=Jh (show r=false by rw [<-HR.out];simp [fieldsR,Q.out])
   clear qs
   go_wp2_with fail
   go_ret
   exact ⟨ret_bool (HR.out.trans HF.out).symm,HX.out⟩
  subst qs
  by_cases qh:hi=0
  rotate_left
  ·have ch:(hi != 0)=true:=by rw [bne_iff_ne];exact qh
   have Q:=Jh qh
   have HF:=Jh (show r=false by rw [<-HR.out];simp [fieldsR,Q.out])
   clear qh
   go_wp2_with fail
   go_ret
   exact ⟨ret_bool (HR.out.trans HF.out).symm,HX.out⟩
  subst qh
  by_cases ql:lo=0
  rotate_left
  ·have cl:(lo != 0)=true:=by rw [bne_iff_ne];exact ql
   have Q:=Jh ql
   have HF:=Jh (show r=false by rw [<-HR.out];simp [fieldsR,Q.out])
   clear ql
   go_wp2_with fail
   go_ret
   exact ⟨ret_bool (HR.out.trans HF.out).symm,HX.out⟩
  subst ql
  go_wp2_with fail
  all_goals go_ret
  all_goals exact ⟨ret_bool (by refine Bool.eq_iff_iff.2 ?_;simp [fieldsR];omega),HX.out⟩
 by_cases h5:op=5
 ·subst h5
  clear h1 h2 h3 h4
  by_cases qv:v=0
  rotate_left
  ·have cv:(v != 0)=true:=by rw [bne_iff_ne];exact qv
   have Q:=Jh qv
   have HF:=Jh (show r=false by rw [<-HR.out];simp [fieldsR,Q.out])
   clear qv
   go_wp2_with fail
   go_ret
   exact ⟨ret_bool (HR.out.trans HF.out).symm,HX.out⟩
  subst qv
  by_cases qs:sig=0
  rotate_left
  ·have cs:(sig != 0)=true:=by rw [bne_iff_ne];exact qs
   have Q:=Jh qs
   have HF:=Jh (show r=false by rw [<-HR.out];simp [fieldsR,Q.out])
   clear qs
   go_wp2_with fail
   go_ret
   exact ⟨ret_bool (HR.out.trans HF.out).symm,HX.out⟩
  subst qs
  by_cases qh:hi=0
  rotate_left
  ·have ch:(hi != 0)=true:=by rw [bne_iff_ne];exact qh
   have Q:=Jh qh
   have HF:=Jh (show r=false by rw [<-HR.out];simp [fieldsR,Q.out])
   clear qh
   go_wp2_with fail
   go_ret
   exact ⟨ret_bool (HR.out.trans HF.out).symm,HX.out⟩
  subst qh
  by_cases ql:lo=0
  rotate_left
  ·have cl:(lo != 0)=true:=by rw [bne_iff_ne];exact ql
   have Q:=Jh ql
   have HF:=Jh (show r=false by rw [<-HR.out];simp [fieldsR,Q.out])
   clear ql
   go_wp2_with fail
   go_ret
   exact ⟨ret_bool (HR.out.trans HF.out).symm,HX.out⟩
  subst ql
  go_wp2_with fail
  all_goals go_ret
  all_goals exact ⟨ret_bool (by refine Bool.eq_iff_iff.2 ?_;simp [fieldsR];omega),HX.out⟩
 by_cases h6:op=6
 ·subst h6
  clear h1 h2 h3 h4 h5
  by_cases qv:v=0
  rotate_left
  ·have cv:(v != 0)=true:=by rw [bne_iff_ne];exact qv
   have Q:=Jh qv
   have HF:=Jh (show r=false by rw [<-HR.out];simp [fieldsR,Q.out])
   clear qv
   go_wp2_with fail
   go_ret
   exact ⟨ret_bool (HR.out.trans HF.out).symm,HX.out⟩
  subst qv
  by_cases qs:sig=0
  rotate_left
  ·have cs:(sig != 0)=true:=by rw [bne_iff_ne];exact qs
   have Q:=Jh qs
   have HF:=Jh (show r=false by rw [<-HR.out];simp [fieldsR,Q.out])
   clear qs
   go_wp2_with fail
   go_ret
   exact ⟨ret_bool (HR.out.trans HF.out).symm,HX.out⟩
  subst qs
  by_cases qh:hi=0
  rotate_left
  ·have ch:(hi != 0)=true:=by rw [bne_iff_ne];exact qh
   have Q:=Jh qh
   have HF:=Jh (show r=false by rw [<-HR.out];simp [fieldsR,Q.out])
   clear qh
   go_wp2_with fail
   go_ret
   exact ⟨ret_bool (HR.out.trans HF.out).symm,HX.out⟩
  subst qh
  by_cases ql:lo=0
  rotate_left
  ·have cl:(lo != 0)=true:=by rw [bne_iff_ne];exact ql
   have Q:=Jh ql
   have HF:=Jh (show r=false by rw [<-HR.out];simp [fieldsR,Q.out])
   clear ql
   go_wp2_with fail
   go_ret
   exact ⟨ret_bool (HR.out.trans HF.out).symm,HX.out⟩
  subst ql
  by_cases qn:n=0
  rotate_left
  ·have cn:(n != 0)=true:=by rw [bne_iff_ne];exact qn
   have Q:=Jh qn
   have HF:=Jh (show r=false by rw [<-HR.out];simp [fieldsR,Q.out])
   clear qn
   go_wp2_with fail
   go_ret
   exact ⟨ret_bool (HR.out.trans HF.out).symm,HX.out⟩
  subst qn
  have HF:=Jh (show r=true by rw [<-HR.out];simp [fieldsR])
  go_wp2_with fail
  go_ret
  exact ⟨ret_bool (HR.out.trans HF.out).symm,HX.out⟩
 by_cases h7:op=7
 ·subst h7
  clear h1 h2 h3 h4 h5 h6
  by_cases qv:v=0
  rotate_left
  ·have cv:(v != 0)=true:=by rw [bne_iff_ne];exact qv
   have Q:=Jh qv
   have HF:=Jh (show r=false by rw [<-HR.out];simp [fieldsR,Q.out])
   clear qv
   go_wp2_with fail
   go_ret
   exact ⟨ret_bool (HR.out.trans HF.out).symm,HX.out⟩
  subst qv
  by_cases qs:sig=0
  rotate_left
  ·have cs:(sig != 0)=true:=by rw [bne_iff_ne];exact qs
   have Q:=Jh qs
   have HF:=Jh (show r=false by rw [<-HR.out];simp [fieldsR,Q.out])
   clear qs
   go_wp2_with fail
   go_ret
   exact ⟨ret_bool (HR.out.trans HF.out).symm,HX.out⟩
  subst qs
  by_cases qh:hi=0
  rotate_left
  ·have ch:(hi != 0)=true:=by rw [bne_iff_ne];exact qh
   have Q:=Jh qh
   have HF:=Jh (show r=false by rw [<-HR.out];simp [fieldsR,Q.out])
   clear qh
   go_wp2_with fail
   go_ret
   exact ⟨ret_bool (HR.out.trans HF.out).symm,HX.out⟩
  subst qh
  by_cases ql:lo=0
  rotate_left
  ·have cl:(lo != 0)=true:=by rw [bne_iff_ne];exact ql
   have Q:=Jh ql
   have HF:=Jh (show r=false by rw [<-HR.out];simp [fieldsR,Q.out])
   clear ql
   go_wp2_with fail
   go_ret
   exact ⟨ret_bool (HR.out.trans HF.out).symm,HX.out⟩
  subst ql
  by_cases qn:n=0
  rotate_left
  ·have cn:(n != 0)=true:=by rw [bne_iff_ne];exact qn
   have Q:=Jh qn
   have HF:=Jh (show r=false by rw [<-HR.out];simp [fieldsR,Q.out])
   clear qn
   go_wp2_with fail
   go_ret
   exact ⟨ret_bool (HR.out.trans HF.out).symm,HX.out⟩
  subst qn
  have HF:=Jh (show r=true by rw [<-HR.out];simp [fieldsR])
  go_wp2_with fail
  go_ret
  exact ⟨ret_bool (HR.out.trans HF.out).symm,HX.out⟩
 by_cases h8:op=8
 ·subst h8
  clear h1 h2 h3 h4 h5 h6 h7
  by_cases qv:v=0
  rotate_left
  ·have cv:(v != 0)=true:=by rw [bne_iff_ne];exact qv
   have Q:=Jh qv
   have HF:=Jh (show r=false by rw [<-HR.out];simp [fieldsR,Q.out])
   clear qv
   go_wp2_with fail
   go_ret
   exact ⟨ret_bool (HR.out.trans HF.out).symm,HX.out⟩
  subst qv
  by_cases qs:sig=0
  rotate_left
  ·have cs:(sig != 0)=true:=by rw [bne_iff_ne];exact qs
   have Q:=Jh qs
   have HF:=Jh (show r=false by rw [<-HR.out];simp [fieldsR,Q.out])
   clear qs
   go_wp2_with fail
   go_ret
   exact ⟨ret_bool (HR.out.trans HF.out).symm,HX.out⟩
  subst qs
  by_cases qh:hi=0
  rotate_left
  ·have ch:(hi != 0)=true:=by rw [bne_iff_ne];exact qh
   have Q:=Jh qh
   have HF:=Jh (show r=false by rw [<-HR.out];simp [fieldsR,Q.out])
   clear qh
   go_wp2_with fail
   go_ret
   exact ⟨ret_bool (HR.out.trans HF.out).symm,HX.out⟩
  subst qh
  by_cases ql:lo=0
  rotate_left
  ·have cl:(lo != 0)=true:=by rw [bne_iff_ne];exact ql
   have Q:=Jh ql
   have HF:=Jh (show r=false by rw [<-HR.out];simp [fieldsR,Q.out])
   clear ql
   go_wp2_with fail
   go_ret
   exact ⟨ret_bool (HR.out.trans HF.out).symm,HX.out⟩
  subst ql
  go_wp2_with fail
  all_goals go_ret
  all_goals exact ⟨ret_bool (by refine Bool.eq_iff_iff.2 ?_;simp [fieldsR];omega),HX.out⟩
 have b1:(op==1)=false:=by rw [beq_eq_false_iff_ne];exact h1
 have d1:(op != 1)=true:=by rw [bne_iff_ne];exact h1
 have B1:=Jh h1
 have b2:(op==2)=false:=by rw [beq_eq_false_iff_ne];exact h2
 have d2:(op != 2)=true:=by rw [bne_iff_ne];exact h2
 have B2:=Jh h2
 have b3:(op==3)=false:=by rw [beq_eq_false_iff_ne];exact h3
 have d3:(op != 3)=true:=by rw [bne_iff_ne];exact h3
 have B3:=Jh h3
 have b4:(op==4)=false:=by rw [beq_eq_false_iff_ne];exact h4
 have d4:(op != 4)=true:=by rw [bne_iff_ne];exact h4
 have B4:=Jh h4
 have b5:(op==5)=false:=by rw [beq_eq_false_iff_ne];exact h5
 have d5:(op != 5)=true:=by rw [bne_iff_ne];exact h5
 have B5:=Jh h5
 have b6:(op==6)=false:=by rw [beq_eq_false_iff_ne];exact h6
 have d6:(op != 6)=true:=by rw [bne_iff_ne];exact h6
 have B6:=Jh h6
 have b7:(op==7)=false:=by rw [beq_eq_false_iff_ne];exact h7
 have d7:(op != 7)=true:=by rw [bne_iff_ne];exact h7
 have B7:=Jh h7
 have b8:(op==8)=false:=by rw [beq_eq_false_iff_ne];exact h8
 have d8:(op != 8)=true:=by rw [bne_iff_ne];exact h8
 have B8:=Jh h8
 clear h1 h2 h3 h4 h5 h6 h7 h8
 by_cases qv:v=0
 rotate_left
 ·have cv:(v != 0)=true:=by rw [bne_iff_ne];exact qv
  have Q:=Jh qv
  have HF:=Jh (show r=false by rw [<-HR.out];simp [fieldsR,Q.out,B1.out,B2.out,B3.out,B4.out,B5.out,B6.out,B7.out,B8.out])
  clear qv
  go_wp2_with fail
  go_ret
  exact ⟨ret_bool (HR.out.trans HF.out).symm,HX.out⟩
 subst qv
 by_cases qs:sig=0
 rotate_left
 ·have cs:(sig != 0)=true:=by rw [bne_iff_ne];exact qs
  have Q:=Jh qs
  have HF:=Jh (show r=false by rw [<-HR.out];simp [fieldsR,Q.out,B1.out,B2.out,B3.out,B4.out,B5.out,B6.out,B7.out,B8.out])
  clear qs
  go_wp2_with fail
  go_ret
  exact ⟨ret_bool (HR.out.trans HF.out).symm,HX.out⟩
 subst qs
 by_cases qh:hi=0
 rotate_left
 ·have ch:(hi != 0)=true:=by rw [bne_iff_ne];exact qh
  have Q:=Jh qh
  have HF:=Jh (show r=false by rw [<-HR.out];simp [fieldsR,Q.out,B1.out,B2.out,B3.out,B4.out,B5.out,B6.out,B7.out,B8.out])
  clear qh
  go_wp2_with fail
  go_ret
  exact ⟨ret_bool (HR.out.trans HF.out).symm,HX.out⟩
 subst qh
 by_cases ql:lo=0
 rotate_left
 ·have cl:(lo != 0)=true:=by rw [bne_iff_ne];exact ql
  have Q:=Jh ql
  have HF:=Jh (show r=false by rw [<-HR.out];simp [fieldsR,Q.out,B1.out,B2.out,B3.out,B4.out,B5.out,B6.out,B7.out,B8.out])
  clear ql
  go_wp2_with fail
  go_ret
  exact ⟨ret_bool (HR.out.trans HF.out).symm,HX.out⟩
 subst ql
 by_cases qn:n=0
 rotate_left
 ·have cn:(n != 0)=true:=by rw [bne_iff_ne];exact qn
  have Q:=Jh qn
  have HF:=Jh (show r=false by rw [<-HR.out];simp [fieldsR,Q.out,B1.out,B2.out,B3.out,B4.out,B5.out,B6.out,B7.out,B8.out])
  clear qn
  go_wp2_with fail
  go_ret
  exact ⟨ret_bool (HR.out.trans HF.out).symm,HX.out⟩
 subst qn
 have HF:=Jh (show r=true by rw [<-HR.out];simp [fieldsR,B1.out,B2.out,B3.out,B4.out,B5.out,B6.out,B7.out,B8.out])
 go_wp2_with fail
 go_ret
 exact ⟨ret_bool (HR.out.trans HF.out).symm,HX.out⟩
end Go.Proofs.YtaipaccpaljecaaGreat
