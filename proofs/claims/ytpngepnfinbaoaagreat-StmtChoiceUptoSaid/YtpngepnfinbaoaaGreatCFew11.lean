/- filigreeref11.Few walked. -/
import Derived.Test.YtpngepnfinbaoaaGreatC02
import Derived.Deep.DeepCutAuto
import Derived.Deep.RegionHeld3
import Derived.Test.YtpngepnfinbaoaaGreatC00
set_option maxRecDepth 100000
set_option maxHeartbeats 8000000
set_option linter.all false
namespace Go.Proofs.YtpngepnfinbaoaaGreat
open Go.RowKit
def few11L:List Signal->Int->Bool
 | [],_=>true
 | s::l,n=>if 300<wrap64 (n+if s.w<0 then 0 else s.w) then false else few11L l (wrap64 (n+if s.w<0 then 0 else s.w))
def few11 (d:Flat):Bool:=small d&&(!decide ((40:Int)<(d.signals.length:Int))&&(!decide ((60:Int)<(d.procs.length:Int))&&few11L d.signals 0))
theorem Few_calls (d:Flat) (v:Value) (w:World) (hF:FlatV w v d) (hok1:mNodes d<=1048576) (hl1:d.signals.length<=1048576) (hl2:d.procs.length<=1048576) :
  Calls Tryz.prog 5 #[v] w fun r w'=>r=.returned (.bool (few11 d))/\Ext w w':=by
 have HSM:=Jh (fun W (h:Ext w W)=>Small_calls d v W (hF.ext h) hok1)
 obtain ⟨sv,pv,cv,rfl,hS,hP,hC⟩:=hF
 have hX:=ext_alloc w (.cells [sv,pv,cv].toArray 26)
 have hD:=Blk.new w [sv,pv,cv].toArray 26
 obtain ⟨a0,b0,o0,c0,rfl,hc1,hc2,ha,hr⟩:=hS.open
 obtain ⟨ap,bp,op,cp,rfl,hp1,hp2,-,-⟩:=hP.open
 have HA:=Jh ha
 have HR:=Jh hr
 obtain ⟨t,ht⟩:∃ t,few11 d=t:=⟨_,rfl⟩
 have HT:=Jh ht
 rw [ht]
 clear hS hP hC ha hr ht hok1
 go_enter Tryz.func5,Tryz.ntmps5
 go_upto_region 1 with fail
 generalize w.alloc _=w0 at *
 have HD:=Jh hD
 have HX:=Jh hX
 have d0:=hD.has
 clear hD hX
 unfold few11 at HT
 obtain ⟨q,hq⟩:∃ q,small d=q:=⟨_,rfl⟩
 rw [hq] at HSM HT
 clear hq
 cases q
 ·obtain rfl:t=false:=by rw [<-HT.out];rfl
  go_wp2_with (first | ((with_reducible show Jl 26);refine Jm 26 (d0) agg_Flat rfl ?_) | (go_at_call 19;refine (HSM.out w0 HX.out).mono ?_;rintro r w1 ⟨rfl,hx1⟩))
  go_ret
  exact ⟨rfl,HX.out.trans hx1⟩
 obtain ⟨q1,hq1⟩:∃ q,decide ((40:Int)<(d.signals.length:Int))=q:=⟨_,rfl⟩
 rw [hq1] at HT
 cases q1
 case true =>
  obtain rfl:t=false:=by rw [<-HT.out];rfl
  go_wp2_with (first | ((with_reducible show Jl 26);refine Jm 26 (d0) agg_Flat rfl ?_) | (go_at_call 19;refine (HSM.out w0 HX.out).mono ?_;rintro r w1 ⟨rfl,hx1⟩;have e0:=(HD.out.ext hx1).has 0 _ rfl))
  go_ret
  exact ⟨rfl,HX.out.trans hx1⟩
 obtain ⟨q2,hq2⟩:∃ q,decide ((60:Int)<(d.procs.length:Int))=q:=⟨_,rfl⟩
 rw [hq2] at HT
 cases q2
 case true =>
  obtain rfl:t=false:=by rw [<-HT.out];rfl
  go_wp2_with (first | ((with_reducible show Jl 26);refine Jm 26 (d0) agg_Flat rfl ?_) | (go_at_call 19;refine (HSM.out w0 HX.out).mono ?_;rintro r w1 ⟨rfl,hx1⟩;have e0:=(HD.out.ext hx1).has 0 _ rfl;have e1:=(HD.out.ext hx1).has 1 _ rfl))
  go_ret
  exact ⟨rfl,HX.out.trans hx1⟩
 have HT2:=Jh (show few11L d.signals 0=t from by rw [<-HT.out];rfl)
 clear HT
 go_upto_region 3 with (first | ((with_reducible show Jl 26);refine Jm 26 (d0) agg_Flat rfl ?_) | (go_at_call 19;refine (HSM.out w0 HX.out).mono ?_;rintro r w1 ⟨rfl,hx1⟩;have e0:=(HD.out.ext hx1).has 0 _ rfl;have e1:=(HD.out.ext hx1).has 1 _ rfl))
 have HX1:=Jh (HX.out.trans hx1)
 have HD1:=Jh (HD.out.ext hx1)
 clear hx1 e0 e1 d0 HX HD HSM hq1 hq2
 go_wp2_with fail
 go_loopw [3,4] (fun n i wr=>∃ (k:Nat) (m:Int),k<=d.signals.length/\i=.int .i64 k/\n=.int .i64 m/\few11L (d.signals.drop k) m=t/\Ext w1 wr) (fun _ i _=>d.signals.length-(intOf i).toNat)
 case atStart=>exact ⟨0,0,Nat.zero_le _,rfl,rfl,by rw [List.drop_zero];exact HT2.out,Below.refl _ _⟩
 case round =>
  obtain ⟨k,m,hk,rfl,rfl,hm,hx⟩:=hrel
  have HM:=Jh hm
  have HXR:=Jh hx
  have e0:=(HD1.out.ext hx).has 0 _ rfl
  clear hm hx
  by_cases hlt:k<d.signals.length
  ·obtain rfl:=HA.out (by omega)
   have y:=(Sigs.get (HR.out.mono fun x _ b o h=>Has.ext h (HX1.out.trans HXR.out)) hlt) 1 _ rfl
   have hst:=HM.out
   rw [List.drop_eq_getElem_cons hlt,few11L] at hst
   have HST:=Jh hst
   generalize d.signals[k].w=x at *
   clear hst
   rcases (show (x<0/\(if x<0 then (0:Int) else x)=0)\/(0<=x/\(if x<0 then (0:Int) else x)=x) by split<;>omega) with ⟨hx0,hx1⟩ | ⟨hx0,hx1⟩
   ·rw [hx1] at HST
    try rw [Int.add_zero] at HST
    clear hx1
    by_cases hgt:300<wrap64 m
    ·obtain rfl:t=false:=by rw [<-HST.out,if_pos hgt]
     go_wp2_with fail
     go_ret
     exact ⟨rfl,HX1.out.trans HXR.out⟩
    ·have HN:=Jh (show few11L (d.signals.drop (k+1)) (wrap64 m)=t by rw [<-HST.out,if_neg hgt])
     go_wp2_with fail
     go_roundw
     case rel=>exact ⟨k+1,_,hlt,by go_num,rfl,HN.out,HXR.out⟩
     case measure=>simp [intOf];omega
   ·rw [hx1] at HST
    try rw [Int.add_zero] at HST
    clear hx1
    by_cases hgt:300<wrap64 (m+x)
    ·obtain rfl:t=false:=by rw [<-HST.out,if_pos hgt]
     go_wp2_with fail
     go_ret
     exact ⟨rfl,HX1.out.trans HXR.out⟩
    ·have HN:=Jh (show few11L (d.signals.drop (k+1)) (wrap64 (m+x))=t by rw [<-HST.out,if_neg hgt])
     go_wp2_with fail
     go_roundw
     case rel=>exact ⟨k+1,_,hlt,by go_num,rfl,HN.out,HXR.out⟩
     case measure=>simp [intOf];omega
  ·obtain rfl:k=d.signals.length:=by omega
   obtain rfl:t=true:=by rw [<-HM.out,List.drop_length];rfl
   go_wp2_with fail
   go_ret
   exact ⟨rfl,HX1.out.trans HXR.out⟩
end Go.Proofs.YtpngepnfinbaoaaGreat
