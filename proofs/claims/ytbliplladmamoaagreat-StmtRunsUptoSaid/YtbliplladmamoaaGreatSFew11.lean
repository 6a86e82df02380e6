/- filigreeref11.Few walked. -/
import Derived.Test.YtbliplladmamoaaGreatS02
import Derived.Deep.DeepCutAuto
import Derived.Deep.RegionHeld3
import Derived.Test.YtbliplladmamoaaGreatS00
set_option maxRecDepth 100000
set_option maxHeartbeats 8000000
set_option linter.all false
namespace Go.Proofs.YtbliplladmamoaaGreat
open Go.RowKit
def Nk:List Ai->Int->Bool
 | [],_=>true
 | s::l,n=>if 300<wrap64 (n+if s.w<0 then 0 else s.w) then false else Nk l (wrap64 (n+if s.w<0 then 0 else s.w))
def Aa8 (d:Bb):Bool:=P1 d&&(!decide ((40:Int)<(d.signals.length:Int))&&(!decide ((60:Int)<(d.procs.length:Int))&&Nk d.signals 0))
theorem Abk (d:Bb) (v:Value) (w:World) (hF:Ck w v d) (ag:C3 d<=1048576) (aq:d.signals.length<=1048576) (ar:d.procs.length<=1048576) :
  Calls Tryz.prog 5 #[v] w fun r w'=>r=.returned (.bool (Aa8 d))/\Ext w w':=by
 have aa:=Jh (fun W (h:Ext w W)=>Xm d v W (hF.ext h) ag)
 obtain ⟨sv,pv,cv,rfl,hS,hP,hC⟩:=hF
 have hX:=Ab w (.cells [sv,pv,cv].toArray 26)
 have hD:=Blk.new w [sv,pv,cv].toArray 26
 obtain ⟨a0,b0,o0,c0,rfl,an,ao,ha,hr⟩:=hS.open
 obtain ⟨ap,bp,op,cp,rfl,au,av,-,-⟩:=hP.open
 have HA:=Jh ha
 have HR:=Jh hr
 obtain ⟨t,ht⟩:∃ t,Aa8 d=t:=⟨_,rfl⟩
 have HT:=Jh ht
 rw [ht]
 clear hS hP hC ha hr ht ag
 go_enter Tryz.func5,Tryz.ntmps5
 go_upto_region 1 with fail
 generalize w.alloc _=w0 at *
 have HD:=Jh hD
 have HX:=Jh hX
 have d0:=hD.has
 clear hD hX
 unfold Aa8 at HT
 obtain ⟨q,hq⟩:∃ q,P1 d=q:=⟨_,rfl⟩
 rw [hq] at aa HT
 clear hq
 cases q
 ·obtain rfl:t=false:=by rw [<-HT.out];rfl
  go_wp2_with (first | ((with_reducible show Jl 26);refine Aa rfl 26 _ rfl rfl (d0) Aj rfl ?_) | (go_at_call 17;refine (aa.out w0 HX.out).mono ?_;rintro r w1 ⟨rfl,j⟩))
  go_ret
  exact ⟨rfl,HX.out.trans j⟩
 obtain ⟨q1,aj⟩:∃ q,decide ((40:Int)<(d.signals.length:Int))=q:=⟨_,rfl⟩
 rw [aj] at HT
 cases q1
 case true =>
  obtain rfl:t=false:=by rw [<-HT.out];rfl
  go_wp2_with (first | ((with_reducible show Jl 26);refine Aa rfl 26 _ rfl rfl (d0) Aj rfl ?_) | (go_at_call 17;refine (aa.out w0 HX.out).mono ?_;rintro r w1 ⟨rfl,j⟩;have e0:=(HD.out.ext j).has 0 _ rfl))
  go_ret
  exact ⟨rfl,HX.out.trans j⟩
 obtain ⟨q2,ak⟩:∃ q,decide ((60:Int)<(d.procs.length:Int))=q:=⟨_,rfl⟩
 rw [ak] at HT
 cases q2
 case true =>
  obtain rfl:t=false:=by rw [<-HT.out];rfl
  go_wp2_with (first | ((with_reducible show Jl 26);refine Aa rfl 26 _ rfl rfl (d0) Aj rfl ?_) | (go_at_call 17;refine (aa.out w0 HX.out).mono ?_;rintro r w1 ⟨rfl,j⟩;have e0:=(HD.out.ext j).has 0 _ rfl;have e1:=(HD.out.ext j).has 1 _ rfl))
  go_ret
  exact ⟨rfl,HX.out.trans j⟩
 have am:=Jh (show Nk d.signals 0=t from by rw [<-HT.out];rfl)
 clear HT
 go_upto_region 3 with (first | ((with_reducible show Jl 26);refine Aa rfl 26 _ rfl rfl (d0) Aj rfl ?_) | (go_at_call 17;refine (aa.out w0 HX.out).mono ?_;rintro r w1 ⟨rfl,j⟩;have e0:=(HD.out.ext j).has 0 _ rfl;have e1:=(HD.out.ext j).has 1 _ rfl))
 have ae:=Jh (HX.out.trans j)
 have al:=Jh (HD.out.ext j)
 clear j e0 e1 d0 HX HD aa aj ak
 go_wp2_with fail
 go_loopw [3,4] (fun n i wr=>∃ (k:Nat) (m:Int),k<=d.signals.length/\i=.int .i64 k/\n=.int .i64 m/\Nk (d.signals.drop k) m=t/\Ext w1 wr) (fun _ i _=>d.signals.length-(intOf i).toNat)
 case atStart=>exact ⟨0,0,Nat.zero_le _,rfl,rfl,by rw [List.drop_zero];exact am.out,Below.refl _ _⟩
 case round =>
  obtain ⟨k,m,hk,rfl,rfl,hm,hx⟩:=hrel
  have HM:=Jh hm
  have ab:=Jh hx
  have e0:=(al.out.ext hx).has 0 _ rfl
  clear hm hx
  by_cases af:k<d.signals.length
  ·obtain rfl:=HA.out (by omega)
   have y:=(Cq.get (HR.out.mono fun x _ b o h=>Has.ext h (ae.out.trans ab.out)) af) 1 _ rfl
   have ai:=HM.out
   rw [List.drop_eq_getElem_cons af,Nk] at ai
   have u:=Jh ai
   generalize d.signals[k].w=x at *
   clear ai
   rcases (show (x<0/\(if x<0 then (0:Int) else x)=0)\/(0<=x/\(if x<0 then (0:Int) else x)=x) by split<;>omega) with ⟨hx0,j⟩ | ⟨hx0,j⟩
   ·rw [j] at u
    try rw [Int.add_zero] at u
    clear j
    by_cases ac:300<wrap64 m
    ·obtain rfl:t=false:=by rw [<-u.out,if_pos ac]
     go_wp2_with fail
     go_ret
     exact ⟨rfl,ae.out.trans ab.out⟩
    ·have HN:=Jh (show Nk (d.signals.drop (k+1)) (wrap64 m)=t by rw [<-u.out,if_neg ac])
     go_wp2_with fail
     go_roundw
     case rel=>exact ⟨k+1,_,af,by go_num,rfl,HN.out,ab.out⟩
     case measure=>simp [intOf];omega
   ·rw [j] at u
    try rw [Int.add_zero] at u
    clear j
    by_cases ac:300<wrap64 (m+x)
    ·obtain rfl:t=false:=by rw [<-u.out,if_pos ac]
     go_wp2_with fail
     go_ret
     exact ⟨rfl,ae.out.trans ab.out⟩
    ·have HN:=Jh (show Nk (d.signals.drop (k+1)) (wrap64 (m+x))=t by rw [<-u.out,if_neg ac])
     go_wp2_with fail
     go_roundw
     case rel=>exact ⟨k+1,_,af,by go_num,rfl,HN.out,ab.out⟩
     case measure=>simp [intOf];omega
  ·obtain rfl:k=d.signals.length:=by omega
   obtain rfl:t=true:=by rw [<-HM.out,List.drop_length];rfl
   go_wp2_with fail
   go_ret
   exact ⟨rfl,ae.out.trans ab.out⟩
end Go.Proofs.YtbliplladmamoaaGreat
