/- The law CycleAny walked: in whatever order processes of wires run, they come to the same rest. -/
import Derived.Test.YtoaamjgfhppppaaGreatYSweepL
import Derived.Test.YtoaamjgfhppppaaGreatY31
import Derived.Test.YtoaamjgfhppppaaGreatY32
import Derived.Test.YtoaamjgfhppppaaGreatY29
import Derived.Test.YtoaamjgfhppppaaGreatY00
set_option maxRecDepth 100000
set_option maxHeartbeats 8000000
set_option linter.all false
namespace Go.Proofs.YtoaamjgfhppppaaGreat
open Go.RowKit
theorem settle_cases (d:Flat) (vs:List Nat):((lookM d).1=0/\valsOk d vs=true/\settleR d vs=(settleM d vs,0))\/(∃ e,e≠0/\settleR d vs=([],e)):=by
 unfold settleR
 by_cases h:playE d vs=0
 ·rw [if_pos h];exact .inl ⟨(playE_zero.1 h).1,(playE_zero.1 h).2,rfl⟩
 ·rw [if_neg h];exact .inr ⟨_,h,rfl⟩
theorem CycleAny_calls (d:Flat) (v:Value) (vs:List Nat) (s:Value) (by':Int) (w:World) (hF:FlatV w v d) (hok:d.ok) (hs:Us w s vs) (h64s:us64 vs) (hls:vs.length+1<=1048576) (hby:i64r by') :
  Calls Tryz.prog 5 #[v,s,.int .i64 by'] w fun r w'=>r=.returned (.bool true)/\Ext w w':=by
 have HF:=Jh (fun W (h:Ext w W)=>hF.ext h)
 have HFW:=Jh (fun W (h:Ext w W)=>few13_calls d v vs s W (hF.ext h) hok (hs.ext h))
 have HST:=Jh (fun W (h:Ext w W)=>Settle_calls13 d v vs s W (hF.ext h) hok (hs.ext h) h64s (by omega))
 have HOK:=Jh hok
 have HUS:=Jh (fun W (h:Ext w W)=>hs.ext h)
 obtain ⟨sv,pv,cv,rfl,hS,hP,hC⟩:=hF
 obtain ⟨ap,bp,op,cp,rfl,hp1,hp2,hpa,hpr⟩:=hP.open
 have HPA:=Jh hpa
 have HPR:=Jh hpr
 obtain ⟨av,bv,ov',capv,rfl,-,-,-,-⟩:=hs.open
 have x1:=ext_alloc w (.cells [sv,.slice ap d.procs.length cp,cv].toArray 26)
 have hD:=Blk.new w [sv,.slice ap d.procs.length cp,cv].toArray 26
 have hsl:=hok.signals
 have hpl:=hok.procs
 unfold i64r at hby
 clear hS hP hC hok hs h64s hpa hpr
 go_enter Tryz.func5,Tryz.ntmps5
 go_upto_region 1 with fail
 generalize w.alloc _=w0 at *
 have HX0:=Jh x1
 have HD0:=Jh hD
 clear x1 hD
 go_upto_region 4 with (go_at_call 17;refine (live13_calls _).mono ?_;rintro r w1 ⟨rfl,hx1⟩)
 have HD:=Jh (HD0.out.ext hx1)
 have HX:=Jh (HX0.out.trans hx1)
 clear hx1 HD0 HX0
 have d1:=HD.out.has
 obtain ⟨fw,hfw⟩:∃ fw,few13 d vs=fw:=⟨_,rfl⟩
 rw [hfw] at HFW
 clear hfw
 cases fw
 ·go_wp2_with (first | ((with_reducible show Jl 26);refine Jm 26 (d1) agg_Flat rfl ?_) | (go_at_call 18;refine (HFW.out w1 HX.out).mono ?_;rintro r w2 ⟨rfl,hx2⟩))
  go_ret
  exact ⟨rfl,HX.out.trans hx2⟩
 by_cases hl:(12:Int)<(d.procs.length:Int)
 ·have bl:decide ((12:Int)<(d.procs.length:Int))=true:=decide_eq_true hl
  clear hl
  go_wp2_with (first | ((with_reducible show Jl 26);refine Jm 26 (d1) agg_Flat rfl ?_) | (go_at_call 18;refine (HFW.out w1 HX.out).mono ?_;rintro r w2 ⟨rfl,hx2⟩;have e1:=(HD.out.ext hx2).has 1 _ rfl))
  go_ret
  exact ⟨rfl,HX.out.trans hx2⟩
 have bl:decide ((12:Int)<(d.procs.length:Int))=false:=decide_eq_false hl
 by_cases hl2:by'<0
 ·have bl2:decide (by'<0)=true:=decide_eq_true hl2
  clear hl hl2
  go_wp2_with (first | ((with_reducible show Jl 26);refine Jm 26 (d1) agg_Flat rfl ?_) | (go_at_call 18;refine (HFW.out w1 HX.out).mono ?_;rintro r w2 ⟨rfl,hx2⟩;have e1:=(HD.out.ext hx2).has 1 _ rfl))
  go_ret
  exact ⟨rfl,HX.out.trans hx2⟩
 have bl2:decide (by'<0)=false:=decide_eq_false hl2
 by_cases hl3:1000<by'
 ·have bl3:decide (1000<by')=true:=decide_eq_true hl3
  clear hl hl2 hl3
  go_wp2_with (first | ((with_reducible show Jl 26);refine Jm 26 (d1) agg_Flat rfl ?_) | (go_at_call 18;refine (HFW.out w1 HX.out).mono ?_;rintro r w2 ⟨rfl,hx2⟩;have e1:=(HD.out.ext hx2).has 1 _ rfl))
  go_ret
  exact ⟨rfl,HX.out.trans hx2⟩
 have bl3:decide (1000<by')=false:=decide_eq_false hl3
 go_upto_region 6 with (first | ((with_reducible show Jl 26);refine Jm 26 (d1) agg_Flat rfl ?_) | (go_at_call 18;refine (HFW.out w1 HX.out).mono ?_;rintro r w2 ⟨rfl,hx2⟩;have e1:=(HD.out.ext hx2).has 1 _ rfl))
 obtain ⟨b,rfl⟩:∃ b:Nat,by'=b:=⟨by'.toNat,by omega⟩
 have hb1:b<=1000:=by omega
 have hn12:d.procs.length<=12:=by omega
 have HD2:=Jh (HD.out.ext hx2)
 have HX2:=Jh (HX.out.trans hx2)
 clear hx2 d1 HD HX HFW bl bl2 bl3 e1 hl hl2 hl3 hby
 have d2:=HD2.out.has
 have HC:=Jh (HST.out w2 HX2.out)
 rcases settle_cases d vs with ⟨hlk,hvo,hr⟩ | ⟨e,he,hr⟩
 case inr =>
  rw [hr] at HC
  clear hr
  have be:(e != 0)=true:=by rw [bne_iff_ne];exact he
  clear he
  go_wp2_with (first | ((with_reducible show Jl 26);refine Jm 26 (d2) agg_Flat rfl ?_) | (go_at_call 19;refine HC.out.mono ?_;rintro r w3 ⟨u,rfl,hr3,hx3⟩))
  go_ret
  exact ⟨rfl,HX2.out.trans hx3⟩
 rw [hr] at HC
 have HLK:=Jh hlk
 have HV:=Jh (valsOk_val2 hvo)
 have HCK:=Jh (look_in HOK.out hlk).1
 clear hr hlk hvo
 go_upto_region 9 with (first | ((with_reducible show Jl 26);refine Jm 26 (d2) agg_Flat rfl ?_) | (go_at_call 19;refine HC.out.mono ?_;rintro r w3 ⟨u3,rfl,hr3,hx3⟩))
 have HU3:=Jh hr3
 have HD3:=Jh (HD2.out.ext hx3)
 have HX3:=Jh (HX2.out.trans hx3)
 have e1:=HD3.out.has 1 _ rfl
 clear hr3 hx3 d2 HD2 HX2 HC
 have HU0:=Jh (HUS.out w3 HX3.out)
 go_wp2_with fail
 go_loopw [11,12] (fun x i wr=>∃ (k:Nat) (xa:Option Addr) (xc:Nat) (xs:List Nat),k<=d.procs.length/\i=.int .i64 k/\x=.slice xa xs.length xc/\Us wr (.slice xa xs.length xc) xs/\Swept d vs b k 0 xs/\Ext w3 wr) (fun _ i _=>d.procs.length-(intOf i).toNat)
 case atStart=>exact ⟨0,av,capv,vs,Nat.zero_le _,rfl,rfl,HU0.out,Swept.first HOK.out HLK.out HV.out b,Below.refl _ _⟩
 case round =>
  obtain ⟨k,xa,xc,xs,hk,rfl,rfl,hux,hsw,hxr⟩:=hrel
  have HUX:=Jh hux
  have HSW:=Jh hsw
  have HXR:=Jh hxr
  clear hux hsw hxr
  by_cases hlt:k<d.procs.length
  ·go_wp2_with fail
   go_loopw [11,13] (fun x i wq=>∃ (j:Nat) (ya:Option Addr) (ycp:Nat) (ys:List Nat),j<=d.procs.length/\i=.int .i64 j/\x=.slice ya ys.length ycp/\Us wq (.slice ya ys.length ycp) ys/\Swept d vs b k j ys/\Ext w3 wq) (fun _ i _=>d.procs.length-(intOf i).toNat)
   case atStart=>exact ⟨0,xa,xc,xs,Nat.zero_le _,rfl,rfl,HUX.out,HSW.out,HXR.out⟩
   case round =>
    clear HUX HSW HXR
    obtain ⟨j,ya,ycp,ys,hj,rfl,rfl,huy,hsw,hxq⟩:=hrel
    obtain ⟨wq,rfl⟩:∃ wq,wq=wr:=⟨_,rfl⟩
    have HUY:=Jh huy
    have HSW:=Jh hsw
    have HXQ:=Jh hxq
    clear huy hsw hxq
    by_cases hlj:j<d.procs.length
    ·have hn0:0<d.procs.length:=by omega
     obtain ⟨m,hm⟩:∃ m,(j+b)%d.procs.length=m:=⟨_,rfl⟩
     have hml:m<d.procs.length:=by rw [<-hm];exact Nat.mod_lt _ hn0
     have HM:=Jh hm
     go_upto_region 18 with fail
     rw [show ((j:Int)+(b:Int))%(d.procs.length:Int)=(m:Int) by rw [<-HM.out];simp]
     clear hm
     by_cases hodd:b%2=1
     case' pos =>
      have q1:((b:Int)%2==1)=true:=by rw [beq_iff_eq];omega
      go_upto_region 20 with fail
      obtain ⟨p,hp⟩:∃ p:Nat,d.procs.length-1-m=p:=⟨_,rfl⟩
      rw [show (d.procs.length:Int)-1-(m:Int)=(p:Int) by omega]
      have HP:=Jh (show permA d.procs.length b j=p by unfold permA;rw [if_pos hodd,HM.out,hp])
      clear hp q1
     case' neg =>
      have q1:((b:Int)%2==1)=false:=by rw [beq_eq_false_iff_ne];omega
      go_upto_region 20 with fail
      obtain ⟨p,hp⟩:∃ p:Nat,m=p:=⟨_,rfl⟩
      rw [hp]
      have HP:=Jh (show permA d.procs.length b j=p by unfold permA;rw [if_neg hodd,HM.out,hp])
      clear hp q1
     all_goals (
      clear hodd HM
      have hpl2:p<d.procs.length:=by rw [<-HP.out];exact permA_lt hn0
      obtain rfl:=HPA.out hn0
      obtain ⟨sp,hph,-⟩:=Procs.get (HPR.out.mono fun x _ b o hh=>ProcAt.ext' (HX3.out.trans HXQ.out) hh) hpl2
      have ycl:=hph 0 _ rfl
      rw [Nat.add_zero] at ycl
      have e3:=(HD3.out.ext HXQ.out).has 1 _ rfl
      have hkc:=clkD_nat hpl2
      have hrm:=runM_of HCK.out HSW.out.val (p:=(p:Int)) (by omega) (by omega)
      have h6:=val2_us64 (fun x hx=>(checkM_w HCK.out x hx).2) HSW.out.val
      have HRN:=Jh (Run_calls d _ ys _ (p:Int) wq (HF.out wq (HX3.out.trans HXQ.out)) HOK.out HUY.out h6 (by unfold i64r;omega))
      rw [hrm] at HRN
      generalize d.procs[p].clocked=c at *
      have HKC:=Jh hkc
      clear hkc hrm h6 hph
      cases c
      ·have HRU:=Jh (HSW.out.run HOK.out HLK.out HV.out hn0 (by rw [HP.out];exact HKC.out))
       rw [HP.out] at HRU
       generalize runL d (p:Int) ys=zs at *
       go_wp2_with (first | ((with_reducible show Jl 26);refine Jm 26 ((HD3.out.ext HXQ.out).has) agg_Flat rfl ?_) | (go_at_call 15;refine HRN.out.mono ?_;rintro r w6 ⟨u6,rfl,hr6,hx6⟩;obtain ⟨ua,uc,rfl,-⟩:=hr6.open))
       go_roundw
       case rel=>exact ⟨j+1,ua,uc,zs,hlj,by go_num,rfl,hr6.cells,HRU.out,HXQ.out.trans hx6⟩
       case measure=>simp [intOf];omega
      ·go_wp2_with fail
       go_roundw
       case rel=>exact ⟨j+1,ya,ycp,ys,hlj,by go_num,rfl,HUY.out,HSW.out.skip HOK.out HLK.out (by rw [HP.out];exact HKC.out),HXQ.out⟩
       case measure=>simp [intOf];omega)
    ·obtain rfl:j=d.procs.length:=by omega
     go_wp2_with fail
     go_roundw
     case rel=>exact ⟨k+1,ya,ycp,ys,hlt,by go_num,rfl,HUY.out,HSW.out.done HOK.out HLK.out,HXQ.out⟩
     case measure=>simp [intOf];omega
  ·obtain rfl:k=d.procs.length:=by omega
   have hxe:=HSW.out.all HOK.out HLK.out HV.out
   have HW:=Jh (Words_calls11 xs (settleM d vs) _ _ wr HUX.out (HU3.out.ext HXR.out) (by rw [HSW.out.val.1];omega))
   rw [decide_eq_true hxe] at HW
   clear hxe
   go_wp2_with (first | (go_at_call 24;refine HW.out.mono ?_;rintro r w8 ⟨rfl,hx8⟩))
   go_ret
   exact ⟨rfl,HX3.out.trans (HXR.out.trans hx8)⟩
end Go.Proofs.YtoaamjgfhppppaaGreat
