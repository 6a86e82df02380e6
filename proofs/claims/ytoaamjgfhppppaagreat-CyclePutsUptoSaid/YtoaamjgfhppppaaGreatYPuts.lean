/- The law CyclePuts walked: inputs are set, and all else stays. -/
import Derived.Test.YtoaamjgfhppppaaGreatY31
import Derived.Test.YtoaamjgfhppppaaGreatY32
import Derived.Test.YtoaamjgfhppppaaGreatY29
import Derived.Test.YtoaamjgfhppppaaGreatY00
set_option maxRecDepth 100000
set_option maxHeartbeats 8000000
set_option linter.all false
namespace Go.Proofs.YtoaamjgfhppppaaGreat
open Go.RowKit
theorem put_cases (d:Flat) (vs ins:List Nat):(∃ a,(lookM d).1=0/\valsOk d vs=true/\putM d.signals vs ins=some a/\putR d vs ins=(a,0))\/(∃ e,e≠0/\putR d vs ins=([],e)):=by
 unfold putR
 by_cases h:playE d vs=0
 ·rw [if_pos h]
  obtain ⟨h1,h2⟩:=playE_zero.1 h
  cases hp:putM d.signals vs ins with
  | none=>exact .inr ⟨1,by decide,rfl⟩
  | some a=>exact .inl ⟨a,h1,h2,rfl,rfl⟩
 ·rw [if_neg h];exact .inr ⟨_,h,rfl⟩
theorem put_R {d:Flat} {vs ins a:List Nat} (hl:(lookM d).1=0) (hv:valsOk d vs=true) (hp:putM d.signals vs ins=some a):putR d vs ins=(a,0):=by
 unfold putR
 rw [if_pos (playE_zero.2 ⟨hl,hv⟩),hp]
theorem CyclePuts_calls (d:Flat) (v:Value) (vs:List Nat) (s:Value) (ins:List Nat) (iv:Value) (ots:List Nat) (ov:Value) (w:World) (hF:FlatV w v d) (hok:d.ok) (hs:Us w s vs) (h64s:us64 vs) (hls:vs.length+1<=1048576)
  (hi:Us w iv ins) (h64i:us64 ins) (hli:ins.length+1<=1048576) (ho:Us w ov ots) (h64o:us64 ots) (hlo:ots.length+1<=1048576) :
  Calls Tryz.prog 7 #[v,s,iv,ov] w fun r w'=>r=.returned (.bool true)/\Ext w w':=by
 have HF:=Jh (fun W (h:Ext w W)=>hF.ext h)
 have HFW:=Jh (fun W (h:Ext w W)=>few13_calls d v vs s W (hF.ext h) hok (hs.ext h))
 have HPA:=Jh (fun W (h:Ext w W)=>Put_calls13 d v vs s ins iv W (hF.ext h) hok (hs.ext h) h64s (by omega) (hi.ext h) h64i)
 have HPB:=Jh (fun W (h:Ext w W)=>Put_calls13 d v vs s ots ov W (hF.ext h) hok (hs.ext h) h64s (by omega) (ho.ext h) h64o)
 have HIS:=Jh (fun W (h:Ext w W)=>hi.ext h)
 have H64I:=Jh h64i
 have HOK:=Jh hok
 have HUS:=Jh (fun W (h:Ext w W)=>hs.ext h)
 obtain ⟨sv,pv,cv,rfl,hS,hP,hC⟩:=hF
 obtain ⟨ss,sb,so,sc,rfl,hp1,hp2,hsa,hsr⟩:=hS.open
 have HSA:=Jh hsa
 have HSR:=Jh hsr
 obtain ⟨av,bv,ov',capv,rfl,-,-,hva,hvr⟩:=hs.open
 have HVA:=Jh hva
 have HVR:=Jh hvr
 obtain ⟨ai,bi,oi,capi,rfl,-,-,hia,hir⟩:=hi.open
 have HIA:=Jh hia
 have HIR:=Jh hir
 obtain ⟨ao,bo,oo,capo,rfl,-,-,-,-⟩:=ho.open
 have x1:=ext_alloc w (.cells [.slice ss d.signals.length sc,pv,cv].toArray 26)
 have hD:=Blk.new w [.slice ss d.signals.length sc,pv,cv].toArray 26
 have hsl:=hok.signals
 clear hS hP hC hok hs h64s hsa hsr hva hvr hi h64i hia hir ho h64o
 go_enter Tryz.func7,Tryz.ntmps7
 go_upto_region 1 with fail
 generalize w.alloc _=w0 at *
 have HX0:=Jh x1
 have HD0:=Jh hD
 clear x1 hD
 go_upto_region 4 with (go_at_call 17;refine (live13_calls _).mono ?_;rintro r w1 ⟨rfl,hx1⟩)
 have HD:=Jh (HD0.out.ext hx1)
 have HX:=Jh (HX0.out.trans hx1)
 clear hx1 HD0 HX0
 have d1:=HD.out.has
 obtain ⟨fw,hfw⟩:∃ fw,few13 d vs=fw:=⟨_,rfl⟩
 rw [hfw] at HFW
 clear hfw
 cases fw
 ·go_wp2_with (first | ((with_reducible show Jl 26);refine Jm 26 (d1) agg_Flat rfl ?_) | (go_at_call 18;refine (HFW.out w1 HX.out).mono ?_;rintro r w2 ⟨rfl,hx2⟩))
  go_ret
  exact ⟨rfl,HX.out.trans hx2⟩
 by_cases hl:(100:Int)<(ins.length:Int)
 ·have bl:decide ((100:Int)<(ins.length:Int))=true:=decide_eq_true hl
  clear hl
  go_wp2_with (first | ((with_reducible show Jl 26);refine Jm 26 (d1) agg_Flat rfl ?_) | (go_at_call 18;refine (HFW.out w1 HX.out).mono ?_;rintro r w2 ⟨rfl,hx2⟩))
  go_ret
  exact ⟨rfl,HX.out.trans hx2⟩
 have bl:decide ((100:Int)<(ins.length:Int))=false:=decide_eq_false hl
 by_cases hl2:(100:Int)<(ots.length:Int)
 ·have bl2:decide ((100:Int)<(ots.length:Int))=true:=decide_eq_true hl2
  clear hl hl2
  go_wp2_with (first | ((with_reducible show Jl 26);refine Jm 26 (d1) agg_Flat rfl ?_) | (go_at_call 18;refine (HFW.out w1 HX.out).mono ?_;rintro r w2 ⟨rfl,hx2⟩))
  go_ret
  exact ⟨rfl,HX.out.trans hx2⟩
 have bl2:decide ((100:Int)<(ots.length:Int))=false:=decide_eq_false hl2
 clear hl hl2
 go_upto_region 6 with (first | ((with_reducible show Jl 26);refine Jm 26 (d1) agg_Flat rfl ?_) | (go_at_call 18;refine (HFW.out w1 HX.out).mono ?_;rintro r w2 ⟨rfl,hx2⟩))
 have HD2:=Jh (HD.out.ext hx2)
 have HX2:=Jh (HX.out.trans hx2)
 clear hx2 d1 HD HX HFW bl bl2
 have d2:=HD2.out.has
 have HPUT:=Jh (HPA.out w2 HX2.out)
 rcases put_cases d vs ins with ⟨a,hlk,hvo,hpa,hra⟩ | ⟨e,he,hr⟩
 case inr =>
  rw [hr] at HPUT
  clear hr
  have be:(e != 0)=true:=by rw [bne_iff_ne];exact he
  clear he
  go_wp2_with (first | ((with_reducible show Jl 26);refine Jm 26 (d2) agg_Flat rfl ?_) | (go_at_call 27;refine HPUT.out.mono ?_;rintro r w3 ⟨u,rfl,hr3,hx3⟩;obtain ⟨ua,-,-,uc,rfl,-,-,-,-⟩:=hr3.open))
  go_ret
  exact ⟨rfl,HX2.out.trans hx3⟩
 obtain ⟨hal,hin,hsp⟩:=put_spec (valsOk_val2 hvo).1 hpa
 have hck:=(look_in HOK.out hlk).1
 have hw64:∀ x∈d.signals,x.w<=64:=fun x hx=>(checkM_w hck x hx).2
 have hva2:=put_val (valsOk_val2 hvo) hpa
 have h64a:=val2_us64 hw64 hva2
 have HVA2:=Jh (fun W (h:Ext w W) u (hu:Us W u a)=>Values_calls d _ a u W (HF.out W h) HOK.out hu h64a)
 simp only [if_pos (valsOk_of hck hva2)] at HVA2
 have HSP:=Jh hsp
 have HIN:=Jh hin
 have HAL:=Jh hal
 have HVL:=Jh (valsOk_val2 hvo).1
 have HPC:=Jh (put_cases d vs ots)
 have HAG:=Jh (fun (b:List Nat) (h:putM d.signals vs ots=some b)=>(show Val2 d.signals b/\putR d b ins=(a,0) from
  ⟨put_val (valsOk_val2 hvo) h,put_R hlk (valsOk_of hck (put_val (valsOk_val2 hvo) h)) ((put_again h).trans hpa)⟩))
 have H64L:=Jh hw64
 rw [hra] at HPUT
 clear hra hlk hvo hpa hck hva2 h64a hsp hin hal hw64
 go_upto_region 9 with (first | ((with_reducible show Jl 26);refine Jm 26 (d2) agg_Flat rfl ?_) | (go_at_call 27;refine HPUT.out.mono ?_;rintro r w3 ⟨u,rfl,hr3,hx3⟩;have HU3:=Jh hr3;obtain ⟨ua,ub,uo,uc,rfl,-,-,hua,hur⟩:=hr3.open))
 have HUA:=Jh hua
 have HUR:=Jh hur
 have HD3:=Jh (HD2.out.ext hx3)
 have HX3:=Jh (HX2.out.trans hx3)
 clear hx3 d2 HD2 HX2 HPUT hr3 hua hur
 have d3:=HD3.out.has
 have e3:=HD3.out.has 0 _ rfl
 rw [Nat.zero_add] at e3
 have b3:((a.length:Int) != (vs.length:Int))=false:=by rw [bne_eq_false_iff_eq,HAL.out,HVL.out]
 have b4:((vs.length:Int) != (d.signals.length:Int))=false:=by rw [bne_eq_false_iff_eq,HVL.out]
 have HC:=Jh (HVA2.out w3 HX3.out _ HU3.out)
 go_upto_region 11 with (first | ((with_reducible show Jl 26);refine Jm 26 (d3) agg_Flat rfl ?_) | (go_at_call 21;refine HC.out.mono ?_;rintro r w4 ⟨rfl,hx4⟩))
 have HD4:=Jh (HD3.out.ext hx4)
 have HX4:=Jh (HX3.out.trans hx4)
 have HU4:=Jh (HU3.out.ext hx4)
 have HUR4:=Jh (HUR.out.mono fun x _ b o h=>Has.ext h hx4)
 clear hx4 d3 e3 HD3 HX3 HU3 HUR HVA2 b3 b4 HC
 go_wp2_with fail
 go_loopw [12,13] (fun n i wr=>∃ k:Nat,k<=d.signals.length/\i=.int .i64 k/\n=.int .i64 (inN d.signals k)/\Ext w4 wr) (fun _ i _=>d.signals.length-(intOf i).toNat)
 case atStart=>exact ⟨0,Nat.zero_le _,rfl,rfl,Below.refl _ _⟩
 case round =>
  obtain ⟨k,hk,rfl,rfl,hxr⟩:=hrel
  have HXR:=Jh hxr
  have e0:=(HD4.out.ext hxr).has 0 _ rfl
  rw [Nat.zero_add] at e0
  by_cases hlt:k<d.signals.length
  ·obtain rfl:=HSA.out (by omega)
   have y:=(Sigs.get (HSR.out.mono fun x _ b o h=>Has.ext h (HX4.out.trans hxr)) hlt) 2 _ rfl
   have hk1:k<vs.length:=by rw [HVL.out];exact hlt
   have hk2:k<a.length:=by rw [HAL.out];exact hlt
   obtain rfl:=HVA.out (by omega)
   obtain rfl:=HUA.out (by omega)
   have yv:=Us.get (k:=k) (HVR.out.mono fun x _ b o h=>Has.ext h (HX4.out.trans hxr)) hk1
   have yu:=Us.get (k:=k) (HUR4.out.mono fun x _ b o h=>Has.ext h hxr) hk2
   obtain ⟨q1,q2⟩:=HSP.out k hlt
   have hsu:=inN_succ d.signals k hlt
   have ga:a.getD k 0=a[k]:=by rw [List.getD_eq_getElem?_getD,List.getElem?_eq_getElem hk2];rfl
   have gv:vs.getD k 0=vs[k]:=by rw [List.getD_eq_getElem?_getD,List.getElem?_eq_getElem hk1];rfl
   rw [ga] at q1 q2
   rw [gv] at q2
   have GSU:=Jh hsu
   have Q1:=Jh q1
   have Q2:=Jh q2
   generalize d.signals[k].kind=kd at *
   generalize a[k]=xa at *
   generalize vs[k]=xv at *
   clear hsu ga gv q1 q2 hxr
   by_cases h1:kd=1
   ·subst h1
    obtain ⟨q3,q4⟩:=Q1.out rfl
    obtain rfl:=HIA.out (by omega)
    have yi:=Us.get (k:=inN d.signals k) (HIR.out.mono fun x _ b o h=>Has.ext h (HX4.out.trans HXR.out)) q3
    have GSN:=Jh (show inN d.signals (k+1)=inN d.signals k+1 by rw [GSU.out,if_pos rfl])
    rw [show ins.getD (inN d.signals k) 0=ins[inN d.signals k] from by rw [List.getD_eq_getElem?_getD,List.getElem?_eq_getElem q3];rfl] at q4
    rw [<-q4] at yi
    clear q4 Q1 Q2 GSU
    obtain ⟨m,hm⟩:∃ m,inN d.signals k=m:=⟨_,rfl⟩
    rw [hm] at GSN yi q3 ⊢
    clear hm
    go_wp2_with fail
    go_roundw
    case rel=>exact ⟨k+1,hlt,by go_num,by rw [GSN.out];go_num,HXR.out⟩
    case measure=>simp [intOf];omega
   ·have n1:(kd==1)=false:=by rw [beq_eq_false_iff_ne];exact h1
    have GSN:=Jh (show inN d.signals (k+1)=inN d.signals k by rw [GSU.out,if_neg h1];rfl)
    rw [<-Q2.out h1] at yv
    clear Q1 Q2 GSU h1
    obtain ⟨m,hm⟩:∃ m,inN d.signals k=m:=⟨_,rfl⟩
    rw [hm] at GSN ⊢
    clear hm
    go_wp2_with fail
    go_roundw
    case rel=>exact ⟨k+1,hlt,by go_num,by rw [GSN.out],HXR.out⟩
    case measure=>simp [intOf];omega
  ·obtain rfl:k=d.signals.length:=by omega
   rw [HIN.out]
   have HD5:=Jh (HD4.out.ext hxr)
   have HX5:=Jh (HX4.out.trans hxr)
   have HU5:=Jh (HU4.out.ext hxr)
   have d5:=HD5.out.has
   have b5:¬ d.signals.length<a.length:=by rw [HAL.out];exact Nat.lt_irrefl _
   have HPUT:=Jh (HPB.out wr HX5.out)
   clear e0 hxr HXR HD4 HX4 HU4
   rcases HPC.out with ⟨b,-,-,hpb,hrb⟩ | ⟨e,he,hr⟩
   case inr =>
    rw [hr] at HPUT
    clear hr
    have be:(e != 0)=true:=by rw [bne_iff_ne];exact he
    clear he
    go_wp2_with (first | ((with_reducible show Jl 26);refine Jm 26 (d5) agg_Flat rfl ?_) | (go_at_call 27;refine HPUT.out.mono ?_;rintro r w6 ⟨u,rfl,hr6,hx6⟩))
    go_ret
    exact ⟨rfl,HX5.out.trans hx6⟩
   obtain ⟨hvb,hrr⟩:=HAG.out b hpb
   have hb64:=val2_us64 H64L.out hvb
   have hbl:b.length<=1048576:=by rw [hvb.1];exact hsl
   have HPP:=Jh (fun W (h:Ext w W) u (hu:Us W u b)=>Put_calls13 d _ b u ins _ W (HF.out W h) HOK.out hu hb64 hbl (HIS.out W h) H64I.out)
   rw [hrr] at HPP
   rw [hrb] at HPUT
   clear hrr hrb hpb hvb hb64 hbl
   go_upto_region 26 with (first | ((with_reducible show Jl 26);refine Jm 26 (d5) agg_Flat rfl ?_) | (go_at_call 27;refine HPUT.out.mono ?_;rintro r w6 ⟨u6,rfl,hr6,hx6⟩))
   have HU6:=Jh (HU5.out.ext hx6)
   have HX6:=Jh (HX5.out.trans hx6)
   have HD6:=Jh (HD5.out.ext hx6)
   have d6:=HD6.out.has
   have HQ:=Jh (HPP.out w6 HX6.out _ hr6)
   clear hr6 hx6 d5 HU5 HX5 HD5 HPUT
   go_upto_region 27 with (first | ((with_reducible show Jl 26);refine Jm 26 (d6) agg_Flat rfl ?_) | (go_at_call 27;refine HQ.out.mono ?_;rintro r w7 ⟨u7,rfl,hr7,hx7⟩))
   have HW7:=Jh (Words_calls11 _ _ _ _ w7 (HU6.out.ext hx7) hr7 (by rw [HAL.out];omega))
   rw [decide_eq_true rfl] at HW7
   have HX7:=Jh (HX6.out.trans hx7)
   clear hr7 hx7 d6
   go_wp2_with (first | (go_at_call 24;refine HW7.out.mono ?_;rintro r w8 ⟨rfl,hx8⟩))
   go_ret
   exact ⟨rfl,HX7.out.trans hx8⟩
end Go.Proofs.YtoaamjgfhppppaaGreat
