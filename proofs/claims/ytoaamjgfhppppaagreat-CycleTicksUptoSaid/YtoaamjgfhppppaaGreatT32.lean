/- Laws and walks that a claim of this seat leans on: Few13, Ticks, Lift. -/
import Derived.Test.YtoaamjgfhppppaaGreatTFew11
import Derived.Test.YtoaamjgfhppppaaGreatT25
import Derived.Test.YtoaamjgfhppppaaGreatT31
import Derived.Test.YtoaamjgfhppppaaGreatT29
import Derived.Test.YtoaamjgfhppppaaGreatT27
import Derived.Test.YtoaamjgfhppppaaGreatT14
import Derived.Test.YtoaamjgfhppppaaGreatRows
import Derived.Test.YtoaamjgfhppppaaGreatT13
import Derived.WalkKit
import Derived.ProofKit
import Derived.OpenShut
import Derived.JoinedCond
import Derived.Test.YtoaamjgfhppppaaGreatT00
set_option maxRecDepth 100000
set_option maxHeartbeats 8000000
set_option linter.all false
namespace Go.Proofs.YtoaamjgfhppppaaGreat
open Go.RowKit
def few13 (d:Flat) (vs:List Nat):Bool:=few11 d&&decide ((vs.length:Int)<=100)
theorem few13_calls (d:Flat) (v:Value) (vs:List Nat) (s:Value) (w:World) (hF:FlatV w v d) (hok:d.ok) (hs:Us w s vs) :
  Calls Tryz.prog 18 #[v,s] w fun r w'=>r=.returned (.bool (few13 d vs))/\Ext w w':=by
 have HFW:=Jh (fun W (h:Ext w W)=>Few_calls d v W (hF.ext h) hok.nodes hok.signals hok.procs)
 obtain ⟨sv,pv,cv,rfl,hS,hP,hC⟩:=hF
 obtain ⟨av,bv,ov,capv,rfl,-,-,-,-⟩:=hs.open
 have x1:=ext_alloc w (.cells [sv,pv,cv].toArray 26)
 have hD:=Blk.new w [sv,pv,cv].toArray 26
 clear hS hP hC hok hs
 obtain ⟨t,ht⟩:∃ t,few13 d vs=t:=⟨_,rfl⟩
 have HT:=Jh ht
 rw [ht]
 clear ht
 go_enter Tryz.func18,Tryz.ntmps18
 go_upto_region 1 with fail
 generalize w.alloc _=w0 at *
 have HX0:=Jh x1
 have d1:=hD.has
 clear x1 hD
 obtain ⟨fw,hfw⟩:∃ fw,few11 d=fw:=⟨_,rfl⟩
 unfold few13 at HT
 rw [hfw] at HFW HT
 clear hfw
 cases fw
 ·obtain rfl:t=false:=HT.out.symm
  go_wp2_with (first | ((with_reducible show Jl 26);refine Jm 26 (d1) agg_Flat rfl ?_) | (go_at_call 45;refine (HFW.out w0 HX0.out).mono ?_;rintro r w2 ⟨rfl,hx2⟩))
  go_ret
  exact ⟨rfl,HX0.out.trans hx2⟩
 have ht:decide ((vs.length:Int)<=100)=t:=HT.out
 go_wp2_with (first | ((with_reducible show Jl 26);refine Jm 26 (d1) agg_Flat rfl ?_) | (go_at_call 45;refine (HFW.out w0 HX0.out).mono ?_;rintro r w2 ⟨rfl,hx2⟩))
 go_ret
 exact ⟨rfl,HX0.out.trans hx2⟩
theorem kindOf_n {ls:List Signal} {k:Nat} (h:k<ls.length):kindOf ls (k:Int)=ls[k].kind:=by unfold kindOf;rw [Int.toNat_natCast,List.getElem?_eq_getElem h]
theorem tick_why (d:Flat) (vs:List Nat):((lookM d).1=0/\valsOk d vs=true/\tickR d vs=(tickM d vs,0))\/(∃ e,e≠0/\tickR d vs=([],e)):=by
 unfold tickR
 by_cases h:playE d vs=0
 ·rw [if_pos h];exact .inl ⟨(playE_zero.1 h).1,(playE_zero.1 h).2,rfl⟩
 ·rw [if_neg h];exact .inr ⟨_,h,rfl⟩
theorem CycleTicks_calls (d:Flat) (v:Value) (vs:List Nat) (s:Value) (w:World) (hF:FlatV w v d) (hok:d.ok) (hs:Us w s vs) (h64s:us64 vs) (hls:vs.length+1<=1048576) :
  Calls Tryz.prog 6 #[v,s] w fun r w'=>r=.returned (.bool true)/\Ext w w':=by
 have HF:=Jh (fun W (h:Ext w W)=>hF.ext h)
 have HFW:=Jh (fun W (h:Ext w W)=>few13_calls d v vs s W (hF.ext h) hok (hs.ext h))
 have HTK:=Jh (fun W (h:Ext w W)=>Tick_calls13 d v vs s W (hF.ext h) hok (hs.ext h) h64s (by omega))
 have HBT:=Jh (fun W (h:Ext w W)=>Bits_calls d v W (hF.ext h) hok)
 have HRUN:=Jh (fun W (p:Int) (hp:i64r p) (h:Ext w W)=>Run_calls d v vs s p W (hF.ext h) hok (hs.ext h) h64s hp)
 have HWR:=Jh (fun W (p:Int) (hp:i64r p) (h:Ext w W)=>Writes_calls d v W (hF.ext h) hok p hp)
 have HVL:=Jh (fun W u x (h:Ext w W) (hu:Us W u x) (h64:us64 x)=>Values_calls d v x u W (hF.ext h) hok hu h64)
 have HUS:=Jh (fun W (h:Ext w W)=>hs.ext h)
 have HOK:=Jh hok
 have H64:=Jh h64s
 obtain ⟨sv,pv,cv,rfl,hS,hP,hC⟩:=hF
 obtain ⟨ss,sb,so,sc,rfl,hp1,hp2,hsa,hsr⟩:=hS.open
 have HSA:=Jh hsa
 have HSR:=Jh hsr
 obtain ⟨ap,bp,op,cp,rfl,-,-,hpa,hpr⟩:=hP.open
 have HPA:=Jh hpa
 have HPR:=Jh hpr
 obtain ⟨av,bv,ov,capv,rfl,-,-,hva,hvr⟩:=hs.open
 have HVA:=Jh hva
 have HVR:=Jh hvr
 have x1:=ext_alloc w (.cells [.slice ss d.signals.length sc,.slice ap d.procs.length cp,cv].toArray 26)
 have hD:=Blk.new w [.slice ss d.signals.length sc,.slice ap d.procs.length cp,cv].toArray 26
 have hsl:=hok.signals
 have hpl:=hok.procs
 clear hS hP hC hok hs h64s hsa hsr hva hvr hpa hpr
 go_enter Tryz.func6,Tryz.ntmps6
 go_upto_region 1 with fail
 generalize w.alloc _=w0 at *
 have HX0:=Jh x1
 have HD0:=Jh hD
 clear x1 hD
 go_upto_region 4 with (go_at_call 17;refine (live13_calls _).mono ?_;rintro r w1 ⟨rfl,hx1⟩)
 have HD:=Jh (HD0.out.ext hx1)
 have HX:=Jh (HX0.out.trans hx1)
 clear hx1 HD0 HX0
 have d1:=HD.out.has
 obtain ⟨fw,hfw⟩:∃ fw,few13 d vs=fw:=⟨_,rfl⟩
 rw [hfw] at HFW
 clear hfw
 cases fw
 ·go_wp2_with (first | ((with_reducible show Jl 26);refine Jm 26 (d1) agg_Flat rfl ?_) | (go_at_call 18;refine (HFW.out w1 HX.out).mono ?_;rintro r w2 ⟨rfl,hx2⟩))
  go_ret
  exact ⟨rfl,HX.out.trans hx2⟩
 go_upto_region 6 with (first | ((with_reducible show Jl 26);refine Jm 26 (d1) agg_Flat rfl ?_) | (go_at_call 18;refine (HFW.out w1 HX.out).mono ?_;rintro r w2 ⟨rfl,hx2⟩))
 have HD2:=Jh (HD.out.ext hx2)
 have HX2:=Jh (HX.out.trans hx2)
 clear hx2 d1 HD HX HFW
 have d2:=HD2.out.has
 have HC:=Jh (HTK.out w2 HX2.out)
 rcases tick_why d vs with ⟨hlk,hvo,hr⟩ | ⟨e,he,hr⟩
 case inr =>
  rw [hr] at HC
  clear hr
  have be:(e != 0)=true:=by rw [bne_iff_ne];exact he
  clear he
  go_wp2_with (first | ((with_reducible show Jl 26);refine Jm 26 (d2) agg_Flat rfl ?_) | (go_at_call 25;refine HC.out.mono ?_;rintro r w3 ⟨u,rfl,hr3,hx3⟩;obtain ⟨ua,-,-,uc,rfl,-,-,-,-⟩:=hr3.open))
  go_ret
  exact ⟨rfl,HX2.out.trans hx3⟩
 have hv2:=valsOk_val2 hvo
 have hck:=(look_in HOK.out hlk).1
 have htv:=tick_val HOK.out hck hv2
 have HWL:=Jh (checkM_w hck)
 have HLS:=Jh (fun x hx=>(HWL.out x hx).2)
 have HV2:=Jh hv2
 have HTB:=Jh (fun (k j:Nat) (hk:k<d.signals.length) (hj:(j:Int)<sigW d.signals (k:Int)) (p:Nat) (hp:p<d.procs.length) (hc:clkD d (p:Int)=true) (hm:bn d.signals k j∈writesM d (p:Int))=>(tick_bit HOK.out hlk hv2 hk hj).1 p hp hc hm)
 have HALL:=Jh (fun L (h:TkInv d.signals vs (tickM d vs) (TkD d d.procs.length [] 0 0) L)=>tk_all HOK.out hlk hv2 h)
 have HRM:=Jh (fun (p:Nat) (hp:p<d.procs.length)=>runM_of hck hv2 (p:=(p:Int)) (by omega) (by omega))
 have HKW:=Jh (fun (p:Nat) (hp:p<d.procs.length)=>writes_kind HOK.out hck (p:=(p:Int)) (by omega) (by omega))
 have HRK:=Jh (fun (p:Nat) (hp:p<d.procs.length)=>(run_kept HOK.out hck (p:=(p:Int)) (by omega) (by omega) hv2).1)
 have HTO:=Jh (fun (p:Nat) (hp:p<d.procs.length)=>(show toldOk d (p:Int)=true by unfold toldOk;rw [hck];simp;omega))
 have HVT:=Jh (fun W u (h:Ext w W) (hu:Us W u (tickM d vs))=>HVL.out W u _ h hu (val2_us64 HLS.out htv))
 rw [if_pos (valsOk_of hck htv)] at HVT
 rw [hr] at HC
 simp only [if_pos hck] at HBT
 have HTV:=Jh htv
 have HST:=Jh (tk_start d (v:=vs) htv)
 generalize tickM d vs=T at *
 obtain ⟨OF,hOF⟩:∃ O,offsM d.signals d.signals.length=O:=⟨_,rfl⟩
 rw [hOF] at HBT
 have HOL:=Jh (show OF.length=d.signals.length+1 by rw [<-hOF,offsM_length])
 have HOG:=Jh (fun (k:Nat) (hk:k<OF.length)=>(show OF[k]=sumW d.signals k by subst hOF;simp [offsM]))
 clear hr hlk hvo hv2 hck htv hOF HVL
 go_upto_region 7 with (first | ((with_reducible show Jl 26);refine Jm 26 (d2) agg_Flat rfl ?_) | (go_at_call 25;refine HC.out.mono ?_;rintro r w3 ⟨u3,rfl,hr3,hx3⟩))
 have HU3:=Jh hr3
 obtain ⟨ta,tb,tO,tc,rfl,-,-,hta,htr⟩:=hr3.open
 have HTA:=Jh hta
 have HTR:=Jh htr
 clear hta htr
 have HD3:=Jh (HD2.out.ext hx3)
 have HX3:=Jh (HX2.out.trans hx3)
 clear hr3 hx3 d2 HD2 HX2 HC
 have d3:=HD3.out.has
 go_upto_region 10 with (first | ((with_reducible show Jl 26);refine Jm 26 (d3) agg_Flat rfl ?_) | (go_at_call 13;refine (HBT.out w3 HX3.out).mono ?_;rintro r w4 ⟨ub,rfl,hr4,hx4⟩))
 have HB4:=Jh hr4
 obtain ⟨bg,bc,hbe,-,-⟩:=hr4.open1 (by have:=HOL.out;omega)
 subst hbe
 have HD4:=Jh (HD3.out.ext hx4)
 have HX4:=Jh (HX3.out.trans hx4)
 have HU4:=Jh (HU3.out.ext hx4)
 have HX34:=Jh hx4
 clear hr4 hx4 d3 HD3 HX3 HU3
 have e4:=HD4.out.has 0 _ rfl
 rw [Nat.zero_add] at e4
 have b1:((OF.length:Int) != (d.signals.length:Int)+1)=false:=by rw [bne_eq_false_iff_eq,HOL.out];push_cast;rfl
 have b2:((T.length:Int) != (vs.length:Int))=false:=by rw [bne_eq_false_iff_eq,HTV.out.1,HV2.out.1]
 have b3:((vs.length:Int) != (d.signals.length:Int))=false:=by rw [bne_eq_false_iff_eq,HV2.out.1]
 go_upto_region 12 with fail
 clear b1 b2 b3 e4
 have HXA:=Jh (ext_alloc w4 (.cells #[] 39))
 have HROW:=Jh (WordRow.bs0 w4 (N:=w4.heap.size) (Nat.le_refl _))
 have HNW:=Jh (HU4.out.ext HXA.out)
 have htl:T.length<=1048576:=by rw [HTV.out.1];exact hsl
 go_wp2_with (first | ((with_reducible show Jw (Op.buildSlice _ _ _));refine wpList_bs0 rfl _ rfl appWord ?_) | ((with_reducible show Jw (Op.call { callee:=.builtin .append,args:=_,argTypes:=_ }));refine wpList_appW rfl _ _ rfl rfl HROW.out rfl HNW.out (by simp;omega) (by simp) ?_;intro v7 w7 hrow7 hg7))
 rw [List.nil_append] at hrow7
 obtain ⟨a7,c7,rfl,-⟩:=hrow7.open
 have HR7:=Jh hrow7
 have HX47:=Jh (Below.grown HXA.out hg7 HXA.out.size (fun k hk=>by cases hk;exact Nat.le_refl _):Ext w4 w7)
 obtain ⟨N2,hN2⟩:∃ N,w4.heap.size=N:=⟨_,rfl⟩
 rw [hN2] at HR7
 have HN2:=Jh hN2
 clear hrow7 hg7 HXA HROW HNW hN2 htl
 go_loopw [11,12,13,14,15,16,17,18] (fun p _ _ _ _ _ _ _ wr=>∃ (k:Nat) (L:List Nat),k<=d.procs.length/\p=.int .i64 k/\WordRow N2 (.slice a7 T.length c7) L wr/\TkInv d.signals vs T (TkD d k [] 0 0) L/\Ext w4 wr) (fun p _ _ _ _ _ _ _ _=>d.procs.length-(intOf p).toNat)
 case atStart=>exact ⟨0,T,Nat.zero_le _,rfl,HR7.out,HST.out,HX47.out⟩
 case round =>
  obtain ⟨k,L,hk,rfl,hrow,hinv,hxr⟩:=hrel
  have HROW:=Jh hrow
  have HINV:=Jh hinv
  have HXR:=Jh hxr
  have e1:=(HD4.out.ext hxr).has 1 _ rfl
  clear hrow hinv hxr
  by_cases hlt:k<d.procs.length
  ·obtain rfl:=HPA.out (by omega)
   obtain ⟨sp,hph,-⟩:=Procs.get (HPR.out.mono fun x _ b o hh=>ProcAt.ext' (HX4.out.trans HXR.out) hh) hlt
   have ycl:=hph 0 _ rfl
   rw [Nat.add_zero] at ycl
   have hkc:=clkD_nat hlt
   generalize d.procs[k].clocked=c at *
   have HKC:=Jh hkc
   clear hkc hph
   cases c
   case false =>
    go_wp2_with fail
    go_roundw
    case rel=>exact ⟨k+1,L,hlt,by go_num,HROW.out,tk_idle HKC.out HINV.out,HXR.out⟩
    case measure=>simp [intOf];omega
   case true =>
    have hik:i64r (k:Int):=by unfold i64r;omega
    have HRN:=Jh (HRUN.out wr (k:Int) hik (HX4.out.trans HXR.out))
    have HWN:=Jh (fun W (h:Ext wr W)=>HWR.out W (k:Int) hik ((HX4.out.trans HXR.out).trans h))
    rw [HRM.out k hlt] at HRN
    simp only [if_pos (HTO.out k hlt)] at HWN
    have HKWk:=Jh (HKW.out k hlt)
    have HRKk:=Jh (HRK.out k hlt)
    have HTBk:=Jh (fun (q j:Nat) (hq:q<d.signals.length) (hj:(j:Int)<sigW d.signals (q:Int)) (hm:bn d.signals q j∈writesM d (k:Int))=>HTB.out q j hq hj k hlt HKC.out hm)
    obtain ⟨WL,hWL⟩:∃ l,writesM d (k:Int)=l:=⟨_,rfl⟩
    have HWL2:=Jh hWL
    rw [hWL] at HWN HKWk
    simp only [hWL] at HTBk
    clear hWL hik
    generalize runL d (k:Int) vs=A at *
    go_upto_region 18 with (first | ((with_reducible show Jl 26);refine Jm 26 ((HD4.out.ext HXR.out).has) agg_Flat rfl ?_) | (go_at_call 15;refine HRN.out.mono ?_;rintro r w8 ⟨u8,rfl,hr8,hx8⟩;obtain ⟨ga,gc,rfl,-⟩:=hr8.open))
    have HX48:=Jh (HXR.out.trans hx8)
    have HR8:=Jh hr8
    have HW8:=Jh (HROW.out.ext hx8)
    have HN9:=Jh (HWN.out w8 hx8)
    have HS8:=Jh (show N2<=w8.heap.size from HN2.out ▸ HX48.out.size)
    have HWLT:=Jh (fun g (h:(Value.slice a7 T.length c7).ownBlock=some g)=>(show g<wr.heap.size from by
     obtain ⟨-,cur,hcur⟩:=HROW.out.at h
     exact (Array.getElem?_eq_some_iff.1 hcur).1))
    have HSZ8:=Jh hx8.size
    clear hr8 hx8 e1 ycl
    go_upto_region 19 with (first | ((with_reducible show Jl 26);refine Jm 26 ((HD4.out.ext HX48.out).has) agg_Flat rfl ?_) | (go_at_call 26;refine HN9.out.mono ?_;rintro r w9 ⟨u9,rfl,hr9,hx9⟩;obtain ⟨la,lc,rfl,-⟩:=hr9.open))
    have HX49:=Jh (HX48.out.trans hx9)
    have HL9:=Jh hr9
    have hwlm:WL.length<=9223372036854775807:=by
     obtain ⟨_,_,_,_,_,h1,h2,_⟩:=hr9.cells.open
     omega
    have HA9:=Jh (HR8.out.ext hx9)
    have HW9:=Jh (HW8.out.ext hx9)
    have b5:((A.length:Int) != (vs.length:Int))=false:=by rw [bne_eq_false_iff_eq,HRKk.out.1,HV2.out.1]
    clear hr9 hx9 HR8 HW8 HX48 HN9
    go_upto_region 21 with fail
    clear b5
    go_wp2_with fail
    obtain ⟨wo,rfl⟩:∃ wo,wo=wr:=⟨_,rfl⟩
    obtain ⟨R,hR⟩:∃ R,(Value.slice a7 T.length c7).ownBlock=R:=⟨_,rfl⟩
    rw [hR] at HWLT
    have HRR:=Jh hR
    clear hR
    go_loopw [16,17,18] (fun p _ _ wr=>∃ (i:Nat) (L:List Nat),i<=WL.length/\p=.int .i64 i/\WordRow N2 (.slice a7 T.length c7) L wr/\TkInv d.signals vs T (TkD d k WL i 0) L/\w9.grownBy wr R/\Ext w4 wr) (fun p _ _ _=>WL.length-(intOf p).toNat)
    case atStart=>exact ⟨0,L,Nat.zero_le _,rfl,HW9.out,tk_begin WL HINV.out,⟨rfl,rfl,rfl,Nat.le_refl _,fun _ _ _=>rfl⟩,HX49.out⟩
    case round =>
     obtain ⟨i,L1,hi,rfl,hrow,hinv,hgr,hxr⟩:=hrel
     have HROW1:=Jh hrow
     have HINV1:=Jh hinv
     have HGR1:=Jh hgr
     have HXR1:=Jh hxr
     clear hrow hinv hgr hxr
     by_cases hli:i<WL.length
     ·obtain ⟨kk,j,hkk,hj,hbn,-,hk4⟩:=HKWk.out _ (List.getElem_mem hli)
      have HGI:=Jh (show WL[i]? = some (bn d.signals kk j) by rw [List.getElem?_eq_getElem hli,hbn])
      have HMI:=Jh (show bn d.signals kk j∈WL by rw [<-hbn];exact List.getElem_mem hli)
      have HJ:=Jh hj
      have HK4:=Jh (show kindOf d.signals (kk:Int)=4 by rw [HKC.out] at hk4;exact of_decide_eq_true hk4.symm)
      clear hbn hk4 hj
      go_wp2_with fail
      obtain ⟨wp,rfl⟩:∃ wp,wp=wr:=⟨_,rfl⟩
      go_loopw [17,18] (fun p _ wr=>∃ (q:Nat) (L:List Nat),q<=d.signals.length/\p=.int .i64 q/\WordRow N2 (.slice a7 T.length c7) L wr/\TkInv d.signals vs T (TkD d k WL i q) L/\w9.grownBy wr R/\Ext w4 wr) (fun p _ _=>d.signals.length-(intOf p).toNat)
      case atStart=>exact ⟨0,L1,Nat.zero_le _,rfl,HROW1.out,HINV1.out,HGR1.out,HXR1.out⟩
      case round =>
       obtain ⟨q,L2,hq,rfl,hrow,hinv,hgr,hxr⟩:=hrel
       have HROW2:=Jh hrow
       have HINV2:=Jh hinv
       have HGR2:=Jh hgr
       have HXR2:=Jh hxr
       clear hrow hinv hgr hxr
       by_cases hlq:q<d.signals.length
       ·obtain rfl:=HVA.out (by have:=HV2.out.1;omega)
        obtain rfl:=HTA.out (by have:=HTV.out.1;omega)
        obtain rfl:=HSA.out (by omega)
        have hqo:q+1<OF.length:=by rw [HOL.out];omega
        have hqv:q<vs.length:=by rw [HV2.out.1];exact hlq
        have hA2:=HA9.out.grown HGR2.out (fun g hg hR=>by have h1:=(HA9.out.at hg).1;have h2:=HWLT.out g hR.symm;omega)
        have hL2:=HL9.out.grown HGR2.out (fun g hg hR=>by have h1:=(HL9.out.at hg).1;have h2:=HWLT.out g hR.symm;have:=HSZ8.out;omega)
        obtain ⟨gA,cA,eA,-,-⟩:=hA2.open1 (by rw [HRKk.out.1];omega)
        injection eA with eA eA2 eA3
        subst eA eA3
        clear eA2
        obtain ⟨gL,cL,eL,-,-⟩:=hL2.open1 (by omega)
        injection eL with eL eL2 eL3
        subst eL eL3
        clear eL2
        have HA2:=Jh hA2
        have HCL:=Jh (fun W (h:Ext wr W)=>(show W.cell? ⟨gL,i,none⟩=some (.int .i64 (bn d.signals kk j)) from by
         obtain ⟨g',c',e,-,hc⟩:=(hL2.ext h).open1 (by omega)
         injection e with e
         injection e with e
         injection e with e
         subst e
         exact hc i _ HGI.out))
        have HC1:=Jh (fun W (h:Ext w4 W) (z:Nat) (hz:z<OF.length)=>(show W.cell? ⟨bg,z,none⟩=some (.int .i64 (sumW d.signals z)) from by
         obtain ⟨g',c',e,-,hc⟩:=(HB4.out.ext h).open1 (by omega)
         injection e with e
         injection e with e
         injection e with e
         subst e
         exact hc z _ (by rw [List.getElem?_eq_getElem hz,HOG.out z hz])))
        have HCO1:=Jh (fun W (h:Ext w4 W)=>HC1.out W h q (by omega))
        have HCO2:=Jh (fun W (h:Ext w4 W)=>HC1.out W h (q+1) hqo)
        obtain ⟨k1,k2,k3⟩:=tk_where HWL.out hkk HJ.out hlq
        have hz1:=sumW_le d.signals HWL.out q (by omega)
        have hz2:=sumW_le d.signals HWL.out (q+1) (by omega)
        have hbj:bn d.signals kk j=sumW d.signals kk+j:=rfl
        have hz3:=sumW_le d.signals HWL.out kk (by omega)
        have hjw:j<64:=by have:=sigW_le d.signals HLS.out (kk:Int);have:=HJ.out;omega
        have HBJ:=Jh (fun (e:kk=q)=>(show bn d.signals kk j=sumW d.signals q+j by subst e;rfl))
        have hn0:0<=bn d.signals kk j/\bn d.signals kk j<=134217728:=by rw [hbj];omega
        have K1:=Jh k1
        have K2:=Jh k2
        have K3:=Jh k3
        clear k1 k2 k3 hbj hz3 hA2 hL2 HC1
        generalize sumW d.signals q=o1 at *
        generalize sumW d.signals (q+1)=o2 at *
        obtain ⟨n0,hn⟩:∃ n,bn d.signals kk j=n:=⟨_,rfl⟩
        rw [hn] at HCL hn0
        simp only [hn] at K1 K2 K3 HBJ
        clear hn
        have HNO:=Jh hn0
        have HZ1:=Jh hz1
        have HZ2:=Jh hz2
        clear hn0 hz1 hz2
        go_upto_region 27 with fail
        refine Jg wr fun hH=>?_
        try simp only [J]
        (refine Jt 0 (.slice (some ⟨gL,0,none⟩) WL.length lc) rfl (yif_load1 rfl fun _ _=>rfl) hH ?_;try simp only [J])
        (refine Jt 1 (.int .i64 (i:Int)) rfl (yif_load1 rfl fun _ _=>rfl) hH ?_;try simp only [J])
        (refine Jt 2 (.pointer (some ⟨gL,i,none⟩)) rfl (yif_load1 rfl (by intro W hW;clear hW;go_simp;try (intro h;omega))) hH ?_;try simp only [J])
        (refine Jt 3 (.int .i64 n0) rfl (yif_load1 rfl (by intro W hW;have y:=HCL.out W hW;clear hW;go_simp)) hH ?_;try simp only [J])
        (refine Jt 4 (.slice (some ⟨bg,0,none⟩) OF.length bc) rfl (yif_load1 rfl fun _ _=>rfl) hH ?_;try simp only [J])
        (refine Jt 5 (.int .i64 (q:Int)) rfl (yif_load1 rfl fun _ _=>rfl) hH ?_;try simp only [J])
        (refine Jt 6 (.pointer (some ⟨bg,q,none⟩)) rfl (yif_load1 rfl (by intro W hW;clear hW;go_simp;try (intro h;omega))) hH ?_;try simp only [J])
        (refine Jt 7 (.int .i64 o1) rfl (yif_load1 rfl (by intro W hW;have y:=HCO1.out W (HXR2.out.trans hW);clear hW;go_simp)) hH ?_;try simp only [J])
        by_cases hlt1:kk<q
        ·have hx1:=K3.out hlt1
         (refine Jt 8 (.bool true) rfl (yif_load1 rfl (by intro W hW;clear hW;go_simp;try omega)) hH ?_;try simp only [J])
         (refine Jt 9 (.bool true) rfl (yif_load1 rfl fun _ _=>rfl) hH ?_;try simp only [J])
         (refine Jt 10 (undef) rfl (Or.inr ⟨rfl,rfl⟩) hH ?_;try simp only [J])
         (refine Jt 11 (undef) rfl (Or.inr ⟨rfl,rfl⟩) hH ?_;try simp only [J])
         (refine Jt 12 (undef) rfl (Or.inr ⟨rfl,rfl⟩) hH ?_;try simp only [J])
         (refine Jt 13 (undef) rfl (Or.inr ⟨rfl,rfl⟩) hH ?_;try simp only [J])
         (refine Jt 14 (undef) rfl (Or.inr ⟨rfl,rfl⟩) hH ?_;try simp only [J])
         (refine Jt 15 (undef) rfl (Or.inr ⟨rfl,rfl⟩) hH ?_;try simp only [J])
         (refine Jt 16 (undef) rfl (Or.inr ⟨rfl,rfl⟩) hH ?_;try simp only [J])
         (refine Jt 17 (undef) rfl (Or.inr ⟨rfl,rfl⟩) hH ?_;try simp only [J])
         (refine Jt 18 (undef) rfl (Or.inr ⟨rfl,rfl⟩) hH ?_;try simp only [J])
         (refine Jt 19 (undef) rfl (Or.inr ⟨rfl,rfl⟩) hH ?_;try simp only [J])
         (refine Jt 20 (.bool true) rfl (yif_load1 rfl (by intro W hW;clear hW;go_simp)) hH ?_;try simp only [J])
         refine Jz ?_
         have HHD:=Jh hH
         clear hH hx1
         go_wp2_with fail
         go_roundw
         case rel=>exact ⟨q+1,L2,hlq,by go_num,HROW2.out.ext HHD.out,tk_skip HWL.out hkk HJ.out HGI.out (by omega) HINV2.out,gbR_trans HGR2.out (gbR_ext HHD.out _),HXR2.out.trans HHD.out⟩
         case measure=>simp [intOf];omega
        have hx1:¬ n0<o1:=by
         by_cases h2:q<kk
         ·exact (K1.out h2).1
         ·exact (K2.out (by omega)).1
        (refine Jt 8 (.bool false) rfl (yif_load1 rfl (by intro W hW;clear hW;go_simp;try omega)) hH ?_;try simp only [J])
        (refine Jt 9 (.bool false) rfl (yif_load1 rfl fun _ _=>rfl) hH ?_;try simp only [J])
        (refine Jt 10 (.slice (some ⟨gL,0,none⟩) WL.length lc) rfl (yif_load1 rfl fun _ _=>rfl) hH ?_;try simp only [J])
        (refine Jt 11 (.int .i64 (i:Int)) rfl (yif_load1 rfl fun _ _=>rfl) hH ?_;try simp only [J])
        (refine Jt 12 (.pointer (some ⟨gL,i,none⟩)) rfl (yif_load1 rfl (by intro W hW;clear hW;go_simp;try (intro h;omega))) hH ?_;try simp only [J])
        (refine Jt 13 (.int .i64 n0) rfl (yif_load1 rfl (by intro W hW;have y:=HCL.out W hW;clear hW;go_simp)) hH ?_;try simp only [J])
        (refine Jt 14 (.slice (some ⟨bg,0,none⟩) OF.length bc) rfl (yif_load1 rfl fun _ _=>rfl) hH ?_;try simp only [J])
        (refine Jt 15 (.int .i64 (q:Int)) rfl (yif_load1 rfl fun _ _=>rfl) hH ?_;try simp only [J])
        (refine Jt 16 (.int .i64 ((q+1:Nat):Int)) rfl (yif_load1 rfl (by intro W hW;clear hW;go_simp;rw [IntKind.wrap_i64]<;>omega)) hH ?_;try simp only [J])
        (refine Jt 17 (.pointer (some ⟨bg,q+1,none⟩)) rfl (yif_load1 rfl (by intro W hW;clear hW;go_simp;try (intro h;omega))) hH ?_;try simp only [J])
        (refine Jt 18 (.int .i64 o2) rfl (yif_load1 rfl (by intro W hW;have y:=HCO2.out W (HXR2.out.trans hW);clear hW;go_simp)) hH ?_;try simp only [J])
        by_cases hlt2:q<kk
        ·have hx2:=(K1.out hlt2).2
         (refine Jt 19 (.bool true) rfl (yif_load1 rfl (by intro W hW;clear hW;go_simp;try omega)) hH ?_;try simp only [J])
         (refine Jt 20 (.bool true) rfl (yif_load1 rfl (by intro W hW;clear hW;go_simp)) hH ?_;try simp only [J])
         refine Jz ?_
         have HHD:=Jh hH
         clear hH hx1 hx2
         go_wp2_with fail
         go_roundw
         case rel=>exact ⟨q+1,L2,hlq,by go_num,HROW2.out.ext HHD.out,tk_skip HWL.out hkk HJ.out HGI.out (by omega) HINV2.out,gbR_trans HGR2.out (gbR_ext HHD.out _),HXR2.out.trans HHD.out⟩
         case measure=>simp [intOf];omega
        obtain rfl:kk=q:=by omega
        have hx2:=(K2.out rfl).2
        (refine Jt 19 (.bool false) rfl (yif_load1 rfl (by intro W hW;clear hW;go_simp;try omega)) hH ?_;try simp only [J])
        (refine Jt 20 (.bool false) rfl (yif_load1 rfl (by intro W hW;clear hW;go_simp)) hH ?_;try simp only [J])
        refine Jz ?_
        have HHD:=Jh hH
        clear hH hx1 hx2
        have HN0:=Jh (HBJ.out rfl)
        clear hlt1 hlt2 K1 K2 K3 HBJ HZ2 HCO2
        generalize wr.drew=wa at *
        go_upto_region 28 with fail
        refine Jg wa fun hH=>?_
        obtain ⟨M,hM⟩:∃ M,2^j=M:=⟨_,rfl⟩
        have HM:=Jh hM
        have HJW:=Jh hjw
        clear hM
        try simp only [J]
        (refine Jt 0 (.slice (some ⟨gL,0,none⟩) WL.length lc) rfl (yif_load1 rfl fun _ _=>rfl) hH ?_;try simp only [J])
        (refine Jt 1 (.int .i64 (i:Int)) rfl (yif_load1 rfl fun _ _=>rfl) hH ?_;try simp only [J])
        (refine Jt 2 (.pointer (some ⟨gL,i,none⟩)) rfl (yif_load1 rfl (by intro W hW;clear hW;go_simp;try (intro h;omega))) hH ?_;try simp only [J])
        (refine Jt 3 (.int .i64 n0) rfl (yif_load1 rfl (by intro W hW;have y:=HCL.out W (HHD.out.trans hW);clear hW;go_simp)) hH ?_;try simp only [J])
        (refine Jt 4 (.slice (some ⟨bg,0,none⟩) OF.length bc) rfl (yif_load1 rfl fun _ _=>rfl) hH ?_;try simp only [J])
        (refine Jt 5 (.int .i64 (kk:Int)) rfl (yif_load1 rfl fun _ _=>rfl) hH ?_;try simp only [J])
        (refine Jt 6 (.pointer (some ⟨bg,kk,none⟩)) rfl (yif_load1 rfl (by intro W hW;clear hW;go_simp;try (intro h;omega))) hH ?_;try simp only [J])
        (refine Jt 7 (.int .i64 o1) rfl (yif_load1 rfl (by intro W hW;have y:=HCO1.out W (HXR2.out.trans (HHD.out.trans hW));clear hW;go_simp)) hH ?_;try simp only [J])
        (refine Jt 8 (.int .i64 (j:Int)) rfl (yif_load1 rfl (by intro W hW;clear hW;go_simp;have h1:=HN0.out;rw [IntKind.wrap_i64]<;>omega)) hH ?_;try simp only [J])
        (refine Jt 9 (.int .u64 (j:Int)) rfl (yif_load1 rfl (by intro W hW;clear hW;go_simp;exact u_wrapn (by omega))) hH ?_;try simp only [J])
        (refine Jt 10 (.int .u64 (M:Int)) rfl (yif_load1 rfl (by intro W hW;clear hW;go_simp;exact one_shl HJW.out HM.out)) hH ?_;try simp only [J])
        (refine Jt 11 (.int .u64 (M:Int)) rfl (yif_load1 rfl fun _ _=>rfl) hH ?_;try simp only [J])
        refine Jz ?_
        have HHD2:=Jh (HHD.out.trans hH)
        clear hH HHD
        generalize wa.drew=wb at *
        have hqT:kk<T.length:=by rw [HTV.out.1];exact hkk
        have hqA:kk<A.length:=by rw [HRKk.out.1];exact hkk
        have h64T:=val2_us64 HLS.out HTV.out _ (List.getElem_mem hqT)
        have h64A:=val2_us64 HLS.out HRKk.out _ (List.getElem_mem hqA)
        have HCT:=Jh (fun W (h:Ext w4 W)=>(show W.cell? ⟨tb,tO+kk,none⟩=some (W64 T[kk]) from Us.get (k:=kk) (HTR.out.mono fun x _ b o (hh:UAt w3 x b o)=>Has.ext hh (HX34.out.trans h)) hqT))
        have HCA:=Jh (fun W (h:Ext wr W)=>(show W.cell? ⟨gA,kk,none⟩=some (W64 A[kk]) from ((HA2.out.ext h).cellf hqA).1))
        have HKD:=Jh (fun W (h:Ext w W)=>(show W.cell? ⟨sb,so+kk*4+2,none⟩=some (.int .i64 4) from by
         have y:=(Sigs.get (HSR.out.mono fun x _ b o hh=>Has.ext hh h) hlq) 2 _ rfl
         have hk4:=HK4.out
         rw [kindOf_n hlq] at hk4
         rw [<-hk4];exact y))
        have htb:=HTBk.out kk j hlq HJ.out HMI.out
        have hgT:T.getD kk 0=T[kk]:=by simp [List.getD_eq_getElem?_getD,List.getElem?_eq_getElem hqT]
        have hgA:A.getD kk 0=A[kk]:=by simp [List.getD_eq_getElem?_getD,List.getElem?_eq_getElem hqA]
        rw [hgT,hgA] at htb
        have h2j:(2:Nat)^j<18446744073709551616:=by
         have:(2:Nat)^j<2^64:=Nat.pow_lt_pow_right (by decide) hjw
         omega
        have heq:bits .and .u64 (T[kk]:Int) ((2^j:Nat):Int)=bits .and .u64 (A[kk]:Int) ((2^j:Nat):Int):=by
         rw [n_and (by simpa using h64T) h2j,n_and (by simpa using h64A) h2j,tk_and htb]
        rw [HM.out] at heq
        generalize T[kk]=X1 at *
        generalize A[kk]=X2 at *
        obtain ⟨Y1,hY1⟩:∃ y,bits .and .u64 (X1:Int) (M:Int)=y:=⟨_,rfl⟩
        rw [hY1] at heq
        have HE1:=Jh hY1
        have HE2:=Jh heq.symm
        clear htb hgT hgA heq hY1 h64T h64A h2j
        go_upto_region 29 with fail
        refine Jg wb fun hH=>?_
        try simp only [J]
        (refine Jt 0 (.slice (some ⟨tb,tO,none⟩) T.length tc) rfl (yif_load1 rfl fun _ _=>rfl) hH ?_;try simp only [J])
        (refine Jt 1 (.int .i64 (kk:Int)) rfl (yif_load1 rfl fun _ _=>rfl) hH ?_;try simp only [J])
        (refine Jt 2 (.pointer (some ⟨tb,tO+kk,none⟩)) rfl (yif_load1 rfl (by intro W hW;clear hW;go_simp;try (intro h;omega))) hH ?_;try simp only [J])
        (refine Jt 3 (.int .u64 (X1:Int)) rfl (yif_load1 rfl (by intro W hW;have y:=HCT.out W (HXR2.out.trans (HHD2.out.trans hW));clear hW;go_simp)) hH ?_;try simp only [J])
        (refine Jt 4 (.int .u64 (M:Int)) rfl (yif_load1 rfl fun _ _=>rfl) hH ?_;try simp only [J])
        (refine Jt 5 (.int .u64 Y1) rfl (yif_load1 rfl (by intro W hW;clear hW;go_simp;exact HE1.out)) hH ?_;try simp only [J])
        (refine Jt 6 (.slice (some ⟨gA,0,none⟩) A.length gc) rfl (yif_load1 rfl fun _ _=>rfl) hH ?_;try simp only [J])
        (refine Jt 7 (.int .i64 (kk:Int)) rfl (yif_load1 rfl fun _ _=>rfl) hH ?_;try simp only [J])
        (refine Jt 8 (.pointer (some ⟨gA,kk,none⟩)) rfl (yif_load1 rfl (by intro W hW;clear hW;go_simp;try (intro h;omega))) hH ?_;try simp only [J])
        (refine Jt 9 (.int .u64 (X2:Int)) rfl (yif_load1 rfl (by intro W hW;have y:=HCA.out W (HHD2.out.trans hW);clear hW;go_simp)) hH ?_;try simp only [J])
        (refine Jt 10 (.int .u64 (M:Int)) rfl (yif_load1 rfl fun _ _=>rfl) hH ?_;try simp only [J])
        (refine Jt 11 (.int .u64 Y1) rfl (yif_load1 rfl (by intro W hW;clear hW;go_simp;exact HE2.out)) hH ?_;try simp only [J])
        (refine Jt 12 (.bool false) rfl (yif_load1 rfl (by intro W hW;clear hW;go_simp)) hH ?_;try simp only [J])
        (refine Jt 13 (.bool false) rfl (yif_load1 rfl fun _ _=>rfl) hH ?_;try simp only [J])
        (refine Jt 14 (.pointer (some ⟨w.heap.size,0,none⟩)) rfl (yif_load1 rfl (by intro W hW;clear hW;go_simp)) hH ?_;try simp only [J])
        (refine Jt 15 (.slice (some ⟨sb,so,none⟩) d.signals.length sc) rfl (yif_load1 rfl (by intro W hW;have y:=(HD4.out.ext (HXR2.out.trans (HHD2.out.trans hW))).has 0 _ rfl;rw [Nat.zero_add] at y;clear hW;go_simp)) hH ?_;try simp only [J])
        (refine Jt 16 (.int .i64 (kk:Int)) rfl (yif_load1 rfl fun _ _=>rfl) hH ?_;try simp only [J])
        (refine Jt 17 (.pointer (some ⟨sb,so+kk*4,none⟩)) rfl (yif_load1 rfl (by intro W hW;clear hW;go_simp;try (intro h;omega))) hH ?_;try simp only [J])
        (refine Jt 18 (.pointer (some ⟨sb,so+kk*4+2,none⟩)) rfl (yif_load1 rfl (by intro W hW;clear hW;go_simp)) hH ?_;try simp only [J])
        (refine Jt 19 (.int .i64 4) rfl (yif_load1 rfl (by intro W hW;have y:=HKD.out W (HX4.out.trans (HXR2.out.trans (HHD2.out.trans hW)));clear hW;go_simp)) hH ?_;try simp only [J])
        (refine Jt 20 (.bool false) rfl (yif_load1 rfl (by intro W hW;clear hW;go_simp)) hH ?_;try simp only [J])
        (refine Jt 21 (.bool false) rfl (yif_load1 rfl (by intro W hW;clear hW;go_simp)) hH ?_;try simp only [J])
        refine Jz ?_
        have HHD3:=Jh (HHD2.out.trans hH)
        clear hH HHD2 HE1 HE2 HCT HCA HKD
        generalize wb.drew=wc at *
        have hqL:kk<L2.length:=by rw [HINV2.out.1.1];exact hkk
        obtain ⟨g,cap,hxe,hgN,hcl⟩:=HROW2.out.open1 (by omega)
        injection hxe with e1 e2 e3
        subst e1
        subst e3
        clear e2
        obtain rfl:R=some g:=HRR.out.symm
        obtain ⟨-,cur,hcur⟩:=HROW2.out.at (k:=g) rfl
        have hgw:g<wr.heap.size:=(Array.getElem?_eq_some_iff.1 hcur).1
        have hstep:=tk_take HWL.out HV2.out hlq HJ.out HGI.out HINV2.out
        have hgx:L2.getD kk 0=L2[kk]:=by simp [List.getD_eq_getElem?_getD,List.getElem?_eq_getElem hqL]
        have hgv:vs.getD kk 0=vs[kk]:=by simp [List.getD_eq_getElem?_getD,List.getElem?_eq_getElem hqv]
        rw [hgx,hgv] at hstep
        have hopw:=takeW_op (val2_us64 HLS.out HINV2.out.1 _ (List.getElem_mem hqL)) (H64.out _ (List.getElem_mem hqv)) hjw
        have HSET:=Jh (fun W (h:Ext wr W)=>(HROW2.out.ext h).set kk hqL (takeW L2[kk] vs[kk] j))
        have HCX:=Jh (fun W (h:Ext wr W)=>((HROW2.out.ext h).cellf hqL))
        have HCV:=Jh (fun W (h:Ext w W)=>Us.get (k:=kk) (HVR.out.mono fun x _ b o (hh:UAt w x b o)=>Has.ext hh h) hqv)
        obtain ⟨Z,hZ⟩:∃ Z,takeW L2[kk] vs[kk] j=Z:=⟨_,rfl⟩
        rw [hZ] at hstep hopw
        simp only [hZ] at HSET
        rw [HM.out] at hopw
        have HSTEP:=Jh hstep
        have HOP:=Jh hopw
        have HGN:=Jh hgN
        generalize L2[kk]=X at *
        generalize vs[kk]=V at *
        clear hZ hstep hopw hgx hgv hgN hcl hcur hgw
        go_upto_region 31 with fail
        refine wp_region_held_drew (S:=fun W=>Ext w4 W) (by kernel_rfl) ((HXR2.out.trans HHD3.out).drew) (fun hH=>?_)
        try simp only [J]
        (refine Jt 0 (_) rfl (yif_load1 rfl fun _ _=>rfl) hH ?_;try simp only [J])
        (refine Jt 1 (_) rfl (yif_load1 rfl fun _ _=>rfl) hH ?_;try simp only [J])
        (refine Jt 2 (_) rfl (yif_load1 rfl fun _ _=>rfl) hH ?_;try simp only [J])
        (refine Jt 3 (_) rfl (yif_load1 rfl fun _ _=>rfl) hH ?_;try simp only [J])
        (refine Jt 4 (.pointer (some ⟨g,kk,none⟩)) rfl (yif_load1 rfl (by intro W hW;clear hW;go_simp;try (intro h;omega))) hH ?_;try simp only [J])
        (refine Jt 6 (_) rfl (yif_load1 rfl fun _ _=>rfl) hH ?_;try simp only [J])
        (refine Jt 8 (_) rfl (yif_load1 rfl fun _ _=>rfl) hH ?_;try simp only [J])
        (refine Jt 9 (_) rfl (yif_load1 rfl fun _ _=>rfl) hH ?_;try simp only [J])
        (refine Jt 10 (.pointer (some ⟨bv,ov+kk,none⟩)) rfl (yif_load1 rfl (by intro W hW;clear hW;go_simp;try (intro h;omega))) hH ?_;try simp only [J])
        (refine Jt 11 (.int .u64 (V:Int)) rfl (yif_load1 rfl (by intro W hW;have y:=HCV.out W (HX4.out.trans hW);clear hW;go_simp)) hH ?_;try simp only [J])
        (refine Jt 12 (_) rfl (yif_load1 rfl fun _ _=>rfl) hH ?_;try simp only [J])
        (refine Jt 13 (.int .u64 (bits .and .u64 (V:Int) (M:Int))) rfl (yif_load1 rfl (by intro W hW;clear hW;go_simp)) hH ?_;try simp only [J])
        have hxd:Ext wr wc.drew:=HHD3.out.trans (Below.drew (Below.refl _ wc))
        have HXD:=Jh hxd
        clear hxd
        have c1:=(HCX.out _ HXD.out).1
        (refine Jr 5 rfl fun K hK=>?_)
        go_simp
        refine hK.out _ _ hH (fun hH=>?_)
        clear hK K c1
        try simp only [J]
        (refine Jt 7 (.int .u64 (bits .andNot .u64 (X:Int) (M:Int))) rfl (yif_load1 rfl (by intro W hW;clear hW;go_simp)) hH ?_;try simp only [J])
        (refine Jt 14 (.int .u64 (Z:Int)) rfl (yif_load1 rfl (by intro W hW;clear hW;go_simp;exact HOP.out)) hH ?_;try simp only [J])
        (refine Jt 15 (.pointer (some ⟨g,kk,none⟩)) rfl (yif_load1 rfl (by intro W hW;clear hW;go_simp;try (intro h;omega))) hH ?_;try simp only [J])
        have c1:=(HCX.out _ HXD.out).1
        have f1:=(HCX.out _ HXD.out).2
        have HRN:=Jh (HSET.out _ HXD.out)
        (refine Jr 16 rfl fun K hK=>?_)
        go_simp
        have hxs:Ext w4 (wc.drew.setCell ⟨g,kk,none⟩ (W64 Z)):=hH.grown (gb_set _ g kk _) (by rw [HN2.out];exact HGN.out)
        refine hK.out _ _ hxs (fun hH=>?_)
        clear hK K c1 f1
        refine Jz ?_
        have HXS:=Jh hxs
        have HGS:=Jh (gb_trans HGR2.out (gb_trans (gb_ext HXD.out g) (gb_set _ g kk (W64 Z))))
        clear hH hxs
        go_wp2_with fail
        go_roundw
        case rel=>exact ⟨kk+1,L2.set kk Z,hlq,by go_num,HRN.out,HSTEP.out,HGS.out,HXS.out⟩
        case measure=>simp [intOf];omega
       ·obtain rfl:q=d.signals.length:=by omega
        have b8:¬ d.signals.length<vs.length:=by rw [HV2.out.1];exact Nat.lt_irrefl _
        go_wp2_with fail
        go_roundw
        case rel=>exact ⟨i+1,L2,hli,by go_num,HROW2.out,tk_next HINV2.out,HGR2.out,HXR2.out⟩
        case measure=>simp [intOf];omega
     ·obtain rfl:i=WL.length:=by omega
      go_wp2_with fail
      go_roundw
      case rel=>exact ⟨k+1,L1,hlt,by go_num,HROW1.out,tk_ended HWL2.out.symm HINV1.out,HXR1.out⟩
      case measure=>simp [intOf];omega
  ·obtain rfl:k=d.procs.length:=by omega
   obtain rfl:L=vs:=HALL.out L HINV.out
   have HWD:=Jh (Words_calls11 _ _ _ _ wr HROW.out.cells (HUS.out wr (HX4.out.trans HXR.out)) (by omega))
   rw [decide_eq_true rfl] at HWD
   have HVV:=Jh (fun W (h:Ext w4 W)=>HVT.out W _ (HX4.out.trans h) (HU4.out.ext h))
   have HD5:=Jh (fun W (h:Ext w4 W)=>(HD4.out.ext h).has)
   go_wp2_with (first | (go_at_call 24;refine HWD.out.mono ?_;rintro r w8 ⟨rfl,hx8⟩;have d8:=HD5.out w8 (HXR.out.trans hx8)) | ((with_reducible show Jl 26);refine Jm 26 (d8) agg_Flat rfl ?_) | (go_at_call 21;refine (HVV.out w8 (HXR.out.trans hx8)).mono ?_;rintro r w9 ⟨rfl,hx9⟩))
   go_ret
   exact ⟨rfl,HX4.out.trans (HXR.out.trans (hx8.trans hx9))⟩
/-! ### from what is read to a design -/
section
variable {H:Type} {enc:TypeId × Value->H} {w:World}
theorem bulk_one (d:DataW H):1<=Rows.uptoBulk d:=by
 cases d with
 | lit l=>cases l<;>simp [Rows.uptoBulk]
 | nil=>simp [Rows.uptoBulk]
 | ptr d=>simp [Rows.uptoBulk]
 | slice elems spare=>simp [Rows.uptoBulk]
 | agg parts=>simp [Rows.uptoBulk]
 | iface t d=>simp [Rows.uptoBulk]
 | map entries=>simp [Rows.uptoBulk]
 | held h=>simp [Rows.uptoBulk]
theorem has_of_cells {a:Addr} {n:Nat} {cs:List Value} (h:w.cells? 0 a n=some cs) (hn:0<n):∃ b o,a=⟨b,o,none⟩/\cs.length=n/\Has w b o cs:=by
 obtain ⟨-,hl,hc⟩:=World.cells?_some h
 obtain ⟨b,o,spot⟩:=a
 obtain ⟨v,hv⟩:∃ v,cs[0]? = some v:=⟨_,List.getElem?_eq_getElem (by omega)⟩
 have h0:=hc 0 hn
 rw [hv] at h0
 have hspot:spot=none:=by simpa [Addr.add] using World.cell?_spot h0
 subst hspot
 refine ⟨b,o,rfl,hl,fun j u hj=>?_⟩
 have hlt:=(List.getElem?_eq_some_iff.1 hj).1
 rw [<-hj,<-hc j (by omega),Go.WideShapes.add_plain]
theorem lift_rows {α:Type} {size n:Nat} {e:TypeId} {At:α->Nat->Nat->Prop} {ok:α->Prop} {ms:α->Nat} {b:Nat}
  (hE:∀ cs x o,Has w b o cs->DataW.trod enc Tryz.prog w 0 (fun _=>true) true n e cs=some x->∃ y,At y b o/\ok y/\ms y<=Rows.uptoBulk x.1) (elems:List (DataW H × List MemPlace)) :
  ∀ o,(∀ i (hi:i<elems.length),∃ cs,Has w b (o+i*size) cs/\DataW.trod enc Tryz.prog w 0 (fun _=>true) true n e cs=some elems[i])->∃ l:List α,l.length=elems.length/\Rows size At l b o/\(∀ y∈l,ok y)/\sumBy ms l<=Rows.uptoBulkAll (elems.map (·.1)):=by
 induction elems with
 | nil=>intro o _;exact ⟨[],rfl,trivial,by simp,by simp [sumBy]⟩
 | cons x elems ih =>
  intro o h
  obtain ⟨cs,h1,h2⟩:=h 0 (by simp)
  simp only [Nat.zero_mul,Nat.add_zero,Jb] at h1 h2
  obtain ⟨y,q1,q2,q3⟩:=hE cs x o h1 h2
  obtain ⟨l,r1,r2,r3,r4⟩:=ih (o+size) fun i hi=>by
   obtain ⟨cs',h3,h4⟩:=h (i+1) (by simpa using hi)
   refine ⟨cs',?_,by simpa using h4⟩
   rw [show o+size+i*size=o+(i+1)*size by rw [Nat.add_mul];omega]
   exact h3
  refine ⟨y::l,by simp [r1],⟨q1,r2⟩,?_,?_⟩
  ·intro z hz
   rcases List.mem_cons.1 hz with e | hz
   ·rw [e];exact q2
   ·exact r3 z hz
  ·simp only [sumBy,List.map_cons,Rows.uptoBulkAll];omega
theorem lift_slice {α:Type} {size:Nat} {t e:TypeId} (ht:Tryz.prog.underlying t=some (.slice e)) (hc:Tryz.prog.cellsOf e=size) (hs:0<size) {At:α->Nat->Nat->Prop} {ok:α->Prop} {ms:α->Nat} {m:Nat} {cs:List Value} {x:DataW H × List MemPlace} (h:DataW.trod enc Tryz.prog w 0 (fun _=>true) true m t cs=some x)
  (hE:∀ n,n<m->∀ cs x b o,Has w b o cs->DataW.trod enc Tryz.prog w 0 (fun _=>true) true n e cs=some x->∃ y,At y b o/\ok y/\ms y<=Rows.uptoBulk x.1) :
  ∃ s l,cs=[s]/\Sl size At s l/\(∀ y∈l,ok y)/\sumBy ms l+1<=Rows.uptoBulk x.1/\l.length+1<=Rows.uptoBulk x.1:=by
 rcases DataW.trod_slice ht h with ⟨rfl,rfl⟩ | ⟨a,len,cap,elems,rest,n,rfl,rfl,rfl,-,hlc,hcm,hel,hes,-⟩
 ·exact ⟨_,[],rfl,Sl.nil _ _,by simp,by simp [sumBy,Rows.uptoBulk],by simp [Rows.uptoBulk]⟩
 ·rw [hc] at hes
  by_cases h0:0<len
  ·obtain ⟨b,o,ha⟩:∃ b o,a=⟨b,o,none⟩:=by
    have:=hes 0 h0
    rw [List.getElem?_eq_getElem (by omega)] at this
    obtain ⟨cs,q1,-⟩:=Option.bind_eq_some_iff.1 this
    obtain ⟨b,o,q2,-⟩:=has_of_cells q1 hs
    refine ⟨b,o,?_⟩
    rw [Nat.zero_mul] at q2
    obtain ⟨ab,ao,as'⟩:=a
    unfold Addr.add at q2
    split at q2<;>simp_all
   subst ha
   obtain ⟨l,r1,r2,r3,r4⟩:=lift_rows (size:=size) (fun cs x o=>hE n (by omega) cs x b o) elems o fun i hi=>by
    have:=hes i (by omega)
    rw [List.getElem?_eq_getElem hi] at this
    obtain ⟨cs,q1,q2⟩:=Option.bind_eq_some_iff.1 this
    rw [Go.WideShapes.add_plain] at q1
    obtain ⟨b',o',q3,-,q4⟩:=has_of_cells q1 hs
    injection q3 with e1 e2
    subst e1;subst e2
    exact ⟨cs,q4,q2⟩
   refine ⟨_,l,rfl,⟨b,o,⟨_,cap,by rw [r1,hel],by omega,by simpa using hcm,fun _=>rfl⟩,r2⟩,r3,?_,?_⟩
   ·simp only [Rows.uptoBulk];omega
   ·simp only [Rows.uptoBulk]
    have:∀ l:List (DataW H),l.length<=Rows.uptoBulkAll l:=by
     intro l
     induction l with
     | nil=>simp [Rows.uptoBulkAll]
     | cons x r ih=>have:=bulk_one x;simp only [Rows.uptoBulkAll,List.length_cons];omega
    have h2:=this (elems.map (·.1))
    simp only [List.length_map] at h2
    omega
  ·obtain rfl:len=0:=by omega
   exact ⟨_,[],rfl,⟨0,0,⟨_,cap,rfl,Nat.zero_le _,by simpa using hcm,fun h=>by simp at h⟩,trivial⟩,by simp,by simp [sumBy,Rows.uptoBulk],by simp [Rows.uptoBulk]⟩
theorem lift_int {m:Nat} {cs:List Value} {x:DataW H × List MemPlace} (h:DataW.trod enc Tryz.prog w 0 (fun _=>true) true m 3 cs=some x):∃ n,cs=[.int .i64 n]/\i64r n:=by
 obtain ⟨n,rfl,-,hw⟩:=DataW.trod_int Tryz.underlying3 h
 exact ⟨n,rfl,bounds_i64 hw⟩
theorem lift_u64 {m:Nat} {cs:List Value} {x:DataW H × List MemPlace} (h:DataW.trod enc Tryz.prog w 0 (fun _=>true) true m 39 cs=some x):∃ n,cs=[.int .u64 n]/\u64r n:=by
 obtain ⟨n,rfl,-,hw⟩:=DataW.trod_int Tryz.underlying39 h
 exact ⟨n,rfl,bounds_u64 hw⟩
theorem lift_str {m:Nat} {cs:List Value} {x:DataW H × List MemPlace} (h:DataW.trod enc Tryz.prog w 0 (fun _=>true) true m 9 cs=some x):∃ n,cs=[.string n]/\n.size<=9223372036854775807:=by
 obtain ⟨n,rfl,-,hw⟩:=DataW.trod_string Tryz.underlying9 h
 exact ⟨n,rfl,by simpa [maxLen] using hw⟩
theorem cells_int:Tryz.prog.cellsOf 3=1:=by kernel_rfl
theorem cells_u64:Tryz.prog.cellsOf 39=1:=by kernel_rfl
theorem cells_str:Tryz.prog.cellsOf 9=1:=by kernel_rfl
theorem cells_bool:Tryz.prog.cellsOf 4=1:=by kernel_rfl
theorem cells_E:Tryz.prog.cellsOf 72=8:=by kernel_rfl
theorem cells_T:Tryz.prog.cellsOf 97=6:=by kernel_rfl
theorem cells_Sig:Tryz.prog.cellsOf 41=4:=by kernel_rfl
theorem cells_Proc:Tryz.prog.cellsOf 49=2:=by kernel_rfl
theorem cells_Chk:Tryz.prog.cellsOf 118=9:=by kernel_rfl
theorem cells_Flat:Tryz.prog.cellsOf 26=3:=by kernel_rfl
theorem cells_sE:Tryz.prog.cellsOf 70=1:=by kernel_rfl
theorem cells_sT:Tryz.prog.cellsOf 47=1:=by kernel_rfl
theorem cells_sSig:Tryz.prog.cellsOf 22=1:=by kernel_rfl
theorem cells_sProc:Tryz.prog.cellsOf 23=1:=by kernel_rfl
theorem cells_sChk:Tryz.prog.cellsOf 24=1:=by kernel_rfl
theorem lift_E (m:Nat):∀ cs x,DataW.trod enc Tryz.prog w 0 (fun _=>true) true m 72 cs=some x->∃ (e:E) (s:Value),cs=e.cells s/\Es w s e.l/\e.wf/\nodes e<=Rows.uptoBulk x.1:=by
 induction m using Nat.strongRecOn with
 | ind m ih =>
  intro cs x h
  obtain ⟨xs,n,rfl,rfl,hl,hxl,hf⟩:=DataW.trod_struct Tryz.underlying72 h
  rw [cells_E] at hl
  obtain ⟨c0,c1,c2,c3,c4,c5,c6,c7,rfl⟩:∃ c0 c1 c2 c3 c4 c5 c6 c7,cs=[c0,c1,c2,c3,c4,c5,c6,c7]:=by
   match cs,hl with
   | [c0,c1,c2,c3,c4,c5,c6,c7],_=>exact ⟨_,_,_,_,_,_,_,_,rfl⟩
  obtain ⟨x0,x1,x2,x3,x4,x5,x6,x7,rfl⟩:∃ x0 x1 x2 x3 x4 x5 x6 x7,xs=[x0,x1,x2,x3,x4,x5,x6,x7]:=by
   match xs,hxl with
   | [x0,x1,x2,x3,x4,x5,x6,x7],_=>exact ⟨_,_,_,_,_,_,_,_,rfl⟩
  have f0:=hf 0 _ rfl
  have f1:=hf 1 _ rfl
  have f2:=hf 2 _ rfl
  have f3:=hf 3 _ rfl
  have f4:=hf 4 _ rfl
  have f5:=hf 5 _ rfl
  have f6:=hf 6 _ rfl
  have f7:=hf 7 _ rfl
  simp only [cells_int,cells_u64,cells_sE,List.drop_zero,List.drop_succ_cons,List.take_succ_cons,List.take_zero,List.getElem?_cons_zero,List.getElem?_cons_succ] at f0 f1 f2 f3 f4 f5 f6 f7
  obtain ⟨n0,e0,w0⟩:=lift_int f0
  obtain ⟨n1,e1,w1⟩:=lift_int f1
  obtain ⟨n2,e2,w2⟩:=lift_u64 f2
  obtain ⟨n3,e3,w3⟩:=lift_int f3
  obtain ⟨n4,e4,w4⟩:=lift_int f4
  obtain ⟨n5,e5,w5⟩:=lift_int f5
  obtain ⟨n6,e6,w6⟩:=lift_int f6
  obtain ⟨s,l,e7,hsl,hok,hsum,-⟩:=lift_slice (At:=EAt w) (ok:=E.wf) (ms:=nodes) Tryz.underlying70 cells_E (by decide) f7 (fun k hk cs x b o hh hx=>by
   obtain ⟨e,s,rfl,q1,q2,q3⟩:=ih k (by omega) cs x hx
   exact ⟨e,EAt_iff.2 ⟨s,hh,q1⟩,q2,q3⟩)
  injection e0 with e0;injection e1 with e1;injection e2 with e2;injection e3 with e3;injection e4 with e4;injection e5 with e5;injection e6 with e6;injection e7 with e7
  subst e0;subst e1;subst e2;subst e3;subst e4;subst e5;subst e6;subst e7
  refine ⟨⟨n0,n1,n2,n3,n4,n5,n6,l⟩,_,rfl,hsl,(E.wf_iff _).2 ⟨w0,w1,w2,w3,w4,w5,w6,hok⟩,?_⟩
  rw [nodes_eq]
  simp only [Rows.uptoBulk,Rows.uptoBulkAll,List.map_cons,List.map_nil]
  omega
theorem lift_T (m:Nat):∀ cs x,DataW.trod enc Tryz.prog w 0 (fun _=>true) true m 97 cs=some x->∃ (t:T) (s s':Value),cs=t.cells s s'/\Es w s t.e/\Ts w s' t.l/\t.wf/\nodesT t<=Rows.uptoBulk x.1:=by
 induction m using Nat.strongRecOn with
 | ind m ih =>
  intro cs x h
  obtain ⟨xs,n,rfl,rfl,hl,hxl,hf⟩:=DataW.trod_struct Tryz.underlying97 h
  rw [cells_T] at hl
  obtain ⟨c0,c1,c2,c3,c4,c5,rfl⟩:∃ c0 c1 c2 c3 c4 c5,cs=[c0,c1,c2,c3,c4,c5]:=by
   match cs,hl with
   | [c0,c1,c2,c3,c4,c5],_=>exact ⟨_,_,_,_,_,_,rfl⟩
  obtain ⟨x0,x1,x2,x3,x4,x5,rfl⟩:∃ x0 x1 x2 x3 x4 x5,xs=[x0,x1,x2,x3,x4,x5]:=by
   match xs,hxl with
   | [x0,x1,x2,x3,x4,x5],_=>exact ⟨_,_,_,_,_,_,rfl⟩
  have f0:=hf 0 _ rfl
  have f1:=hf 1 _ rfl
  have f2:=hf 2 _ rfl
  have f3:=hf 3 _ rfl
  have f4:=hf 4 _ rfl
  have f5:=hf 5 _ rfl
  simp only [cells_int,cells_sE,cells_sT,List.drop_zero,List.drop_succ_cons,List.take_succ_cons,List.take_zero,List.getElem?_cons_zero,List.getElem?_cons_succ] at f0 f1 f2 f3 f4 f5
  obtain ⟨n0,e0,w0⟩:=lift_int f0
  obtain ⟨n1,e1,w1⟩:=lift_int f1
  obtain ⟨n2,e2,w2⟩:=lift_int f2
  obtain ⟨n3,e3,w3⟩:=lift_int f3
  obtain ⟨s4,l4,e4,hs4,hok4,hsum4,-⟩:=lift_slice (At:=EAt w) (ok:=E.wf) (ms:=nodes) Tryz.underlying70 cells_E (by decide) f4 (fun k hk cs x b o hh hx=>by
   obtain ⟨e,s,rfl,q1,q2,q3⟩:=lift_E k cs x hx
   exact ⟨e,EAt_iff.2 ⟨s,hh,q1⟩,q2,q3⟩)
  obtain ⟨s5,l5,e5,hs5,hok5,hsum5,-⟩:=lift_slice (At:=TAt w) (ok:=T.wf) (ms:=nodesT) Tryz.underlying47 cells_T (by decide) f5 (fun k hk cs x b o hh hx=>by
   obtain ⟨t,s,s',rfl,q1,q2,q3,q4⟩:=ih k (by omega) cs x hx
   exact ⟨t,TAt_iff.2 ⟨s,s',hh,q1,q2⟩,q3,q4⟩)
  injection e0 with e0;injection e1 with e1;injection e2 with e2;injection e3 with e3;injection e4 with e4;injection e5 with e5
  subst e0;subst e1;subst e2;subst e3;subst e4;subst e5
  refine ⟨⟨n0,n1,n2,n3,l4,l5⟩,_,_,rfl,hs4,hs5,(T.wf_iff _).2 ⟨w0,w1,w2,w3,hok4,hok5⟩,?_⟩
  rw [nodesT_eq]
  simp only [Rows.uptoBulk,Rows.uptoBulkAll,List.map_cons,List.map_nil]
  omega
theorem lift_Sig (m:Nat):∀ cs x,DataW.trod enc Tryz.prog w 0 (fun _=>true) true m 41 cs=some x->∃ y:Signal,cs=y.cells/\y.wf:=by
 intro cs x h
 obtain ⟨xs,n,rfl,rfl,hl,hxl,hf⟩:=DataW.trod_struct Tryz.underlying41 h
 rw [cells_Sig] at hl
 obtain ⟨c0,c1,c2,c3,rfl⟩:∃ c0 c1 c2 c3,cs=[c0,c1,c2,c3]:=by
  match cs,hl with
  | [c0,c1,c2,c3],_=>exact ⟨_,_,_,_,rfl⟩
 obtain ⟨x0,x1,x2,x3,rfl⟩:∃ x0 x1 x2 x3,xs=[x0,x1,x2,x3]:=by
  match xs,hxl with
  | [x0,x1,x2,x3],_=>exact ⟨_,_,_,_,rfl⟩
 have f0:=hf 0 _ rfl
 have f1:=hf 1 _ rfl
 have f2:=hf 2 _ rfl
 have f3:=hf 3 _ rfl
 simp only [cells_int,cells_u64,cells_str,List.drop_zero,List.drop_succ_cons,List.take_succ_cons,List.take_zero,List.getElem?_cons_zero,List.getElem?_cons_succ] at f0 f1 f2 f3
 obtain ⟨n0,e0,w0⟩:=lift_str f0
 obtain ⟨n1,e1,w1⟩:=lift_int f1
 obtain ⟨n2,e2,w2⟩:=lift_int f2
 obtain ⟨n3,e3,w3⟩:=lift_u64 f3
 injection e0 with e0;injection e1 with e1;injection e2 with e2;injection e3 with e3
 subst e0;subst e1;subst e2;subst e3
 exact ⟨⟨n0,n1,n2,n3⟩,rfl,w1,w2,w3,w0⟩
theorem lift_Proc (m:Nat):∀ cs x,DataW.trod enc Tryz.prog w 0 (fun _=>true) true m 49 cs=some x->∃ (y:Proc) (s:Value),cs=y.cells s/\Ts w s y.l/\(∀ t∈y.l,t.wf)/\sumBy nodesT y.l<=Rows.uptoBulk x.1:=by
 intro cs x h
 obtain ⟨xs,n,rfl,rfl,hl,hxl,hf⟩:=DataW.trod_struct Tryz.underlying49 h
 rw [cells_Proc] at hl
 obtain ⟨c0,c1,rfl⟩:∃ c0 c1,cs=[c0,c1]:=by
  match cs,hl with
  | [c0,c1],_=>exact ⟨_,_,rfl⟩
 obtain ⟨x0,x1,rfl⟩:∃ x0 x1,xs=[x0,x1]:=by
  match xs,hxl with
  | [x0,x1],_=>exact ⟨_,_,rfl⟩
 have f0:=hf 0 _ rfl
 have f1:=hf 1 _ rfl
 simp only [cells_bool,cells_sT,List.drop_zero,List.drop_succ_cons,List.take_succ_cons,List.take_zero,List.getElem?_cons_zero,List.getElem?_cons_succ] at f0 f1
 obtain ⟨b0,e0,-⟩:=DataW.trod_bool Tryz.underlying4 f0
 obtain ⟨s1,l1,e1,hs1,hok1,hsum1,-⟩:=lift_slice (At:=TAt w) (ok:=T.wf) (ms:=nodesT) Tryz.underlying47 cells_T (by decide) f1 (fun k hk cs x b o hh hx=>by
  obtain ⟨t,s,s',rfl,q1,q2,q3,q4⟩:=lift_T k cs x hx
  exact ⟨t,TAt_iff.2 ⟨s,s',hh,q1,q2⟩,q3,q4⟩)
 injection e0 with e0;injection e1 with e1
 subst e0;subst e1
 refine ⟨⟨b0,l1⟩,_,rfl,hs1,hok1,?_⟩
 simp only [Rows.uptoBulk,Rows.uptoBulkAll,List.map_cons,List.map_nil]
 omega
theorem lift_Chk (m:Nat):∀ cs x,DataW.trod enc Tryz.prog w 0 (fun _=>true) true m 118 cs=some x->∃ (y:Chk) (s:Value),cs=y.cells s/\Es w s y.e.l/\y.e.wf/\nodes y.e<=Rows.uptoBulk x.1:=by
 intro cs x h
 obtain ⟨xs,n,rfl,rfl,hl,hxl,hf⟩:=DataW.trod_struct Tryz.underlying118 h
 rw [cells_Chk] at hl
 obtain ⟨c0,r,rfl⟩:∃ c0 r,cs=c0::r:=by
  match cs,hl with
  | c0::r,_=>exact ⟨_,_,rfl⟩
 obtain ⟨x0,x1,rfl⟩:∃ x0 x1,xs=[x0,x1]:=by
  match xs,hxl with
  | [x0,x1],_=>exact ⟨_,_,rfl⟩
 have f0:=hf 0 _ rfl
 have f1:DataW.trod enc Tryz.prog w 0 (fun _=>true) true n 72 ((List.drop 1 (c0::r)).take (Tryz.prog.cellsOf 72))=some x1:=hf 1 _ rfl
 simp only [cells_str,List.drop_zero,List.take_succ_cons,List.take_zero,List.getElem?_cons_zero] at f0
 rw [cells_E,List.drop_succ_cons,List.drop_zero,List.take_of_length_le (by simp only [List.length_cons] at hl;omega)] at f1
 obtain ⟨n0,e0,w0⟩:=lift_str f0
 obtain ⟨e,s,rfl,q1,q2,q3⟩:=lift_E _ _ _ f1
 injection e0 with e0
 subst e0
 refine ⟨⟨n0,e⟩,s,rfl,q1,q2,?_⟩
 simp only [Rows.uptoBulk,Rows.uptoBulkAll,List.map_cons,List.map_nil]
 omega
theorem lift_Flat (m:Nat):∀ cs x,DataW.trod enc Tryz.prog w 0 (fun _=>true) true m 26 cs=some x->Rows.uptoBulk x.1<=1048576->∃ d:Flat,FlatV w (.agg cs.toArray) d/\d.ok:=by
 intro cs x h hk
 obtain ⟨xs,n,rfl,rfl,hl,hxl,hf⟩:=DataW.trod_struct Tryz.underlying26 h
 rw [cells_Flat] at hl
 obtain ⟨c0,c1,c2,rfl⟩:∃ c0 c1 c2,cs=[c0,c1,c2]:=by
  match cs,hl with
  | [c0,c1,c2],_=>exact ⟨_,_,_,rfl⟩
 obtain ⟨x0,x1,x2,rfl⟩:∃ x0 x1 x2,xs=[x0,x1,x2]:=by
  match xs,hxl with
  | [x0,x1,x2],_=>exact ⟨_,_,_,rfl⟩
 have f0:=hf 0 _ rfl
 have f1:=hf 1 _ rfl
 have f2:=hf 2 _ rfl
 simp only [cells_sSig,cells_sProc,cells_sChk,List.drop_zero,List.drop_succ_cons,List.take_succ_cons,List.take_zero,List.getElem?_cons_zero,List.getElem?_cons_succ] at f0 f1 f2
 obtain ⟨s0,l0,e0,hs0,hok0,-,hln0⟩:=lift_slice (At:=SigAt w) (ok:=Signal.wf) (ms:=fun _=>0) Tryz.underlying22 cells_Sig (by decide) f0 (fun k hk cs x b o hh hx=>by
  obtain ⟨y,rfl,q1⟩:=lift_Sig k cs x hx
  exact ⟨y,hh,q1,Nat.zero_le _⟩)
 obtain ⟨s1,l1,e1,hs1,hok1,hsum1,hln1⟩:=lift_slice (At:=ProcAt w) (ok:=fun y:Proc=>∀ t∈y.l,t.wf) (ms:=fun y=>sumBy nodesT y.l) Tryz.underlying23 cells_Proc (by decide) f1 (fun k hk cs x b o hh hx=>by
  obtain ⟨y,s,rfl,q1,q2,q3⟩:=lift_Proc k cs x hx
  exact ⟨y,⟨s,hh,q1⟩,q2,q3⟩)
 obtain ⟨s2,l2,e2,hs2,hok2,hsum2,hln2⟩:=lift_slice (At:=ChkAt w) (ok:=fun y:Chk=>y.e.wf) (ms:=fun y=>nodes y.e) Tryz.underlying24 cells_Chk (by decide) f2 (fun k hk cs x b o hh hx=>by
  obtain ⟨y,s,rfl,q1,q2,q3⟩:=lift_Chk k cs x hx
  exact ⟨y,⟨s,hh,q1⟩,q2,q3⟩)
 injection e0 with e0;injection e1 with e1;injection e2 with e2
 subst e0;subst e1;subst e2
 simp only [Rows.uptoBulk,Rows.uptoBulkAll,List.map_cons,List.map_nil] at hk
 refine ⟨⟨l0,l1,l2⟩,⟨_,_,_,rfl,hs0,hs1,hs2⟩,⟨⟨hok0,hok1,hok2⟩,?_,?_,?_,?_⟩⟩
 ·rw [mNodes_eq];omega
 all_goals (simp only;omega)
end
end Go.Proofs.YtoaamjgfhppppaaGreat
