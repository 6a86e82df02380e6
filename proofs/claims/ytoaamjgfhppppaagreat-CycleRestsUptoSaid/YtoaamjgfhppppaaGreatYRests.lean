/- The law CycleRests walked: a clean design comes to rest. -/
import Derived.Test.YtoaamjgfhppppaaGreatY34
import Derived.Test.YtoaamjgfhppppaaGreatY31
import Derived.Test.YtoaamjgfhppppaaGreatY32
import Derived.Test.YtoaamjgfhppppaaGreatY29
import Derived.Test.YtoaamjgfhppppaaGreatY27
import Derived.Test.YtoaamjgfhppppaaGreatY00
set_option maxRecDepth 100000
set_option maxHeartbeats 8000000
set_option linter.all false
namespace Go.Proofs.YtoaamjgfhppppaaGreat
open Go.RowKit
theorem CycleRests_calls (d:Flat) (v:Value) (vs:List Nat) (s:Value) (ws:List Nat) (t:Value) (w:World) (hF:FlatV w v d) (hok:d.ok) (hs:Us w s vs) (h64s:us64 vs) (hls:vs.length+1<=1048576) (ht:Us w t ws) (h64t:us64 ws) (hlt:ws.length+1<=1048576) :
  Calls Tryz.prog 4 #[v,s,t] w fun r w'=>r=.returned (.bool true)/\Ext w w':=by
 have HF:=Jh (fun W (h:Ext w W)=>hF.ext h)
 have HFW:=Jh (fun W (h:Ext w W)=>few13_calls d v vs s W (hF.ext h) hok (hs.ext h))
 have HST:=Jh (fun W (h:Ext w W)=>Settle_calls13 d v vs s W (hF.ext h) hok (hs.ext h) h64s (by omega))
 have HLC:=Jh (fun W (h:Ext w W)=>LCheck_calls d v W (hF.ext h) hok)
 have HVS:=Jh (fun W (h:Ext w W)=>Values_calls d v vs s W (hF.ext h) hok (hs.ext h) h64s)
 have HVT:=Jh (fun W (h:Ext w W)=>Values_calls d v ws t W (hF.ext h) hok (ht.ext h) h64t)
 have HUS:=Jh (fun W (h:Ext w W)=>hs.ext h)
 have HTS:=Jh (fun W (h:Ext w W)=>ht.ext h)
 have HOK:=Jh hok
 have H64:=Jh h64s
 obtain ⟨sv,pv,cv,rfl,hS,hP,hC⟩:=hF
 obtain ⟨ss,sb,so,sc,rfl,hp1,hp2,hsa,hsr⟩:=hS.open
 have HSA:=Jh hsa
 have HSR:=Jh hsr
 obtain ⟨av,bv,ov,capv,rfl,-,-,hva,hvr⟩:=hs.open
 have HVA:=Jh hva
 have HVR:=Jh hvr
 obtain ⟨at',bt,ot,capt,rfl,-,-,-,-⟩:=ht.open
 have x1:=ext_alloc w (.cells [.slice ss d.signals.length sc,pv,cv].toArray 26)
 have hD:=Blk.new w [.slice ss d.signals.length sc,pv,cv].toArray 26
 have hsl:=hok.signals
 clear hS hP hC hok hs h64s hsa hsr hva hvr ht h64t
 go_enter Tryz.func4,Tryz.ntmps4
 go_upto_region 1 with fail
 generalize w.alloc _=w0 at *
 have HX0:=Jh x1
 have HD0:=Jh hD
 clear x1 hD
 go_upto_region 4 with (go_at_call 17;refine (live13_calls _).mono ?_;rintro r w1 ⟨rfl,hx1⟩)
 have HD:=Jh (HD0.out.ext hx1)
 have HX:=Jh (HX0.out.trans hx1)
 clear hx1 HD0 HX0
 have d1:=HD.out.has
 obtain ⟨fw,hfw⟩:∃ fw,few13 d vs=fw:=⟨_,rfl⟩
 rw [hfw] at HFW
 clear hfw
 cases fw
 ·go_wp2_with (first | ((with_reducible show Jl 26);refine Jm 26 (d1) agg_Flat rfl ?_) | (go_at_call 18;refine (HFW.out w1 HX.out).mono ?_;rintro r w2 ⟨rfl,hx2⟩))
  go_ret
  exact ⟨rfl,HX.out.trans hx2⟩
 by_cases hl:(100:Int)<(ws.length:Int)
 ·have bl:decide ((100:Int)<(ws.length:Int))=true:=decide_eq_true hl
  clear hl
  go_wp2_with (first | ((with_reducible show Jl 26);refine Jm 26 (d1) agg_Flat rfl ?_) | (go_at_call 18;refine (HFW.out w1 HX.out).mono ?_;rintro r w2 ⟨rfl,hx2⟩))
  go_ret
  exact ⟨rfl,HX.out.trans hx2⟩
 have bl:decide ((100:Int)<(ws.length:Int))=false:=decide_eq_false hl
 clear hl
 go_upto_region 6 with (first | ((with_reducible show Jl 26);refine Jm 26 (d1) agg_Flat rfl ?_) | (go_at_call 18;refine (HFW.out w1 HX.out).mono ?_;rintro r w2 ⟨rfl,hx2⟩))
 have HD2:=Jh (HD.out.ext hx2)
 have HX2:=Jh (HX.out.trans hx2)
 clear hx2 d1 HD HX HFW bl
 have d2:=HD2.out.has
 have HC:=Jh (HST.out w2 HX2.out)
 rcases settle_why d vs with ⟨hlk,hvo,hr⟩ | ⟨e,he,hr,hw⟩
 case inr =>
  rw [hr] at HC
  clear hr
  have be:(e != 0)=true:=by rw [bne_iff_ne];exact he
  clear he
  go_upto_region 8 with (first | ((with_reducible show Jl 26);refine Jm 26 (d2) agg_Flat rfl ?_) | (go_at_call 19;refine HC.out.mono ?_;rintro r w3 ⟨u,rfl,hr3,hx3⟩;obtain ⟨ua,-,-,uc,rfl,-,-,-,-⟩:=hr3.open))
  have HX3:=Jh (HX2.out.trans hx3)
  have d3:=HD2.out.has.ext hx3
  clear hx3 d2 be
  rcases hw with hlk | ⟨hlk,rfl,hvo⟩
  ·rw [hlk] at HLC
   clear hlk
   go_wp2_with (first | ((with_reducible show Jl 26);refine Jm 26 (d3) agg_Flat rfl ?_) | (go_at_call 20;refine (HLC.out w3 HX3.out).mono ?_;rintro r w4 ⟨rfl,hx4⟩))
   go_ret
   exact ⟨rfl,HX3.out.trans hx4⟩
  ·rw [hlk] at HLC
   rw [hvo] at HVS
   clear hlk hvo
   go_wp2_with (first | ((with_reducible show Jl 26);refine Jm 26 (d3) agg_Flat rfl ?_) | (go_at_call 20;refine (HLC.out w3 HX3.out).mono ?_;rintro r w4 ⟨rfl,hx4⟩;have d4:=Has.ext d3 hx4) | ((with_reducible show Jl 26);refine Jm 26 (d4) agg_Flat rfl ?_) | (go_at_call 21;refine (HVS.out w4 (HX3.out.trans hx4)).mono ?_;rintro r w5 ⟨rfl,hx5⟩))
   go_ret
   exact ⟨rfl,HX3.out.trans (hx4.trans hx5)⟩
 have hv2:=valsOk_val2 hvo
 have hck:=(look_in HOK.out hlk).1
 have hset:=settle_val HOK.out hlk hv2
 have hw64:∀ x∈d.signals,x.w<=64:=fun x hx=>(checkM_w hck x hx).2
 have h64x:=val2_us64 hw64 hset
 have hsln:(settleM d vs).length<=1048576:=by rw [hset.1];exact hsl
 have HKC:=Jh (fun W (h:Ext w W) u (hu:Us W u (settleM d vs))=>kept_calls d _ vs (settleM d vs) _ u W (HF.out W h) HOK.out (HUS.out W h) hu hv2.1 (by rw [hset.1,hv2.1]) (settle_kept3 HOK.out hlk hv2))
 have HRC:=Jh (fun W (h:Ext w W) u (hu:Us W u (settleM d vs))=>rests_calls d _ (settleM d vs) u W (HF.out W h) HOK.out hu h64x hsln)
 rw [(restsB_iff hck hset).2 (settle_rests HOK.out hlk hv2)] at HRC
 have HSX:=Jh (fun (x:List Nat) (hx:Val2 d.signals x) (hag:∀ k:Nat,k<d.signals.length->kindOf d.signals (k:Int)=1\/kindOf d.signals (k:Int)=4->vs.getD k 0=x.getD k 0)=>(show settleR d x=(settleM d vs,0)/\(restsB d x=true->x=settleM d vs) from
  ⟨by unfold settleR;rw [if_pos (playE_zero.2 ⟨hlk,valsOk_of hck hx⟩),settle_any HOK.out hlk hv2 hx hag],fun h=>by
   rw [settle_any HOK.out hlk hv2 hx hag]
   exact (settle_still HOK.out hlk ((restsB_iff hck hx).1 h)).symm⟩))
 have HW64:=Jh hw64
 have HV2:=Jh hv2
 rw [hr] at HC
 have HSLN:=Jh hsln
 generalize settleM d vs=S at *
 clear hr hlk hvo hv2 hck hset hw64 h64x hsln HLC HVS
 go_upto_region 9 with (first | ((with_reducible show Jl 26);refine Jm 26 (d2) agg_Flat rfl ?_) | (go_at_call 19;refine HC.out.mono ?_;rintro r w3 ⟨u3,rfl,hr3,hx3⟩))
 have HU3:=Jh hr3
 have HD3:=Jh (HD2.out.ext hx3)
 have HX3:=Jh (HX2.out.trans hx3)
 clear hr3 hx3 d2 HD2 HX2 HC
 have d3:=HD3.out.has
 have HC1:=Jh (HKC.out w3 HX3.out _ HU3.out)
 go_upto_region 11 with (first | ((with_reducible show Jl 26);refine Jm 26 (d3) agg_Flat rfl ?_) | (go_at_call 22;refine HC1.out.mono ?_;rintro r w4 ⟨rfl,hx4⟩;have HX4:=Jh (HX3.out.trans hx4);have HU4:=Jh (HU3.out.ext hx4);have HC2:=Jh (HRC.out w4 HX4.out _ HU4.out);have d4:=Has.ext d3 hx4;clear d3) | ((with_reducible show Jl 26);refine Jm 26 (d4) agg_Flat rfl ?_) | (go_at_call 23;refine HC2.out.mono ?_;rintro r w5 ⟨rfl,hx5⟩))
 have HX5:=Jh (HX4.out.trans hx5)
 have HU5:=Jh (HU4.out.ext hx5)
 have HD5:=Jh (HD3.out.ext (hx4.trans hx5))
 clear hx4 hx5 d4 HC1 HC2 HX4 HU4 HX3 HU3 HD3 HKC
 have d5:=HD5.out.has
 by_cases hvw:valsOk d ws=true
 case neg =>
  have HVW:=Jh (HVT.out w5 HX5.out)
  rw [if_neg hvw] at HVW
  clear hvw
  go_wp2_with (first | ((with_reducible show Jl 26);refine Jm 26 (d5) agg_Flat rfl ?_) | (go_at_call 21;refine HVW.out.mono ?_;rintro r w6 ⟨rfl,hx6⟩))
  go_ret
  exact ⟨rfl,HX5.out.trans hx6⟩
 have HVW:=Jh (HVT.out w5 HX5.out)
 rw [if_pos hvw] at HVW
 have HWV:=Jh (valsOk_val2 hvw)
 have b6:((ws.length:Int) != (d.signals.length:Int))=false:=by rw [bne_eq_false_iff_eq,HWV.out.1]
 clear hvw
 go_upto_region 13 with (first | ((with_reducible show Jl 26);refine Jm 26 (d5) agg_Flat rfl ?_) | (go_at_call 21;refine HVW.out.mono ?_;rintro r w6 ⟨rfl,hx6⟩;have e6:=(HD5.out.ext hx6).has 0 _ rfl;rw [Nat.zero_add] at e6))
 have HX6:=Jh (HX5.out.trans hx6)
 have HU6:=Jh (HU5.out.ext hx6)
 have HD6:=Jh (HD5.out.ext hx6)
 clear hx6 e6 b6 d5 HX5 HU5 HD5 HVW HVT
 have HXA:=Jh (ext_alloc w6 (.cells #[] 39))
 have HROW:=Jh (WordRow.bs0 w6 (N:=w6.heap.size) (Nat.le_refl _))
 have HNW:=Jh (HTS.out _ (HX6.out.trans HXA.out))
 go_wp2_with (first | ((with_reducible show Jw (Op.buildSlice _ _ _));refine wpList_bs0 rfl _ rfl appWord ?_) | ((with_reducible show Jw (Op.call { callee:=.builtin .append,args:=_,argTypes:=_ }));refine wpList_appW rfl _ _ rfl rfl HROW.out rfl HNW.out (by simp;omega) (by simp) ?_;intro v7 w7 hrow7 hg7))
 rw [List.nil_append] at hrow7
 obtain ⟨a7,c7,rfl,-⟩:=hrow7.open
 have HR7:=Jh hrow7
 have HX67:=Jh (Below.grown HXA.out hg7 HXA.out.size (fun k hk=>by cases hk;exact Nat.le_refl _):Ext w6 w7)
 obtain ⟨N2,hN2⟩:∃ N,w6.heap.size=N:=⟨_,rfl⟩
 rw [hN2] at HR7
 have HN2:=Jh hN2
 clear hrow7 hg7 HXA HROW HNW hN2
 go_loopw [11] (fun i wr=>∃ (k:Nat) (cur:List Nat),k<=d.signals.length/\i=.int .i64 k/\WordRow N2 (.slice a7 ws.length c7) cur wr/\Val2 d.signals cur/\(∀ j:Nat,j<k->kindOf d.signals (j:Int)=1\/kindOf d.signals (j:Int)=4->vs.getD j 0=cur.getD j 0)/\Ext w6 wr) (fun i _=>d.signals.length-(intOf i).toNat)
 case atStart=>exact ⟨0,ws,Nat.zero_le _,rfl,HR7.out,HWV.out,fun j hj=>absurd hj (by omega),HX67.out⟩
 case round =>
  obtain ⟨k,cur,hk,rfl,hrow,hcv,hag,hxr⟩:=hrel
  have HXR:=Jh hxr
  have HROW:=Jh hrow
  have HCV:=Jh hcv
  have HAG:=Jh hag
  have e0:=(HD6.out.ext hxr).has 0 _ rfl
  rw [Nat.zero_add] at e0
  clear hrow hcv hag
  by_cases hlt:k<d.signals.length
  ·obtain rfl:=HSA.out (by omega)
   have y:=(Sigs.get (HSR.out.mono fun x _ b o h=>Has.ext h (HX6.out.trans hxr)) hlt) 2 _ rfl
   have HKD:=Jh (kindOf_nat hlt)
   obtain ⟨kd,hke⟩:∃ kd,d.signals[k].kind=kd:=⟨_,rfl⟩
   rw [hke] at HKD
   have y2:wr.cell? ⟨sb,so+k*4+2,none⟩=some (.int .i64 kd):=by rw [<-hke];exact y
   clear hke y hxr
   have hk5:k<ws.length:=by rw [HWV.out.1];exact hlt
   by_cases h14:kd=1\/kd=4
   ·have hk3:k<cur.length:=by rw [HCV.out.1];exact hlt
    have hk4:k<vs.length:=by rw [HV2.out.1];exact hlt
    obtain rfl:=HVA.out (by omega)
    obtain ⟨g,cap,hsl2,hgN,-⟩:=HROW.out.open1 (by omega)
    injection hsl2 with hsl2 zq1 zq2
    clear zq1 zq2
    subst hsl2
    obtain ⟨yc,yf⟩:=HROW.out.cellf hk3
    have yv:=Us.get (k:=k) (HVR.out.mono fun x _ b o h=>Has.ext h (HX6.out.trans HXR.out)) hk4
    have HGV:=Jh (show vs.getD k 0=vs[k] by rw [List.getD_eq_getElem?_getD,List.getElem?_eq_getElem hk4];rfl)
    have hset:=HROW.out.set k hk3 vs[k]
    have hgs:=gb_set wr g k (W64 vs[k])
    have HX9:=Jh (show Ext w6 (wr.setCell ⟨g,k,none⟩ (W64 vs[k])) from HXR.out.grown hgs (by rw [HN2.out];exact hgN))
    have HSET:=Jh hset
    have HCV2:=Jh (HCV.out.set (x:=vs[k]) hlt (by have:=HV2.out.get hlt;rwa [HGV.out] at this))
    generalize vs[k]=x at *
    generalize cur[k]=x0 at *
    clear hset hgs hgN
    rcases h14 with rfl | rfl
    all_goals (
     go_wp2_with fail
     go_roundw
     case rel=>exact ⟨k+1,cur.set k x,hlt,by go_num,HSET.out,HCV2.out,fun j hj hq=>by
      by_cases e:j=k
      ·subst e;rw [HGV.out,List.getD_eq_getElem?_getD,List.getElem?_set_self hk3];rfl
      ·rw [HAG.out j (by omega) hq,List.getD_eq_getElem?_getD,List.getD_eq_getElem?_getD,List.getElem?_set_ne (fun h=>e h.symm)],HX9.out⟩
     case measure=>simp [intOf];omega)
   ·have HNK:=Jh h14
    have n1:(kd==1)=false:=by rw [beq_eq_false_iff_ne];intro e;exact h14 (.inl e)
    have n4:(kd==4)=false:=by rw [beq_eq_false_iff_ne];intro e;exact h14 (.inr e)
    clear h14
    go_wp2_with fail
    go_roundw
    case rel=>exact ⟨k+1,cur,hlt,by go_num,HROW.out,HCV.out,fun j hj hq=>by
      by_cases e:j=k
      ·subst e;rw [HKD.out] at hq;exact absurd hq HNK.out
      ·exact HAG.out j (by omega) hq,HXR.out⟩
    case measure=>simp [intOf];omega
  ·obtain rfl:k=d.signals.length:=by omega
   have b7:¬ d.signals.length<ws.length:=by rw [HWV.out.1];exact Nat.lt_irrefl _
   have HX7:=Jh (HX6.out.trans HXR.out)
   have HU7:=Jh (HU6.out.ext HXR.out)
   have HD7:=Jh (HD6.out.ext HXR.out)
   have d7:=HD7.out.has
   have HCU:=Jh HROW.out.cells
   have hc64:=val2_us64 HW64.out HCV.out
   have hcl:cur.length<=1048576:=by rw [HCV.out.1];exact hsl
   obtain ⟨q1,q2⟩:=HSX.out cur HCV.out fun j hj hq=>HAG.out j hj hq
   have HS2:=Jh (Settle_calls13 d _ cur _ wr (HF.out wr HX7.out) HOK.out HCU.out hc64 hcl)
   rw [q1] at HS2
   have HR2:=Jh (fun W (h:Ext wr W)=>rests_calls d _ cur _ W (HF.out W (HX7.out.trans h)) HOK.out (HCU.out.ext h) hc64 hcl)
   have HQ2:=Jh q2
   have HCL:=Jh hcl
   clear e0 hxr HXR HD6 HX6 HU6 q1 q2 hc64 hcl HROW
   go_upto_region 20 with (first | ((with_reducible show Jl 26);refine Jm 26 (d7) agg_Flat rfl ?_) | (go_at_call 19;refine HS2.out.mono ?_;rintro r w8 ⟨u8,rfl,hr8,hx8⟩))
   have HX8:=Jh hx8
   have d8:=Has.ext d7 hx8
   have HW8:=Jh (Words_calls11 _ _ _ _ w8 (HU7.out.ext hx8) hr8 (by have:=HSLN.out;omega))
   rw [decide_eq_true rfl] at HW8
   clear hr8 hx8 d7 HS2
   go_upto_region 21 with (first | (go_at_call 24;refine HW8.out.mono ?_;rintro r w9 ⟨rfl,hx9⟩))
   have HX9:=Jh (HX8.out.trans hx9)
   have d9:=Has.ext d8 hx9
   have HW9:=Jh (Words_calls11 _ _ _ _ w9 (HCU.out.ext HX9.out) (HU7.out.ext HX9.out) (by have:=HCL.out;omega))
   clear hx9 d8
   by_cases hcs:cur=S
   ·rw [decide_eq_true hcs] at HW9
    clear hcs
    go_wp2_with (first | (go_at_call 24;refine HW9.out.mono ?_;rintro r w10 ⟨rfl,hx10⟩))
    go_ret
    exact ⟨rfl,HX7.out.trans (HX9.out.trans hx10)⟩
   ·have hrb:restsB d cur=false:=by
     cases h:restsB d cur
     ·rfl
     ·exact absurd (HQ2.out h) hcs
    rw [decide_eq_false hcs] at HW9
    rw [hrb] at HR2
    clear hcs hrb
    go_wp2_with (first | (go_at_call 24;refine HW9.out.mono ?_;rintro r w10 ⟨rfl,hx10⟩;have d10:=Has.ext d9 hx10) | ((with_reducible show Jl 26);refine Jm 26 (d10) agg_Flat rfl ?_) | (go_at_call 23;refine (HR2.out w10 (HX9.out.trans hx10)).mono ?_;rintro r w11 ⟨rfl,hx11⟩))
    go_ret
    exact ⟨rfl,HX7.out.trans (HX9.out.trans (hx10.trans hx11))⟩
end Go.Proofs.YtoaamjgfhppppaaGreat
