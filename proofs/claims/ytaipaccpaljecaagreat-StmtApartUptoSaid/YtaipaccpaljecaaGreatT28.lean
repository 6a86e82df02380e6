/- Laws and walks that a claim of this seat leans on: StmtApart. -/
import Derived.Test.YtaipaccpaljecaaGreatT25
import Derived.Test.YtaipaccpaljecaaGreatTFew11
import Derived.Test.YtaipaccpaljecaaGreatT27
import Derived.Test.YtaipaccpaljecaaGreatT00
set_option linter.all false
namespace Go.Proofs.YtaipaccpaljecaaGreat
open Go.RowKit
set_option maxRecDepth 100000 in
set_option maxHeartbeats 4000000 in
theorem StmtApart_calls (d:Flat) (v:Value) (vs:List Nat) (s:Value) (p:Int) (q:Int) (w:World) (hF:FlatV w v d) (hok:d.ok) (hs:Us w s vs) (h64s:us64 vs) (hls:vs.length + 1 ≤ 1048576) (hp:i64r p) (hq:i64r q) :
  Calls Tryz.prog 12 #[v,s,.int .i64 p,.int .i64 q] w fun r w'=>r=.returned (.bool true)∧Ext w w':=by
 have HF:=Lib.hid (fun W (h:Ext w W)=>hF.ext h)
 have HFW:=Lib.hid (fun W (h:Ext w W)=>Few_calls d v W (hF.ext h) hok.nodes hok.signals hok.procs)
 have HOK:=Lib.hid hok
 have hlpr:=hok.procs
 have HUS:=Lib.hid (fun W (h:Ext w W)=>hs.ext h)
 have H64:=Lib.hid h64s
 have HIP:=Lib.hid hp
 have HIQ:=Lib.hid hq
 obtain ⟨sv,pv,cv,rfl,hS,hP,hC⟩:=hF
 obtain ⟨ap,bp,op,cp,rfl,hp1,hp2,-,-⟩:=hP.open
 obtain ⟨av,bv,ov,capv,rfl,-,-,-,-⟩:=hs.open
 have x1:=ext_alloc w (.cells [sv,.slice ap d.procs.length cp,cv].toArray 26)
 have hD:=Blk.new w [sv,.slice ap d.procs.length cp,cv].toArray 26
 clear hS hP hC hok hs h64s
 unfold i64r at hp
 unfold i64r at hq
 go_enter Tryz.func12,Tryz.ntmps12
 go_upto_region 1 with fail
 generalize w.alloc _=w0 at *
 have HX0:=Lib.hid x1
 have HD0:=Lib.hid hD
 clear x1 hD
 go_upto_region 4 with (go_at_call 21;refine (live11_calls _).mono ?_;rintro r w1 ⟨rfl,hx1⟩)
 have HD:=Lib.hid (HD0.out.ext hx1)
 have HX:=Lib.hid (HX0.out.trans hx1)
 clear hx1 HD0 HX0
 have d1:=HD.out.has
 obtain ⟨fw,hfw⟩ : ∃ fw,few11 d=fw:=⟨_,rfl⟩
 rw [hfw] at HFW
 clear hfw
 cases fw
 ·go_wp2_with (first | ((with_reducible show Jw (Op.load 26 _));refine wpList_load_has rfl 26 _ rfl rfl (d1) agg_Flat rfl ?_) | (go_at_call 22;refine (HFW.out w1 HX.out).mono ?_;rintro r w2 ⟨rfl,hx2⟩))
  go_ret
  exact ⟨rfl,HX.out.trans hx2⟩
 by_cases hl:(100:Int) < (vs.length:Int)
 ·have bl:decide ((100:Int) < (vs.length:Int))=true:=decide_eq_true hl
  clear hl
  go_wp2_with (first | ((with_reducible show Jw (Op.load 26 _));refine wpList_load_has rfl 26 _ rfl rfl (d1) agg_Flat rfl ?_) | (go_at_call 22;refine (HFW.out w1 HX.out).mono ?_;rintro r w2 ⟨rfl,hx2⟩))
  go_ret
  exact ⟨rfl,HX.out.trans hx2⟩
 have bl:decide ((100:Int) < (vs.length:Int))=false:=decide_eq_false hl
 go_upto_region 6 with (first | ((with_reducible show Jw (Op.load 26 _));refine wpList_load_has rfl 26 _ rfl rfl (d1) agg_Flat rfl ?_) | (go_at_call 22;refine (HFW.out w1 HX.out).mono ?_;rintro r w2 ⟨rfl,hx2⟩))
 have HD2:=Lib.hid (HD.out.ext hx2)
 have HX2:=Lib.hid (HX.out.trans hx2)
 clear hx2 d1 HD HX HFW
 have d2:=HD2.out.has
 have HRP:=Lib.hid (fun W (h:Ext w W)=>Run_calls d _ vs _ p W (HF.out W h) HOK.out (HUS.out W h) H64.out HIP.out)
 have HRQ:=Lib.hid (fun W (h:Ext w W)=>Run_calls d _ vs _ q W (HF.out W h) HOK.out (HUS.out W h) H64.out HIQ.out)
 have hno:∀ i,(runM d vs i).2=0 ∨ (runM d vs i).2=1:=fun i=>by
  unfold runM;split
  ·exact .inl rfl
  ·exact .inr rfl
 by_cases hmp:(runM d vs p).2=0∧(runM d vs q).2=0
 case neg =>
  rcases hno p with ep | ep
  ·rcases hno q with eq | eq
   ·exact absurd ⟨ep,eq⟩ hmp
   ·rw [ep] at HRP
    rw [eq] at HRQ
    clear ep eq hmp hno
    generalize (runM d vs p).1=xs at *
    generalize (runM d vs q).1=ys at *
    go_upto_region 7 with (first | ((with_reducible show Jw (Op.load 26 _));refine wpList_load_has rfl 26 _ rfl rfl (d2) agg_Flat rfl ?_) | (go_at_call 23;refine (HRP.out w2 HX2.out).mono ?_;rintro r w3 ⟨u,rfl,hr3,hx3⟩))
    have HX3:=Lib.hid (HX2.out.trans hx3)
    have d3:=(HD2.out.ext hx3).has
    clear hr3 hx3 d2
    go_upto_region 8 with (first | ((with_reducible show Jw (Op.load 26 _));refine wpList_load_has rfl 26 _ rfl rfl (d3) agg_Flat rfl ?_) | (go_at_call 23;refine (HRQ.out w3 HX3.out).mono ?_;rintro r w4 ⟨u2,rfl,hr4,hx4⟩))
    have HX4:=Lib.hid (HX3.out.trans hx4)
    clear hr4 hx4 d3
    go_wp2_with fail
    go_ret
    exact ⟨rfl,HX4.out⟩
  ·rw [ep] at HRP
   clear ep hmp hno
   generalize (runM d vs p).1=xs at *
   generalize (runM d vs q).1=ys at *
   generalize (runM d vs q).2=eq at *
   go_upto_region 7 with (first | ((with_reducible show Jw (Op.load 26 _));refine wpList_load_has rfl 26 _ rfl rfl (d2) agg_Flat rfl ?_) | (go_at_call 23;refine (HRP.out w2 HX2.out).mono ?_;rintro r w3 ⟨u,rfl,hr3,hx3⟩))
   have HX3:=Lib.hid (HX2.out.trans hx3)
   have d3:=(HD2.out.ext hx3).has
   clear hr3 hx3 d2
   go_upto_region 8 with (first | ((with_reducible show Jw (Op.load 26 _));refine wpList_load_has rfl 26 _ rfl rfl (d3) agg_Flat rfl ?_) | (go_at_call 23;refine (HRQ.out w3 HX3.out).mono ?_;rintro r w4 ⟨u2,rfl,hr4,hx4⟩))
   have HX4:=Lib.hid (HX3.out.trans hx4)
   clear hr4 hx4 d3
   go_wp2_with fail
   go_ret
   exact ⟨rfl,HX4.out⟩
 obtain ⟨zp,zq⟩:=hmp
 obtain ⟨m1,m2,m3,-⟩:=runM_ok HOK.out zp
 obtain ⟨-,n2,n3,-⟩:=runM_ok HOK.out zq
 obtain ⟨v1,hc,-⟩:=valsOk_ck m1
 have hls:∀ x ∈ d.signals,x.w ≤ 64:=fun x hx=>(checkM_w hc x hx).2
 have hvv:=valsOk_val2 m1
 have hrp:=runM_of hc hvv m2 m3
 have hrq:=runM_of hc hvv n2 n3
 have hvp:=(run_kept HOK.out hc m2 m3 hvv).1
 have hvq:=(run_kept HOK.out hc n2 n3 hvv).1
 have hrpq:=runM_of hc hvp n2 n3
 have hrqp:=runM_of hc hvq m2 m3
 have hap:=run_apart HOK.out hc m2 m3 n2 n3 hvv
 have hmr:=mem_readsM d
 have hmw:=mem_writesM d
 have htp:toldOk d p=true:=by unfold toldOk;rw [hc];simp [m2,m3]
 have htq:toldOk d q=true:=by unfold toldOk;rw [hc];simp [n2,n3]
 have h64p:=val2_us64 hls hvp
 have h64q:=val2_us64 hls hvq
 have HAP:=Lib.hid (show (∀ x ∈ writesM d p,¬ x ∈ writesM d q∧¬ x ∈ readsM d q)→(∀ x ∈ writesM d q,¬ x ∈ readsM d p)→runL d q (runL d p vs)=runL d p (runL d q vs) from fun ha hb=>by
  exact hap (fun x h hw=>(ha x ((hmw p x).2 h)).1 ((hmw q x).2 hw)) (fun x h hr=>(ha x ((hmw p x).2 h)).2 ((hmr q x).2 hr)) (fun x h hr=>hb x ((hmw q x).2 h) ((hmr p x).2 hr)))
 rw [hrp] at HRP
 rw [hrq] at HRQ
 have HXL:=Lib.hid (show (runL d q (runL d p vs)).length ≤ 1099511627776 by
  have h1:=(run_kept HOK.out hc n2 n3 hvp).1.1
  have h2:=HOK.out.signals
  omega)
 generalize runL d p vs=xs at *
 generalize runL d q vs=ys at *
 have HR2:=Lib.hid (fun W (h:Ext w W) u (hu:Us W u xs)=>Run_calls d _ xs u q W (HF.out W h) HOK.out hu h64p HIQ.out)
 have HR3:=Lib.hid (fun W (h:Ext w W) u (hu:Us W u ys)=>Run_calls d _ ys u p W (HF.out W h) HOK.out hu h64q HIP.out)
 rw [hrpq] at HR2
 rw [hrqp] at HR3
 have HRDP:=Lib.hid (fun W (h:Ext w W)=>Reads_calls d _ W (HF.out W h) HOK.out p HIP.out)
 have HWRP:=Lib.hid (fun W (h:Ext w W)=>Writes_calls d _ W (HF.out W h) HOK.out p HIP.out)
 have HRDQ:=Lib.hid (fun W (h:Ext w W)=>Reads_calls d _ W (HF.out W h) HOK.out q HIQ.out)
 have HWRQ:=Lib.hid (fun W (h:Ext w W)=>Writes_calls d _ W (HF.out W h) HOK.out q HIQ.out)
 simp only [if_pos htp] at HRDP HWRP
 simp only [if_pos htq] at HRDQ HWRQ
 generalize runL d q xs=xx at *
 generalize runL d p ys=yy at *
 generalize readsM d p=rp at *
 generalize writesM d p=wp at *
 generalize readsM d q=rq at *
 generalize writesM d q=wq at *
 clear m1 v1 hc hls hvv hrp hrq hvp hvq hrpq hrqp hap hmr hmw htp htq h64p h64q m2 m3 n2 n3 zp zq hno
 go_upto_region 7 with (first | ((with_reducible show Jw (Op.load 26 _));refine wpList_load_has rfl 26 _ rfl rfl (d2) agg_Flat rfl ?_) | (go_at_call 23;refine (HRP.out w2 HX2.out).mono ?_;rintro r w3 ⟨u,rfl,hr3,hx3⟩))
 obtain ⟨ua,uc,rfl,-⟩:=hr3.open
 have HU3:=Lib.hid hr3.cells
 have HX3:=Lib.hid (HX2.out.trans hx3)
 have HD3:=Lib.hid (HD2.out.ext hx3)
 have d3:=HD3.out.has
 clear hr3 hx3 d2 HRP HD2
 go_upto_region 8 with (first | ((with_reducible show Jw (Op.load 26 _));refine wpList_load_has rfl 26 _ rfl rfl (d3) agg_Flat rfl ?_) | (go_at_call 23;refine (HRQ.out w3 HX3.out).mono ?_;rintro r w4 ⟨u2,rfl,hr4,hx4⟩))
 obtain ⟨va,vc,rfl,-⟩:=hr4.open
 have HV4:=Lib.hid hr4.cells
 have HU4:=Lib.hid (HU3.out.ext hx4)
 have HX4:=Lib.hid (HX3.out.trans hx4)
 have HD4:=Lib.hid (HD3.out.ext hx4)
 have d4:=HD4.out.has
 clear hr4 hx4 d3 HRQ HD3 HU3
 go_upto_region 11 with (first | ((with_reducible show Jw (Op.load 26 _));refine wpList_load_has rfl 26 _ rfl rfl (d4) agg_Flat rfl ?_) | (go_at_call 26;refine (HRDP.out w4 HX4.out).mono ?_;rintro r w5 ⟨ur,rfl,hr5,hx5⟩))
 have HRP5:=Lib.hid hr5.cells
 have HU:=Lib.hid (HU4.out.ext hx5)
 have HV:=Lib.hid (HV4.out.ext hx5)
 have HX5:=Lib.hid (HX4.out.trans hx5)
 have HDD:=Lib.hid (HD4.out.ext hx5)
 have d5:=HDD.out.has
 clear hr5 hx5 d4 HD4 HU4 HV4
 go_upto_region 12 with (first | ((with_reducible show Jw (Op.load 26 _));refine wpList_load_has rfl 26 _ rfl rfl (d5) agg_Flat rfl ?_) | (go_at_call 26;refine (HRDQ.out w5 HX5.out).mono ?_;rintro r w6 ⟨uq,rfl,hr6,hx6⟩))
 have HRQ6:=Lib.hid hr6.cells
 have HX6:=Lib.hid (HX5.out.trans hx6)
 replace HU:=Lib.hid (HU.out.ext hx6)
 replace HV:=Lib.hid (HV.out.ext hx6)
 replace HDD:=Lib.hid (HDD.out.ext hx6)
 replace HRP5:=Lib.hid (Sl.mono HRP5.out fun _ _ _ _ q=>Has.ext q hx6)
 have d6:=HDD.out.has
 clear hr6 hx6 d5
 go_upto_region 13 with (first | ((with_reducible show Jw (Op.load 26 _));refine wpList_load_has rfl 26 _ rfl rfl (d6) agg_Flat rfl ?_) | (go_at_call 28;refine (HWRP.out w6 HX6.out).mono ?_;rintro r w7 ⟨uwp,rfl,hr7,hx7⟩))
 have HWP:=Lib.hid hr7.cells
 have HX7:=Lib.hid (HX6.out.trans hx7)
 replace HU:=Lib.hid (HU.out.ext hx7)
 replace HV:=Lib.hid (HV.out.ext hx7)
 replace HDD:=Lib.hid (HDD.out.ext hx7)
 replace HRP5:=Lib.hid (Sl.mono HRP5.out fun _ _ _ _ q=>Has.ext q hx7)
 replace HRQ6:=Lib.hid (Sl.mono HRQ6.out fun _ _ _ _ q=>Has.ext q hx7)
 have d7:=HDD.out.has
 clear hr7 hx7 d6
 go_upto_region 14 with (first | ((with_reducible show Jw (Op.load 26 _));refine wpList_load_has rfl 26 _ rfl rfl (d7) agg_Flat rfl ?_) | (go_at_call 28;refine (HWRQ.out w7 HX7.out).mono ?_;rintro r w8 ⟨uwq,rfl,hr8,hx8⟩))
 have HWQ:=Lib.hid hr8.cells
 have HX8:=Lib.hid (HX7.out.trans hx8)
 replace HU:=Lib.hid (HU.out.ext hx8)
 replace HV:=Lib.hid (HV.out.ext hx8)
 replace HDD:=Lib.hid (HDD.out.ext hx8)
 replace HRP5:=Lib.hid (Sl.mono HRP5.out fun _ _ _ _ q=>Has.ext q hx8)
 replace HRQ6:=Lib.hid (Sl.mono HRQ6.out fun _ _ _ _ q=>Has.ext q hx8)
 replace HWP:=Lib.hid (Sl.mono HWP.out fun _ _ _ _ q=>Has.ext q hx8)
 clear hr8 hx8 d7 HX7 HX6 HX5 HX4 HX3 HRDP HRDQ HWRP HWRQ
 have HWPO:=Lib.hid HWP.out.open
 have HWQO:=Lib.hid HWQ.out.open
 obtain ⟨pa,pb,po,pc,rfl,hpc1,hpc2,hpa,hpr⟩:=HWPO.out
 obtain ⟨qa,qb,qo,qc,rfl,hqc1,hqc2,hqa,hqr⟩:=HWQO.out
 have HPA:=Lib.hid hpa
 have HPR:=Lib.hid hpr
 have HQA:=Lib.hid hqa
 have HQR:=Lib.hid hqr
 clear hpa hpr hqa hqr HWPO HWQO
 go_wp2_with fail
 go_loopw [22] (fun i wr=>∃ k:Nat,k ≤ wp.length∧i=.int .i64 k∧(∀ j (hj:j < wp.length),j < k→¬ wp[j] ∈ wq∧¬ wp[j] ∈ rq)∧Ext w8 wr) (fun i _=>wp.length - (intOf i).toNat)
 case atStart=>exact ⟨0,Nat.zero_le _,rfl,fun j _ hj=>absurd hj (by omega),Below.refl _ _⟩
 case round =>
  obtain ⟨k,hk,rfl,hno,hx⟩:=hrel
  have HNO:=Lib.hid hno
  have HXR:=Lib.hid hx
  clear hno hx
  by_cases hlt:k < wp.length
  ·obtain rfl:=HPA.out (by omega)
   have y0:=Ints.cell (k:=k) (HPR.out.mono fun x _ b o h=>Has.ext h HXR.out) hlt
   have HAM:=Lib.hid (among_calls wq wp[k] _ wr (Sl.mono HWQ.out fun _ _ _ _ q=>Has.ext q HXR.out))
   have HAN:=Lib.hid (fun W (h:Ext w8 W)=>among_calls rq wp[k] uq W (Sl.mono HRQ6.out fun _ _ _ _ q=>Has.ext q h))
   have hy1:=fun W (h:Ext w8 W)=>Ints.cell (k:=k) (HPR.out.mono fun x _ b o hh=>Has.ext hh h) hlt
   obtain ⟨t,ht⟩ : ∃ t,decide (wp[k] ∈ wq)=t:=⟨_,rfl⟩
   obtain ⟨t2,ht2⟩ : ∃ t,decide (wp[k] ∈ rq)=t:=⟨_,rfl⟩
   have HT:=Lib.hid ht
   have HT2:=Lib.hid ht2
   rw [ht] at HAM
   rw [ht2] at HAN
   clear ht ht2
   obtain ⟨x,hx⟩ : ∃ x,wp[k]=x:=⟨_,rfl⟩
   rw [hx] at y0 HAM HAN
   simp only [hx] at hy1
   have HY1:=Lib.hid hy1
   clear hx hy1
   cases t
   ·cases t2
    ·go_wp2_with (first | (go_at_call 37;refine (HAN.out w9 (HXR.out.trans hx9)).mono ?_;rintro r w10 ⟨rfl,hx10⟩) | (go_at_call 37;refine HAM.out.mono ?_;rintro r w9 ⟨rfl,hx9⟩;have y1:=HY1.out w9 (HXR.out.trans hx9)))
     go_roundw
     case rel=>exact ⟨k + 1,hlt,by go_num,fun j hj hj2=>by
      by_cases e:j=k
      ·subst e;exact ⟨of_decide_eq_false HT.out,of_decide_eq_false HT2.out⟩
      ·exact HNO.out j hj (by omega),(HXR.out.trans hx9).trans hx10⟩
     case measure=>simp [intOf];omega
    ·go_wp2_with (first | (go_at_call 37;refine (HAN.out w9 (HXR.out.trans hx9)).mono ?_;rintro r w10 ⟨rfl,hx10⟩) | (go_at_call 37;refine HAM.out.mono ?_;rintro r w9 ⟨rfl,hx9⟩;have y1:=HY1.out w9 (HXR.out.trans hx9)))
     go_ret
     exact ⟨rfl,HX8.out.trans ((HXR.out.trans hx9).trans hx10)⟩
   ·go_wp2_with (first | (go_at_call 37;refine HAM.out.mono ?_;rintro r w9 ⟨rfl,hx9⟩))
    go_ret
    exact ⟨rfl,HX8.out.trans (HXR.out.trans hx9)⟩
  ·obtain rfl:k=wp.length:=by omega
   have HNP:=Lib.hid (show ∀ x ∈ wp,¬ x ∈ wq∧¬ x ∈ rq from fun x hx=>by
    obtain ⟨j,hj,rfl⟩:=List.getElem_of_mem hx
    exact HNO.out j hj hj)
   obtain ⟨wo,rfl⟩ : ∃ wo,wo=wr:=⟨_,rfl⟩
   have HXO:=HXR
   clear HNO HXR
   go_wp2_with fail
   go_loopw [23] (fun i wr=>∃ k:Nat,k ≤ wq.length∧i=.int .i64 k∧(∀ j (hj:j < wq.length),j < k→¬ wq[j] ∈ rp)∧Ext w8 wr) (fun i _=>wq.length - (intOf i).toNat)
   case atStart=>exact ⟨0,Nat.zero_le _,rfl,fun j _ hj=>absurd hj (by omega),HXO.out⟩
   case round =>
    obtain ⟨k,hk,rfl,hno,hx⟩:=hrel
    have HNO:=Lib.hid hno
    have HXR:=Lib.hid hx
    clear hno hx
    by_cases hlt:k < wq.length
    ·obtain rfl:=HQA.out (by omega)
     have y0:=Ints.cell (k:=k) (HQR.out.mono fun x _ b o h=>Has.ext h HXR.out) hlt
     have HAM:=Lib.hid (among_calls rp wq[k] ur wr (Sl.mono HRP5.out fun _ _ _ _ q=>Has.ext q HXR.out))
     obtain ⟨t,ht⟩ : ∃ t,decide (wq[k] ∈ rp)=t:=⟨_,rfl⟩
     have HT:=Lib.hid ht
     rw [ht] at HAM
     clear ht
     obtain ⟨x,hx⟩ : ∃ x,wq[k]=x:=⟨_,rfl⟩
     rw [hx] at y0 HAM
     clear hx
     cases t
     ·go_wp2_with (first | (go_at_call 37;refine HAM.out.mono ?_;rintro r w9 ⟨rfl,hx9⟩))
      go_roundw
      case rel=>exact ⟨k + 1,hlt,by go_num,fun j hj hj2=>by
       by_cases e:j=k
       ·subst e;exact of_decide_eq_false HT.out
       ·exact HNO.out j hj (by omega),HXR.out.trans hx9⟩
      case measure=>simp [intOf];omega
     ·go_wp2_with (first | (go_at_call 37;refine HAM.out.mono ?_;rintro r w9 ⟨rfl,hx9⟩))
      go_ret
      exact ⟨rfl,HX8.out.trans (HXR.out.trans hx9)⟩
    ·obtain rfl:k=wq.length:=by omega
     have hxy:xx=yy:=HAP.out HNP.out fun x hx=>by
      obtain ⟨j,hj,rfl⟩:=List.getElem_of_mem hx
      exact HNO.out j hj hj
     subst hxy
     have HX9:=Lib.hid (HX8.out.trans HXR.out)
     have HD9:=Lib.hid (HDD.out.ext HXR.out)
     have HU9:=Lib.hid (HU.out.ext HXR.out)
     have HV9:=Lib.hid (HV.out.ext HXR.out)
     have HC:=Lib.hid (HR2.out wr HX9.out _ HU9.out)
     have d9:=HD9.out.has
     go_upto_region 25 with (first | ((with_reducible show Jw (Op.load 26 _));refine wpList_load_has rfl 26 _ rfl rfl (d9) agg_Flat rfl ?_) | (go_at_call 23;refine HC.out.mono ?_;rintro r w10 ⟨u3,rfl,hr10,hx10⟩))
     have HX10:=Lib.hid (HX9.out.trans hx10)
     have HC2:=Lib.hid (HR3.out w10 HX10.out _ (HV9.out.ext hx10))
     have HA10:=Lib.hid hr10.cells
     have d10:=(HD9.out.ext hx10).has
     clear hr10 hx10 d9 HC
     go_upto_region 26 with (first | ((with_reducible show Jw (Op.load 26 _));refine wpList_load_has rfl 26 _ rfl rfl (d10) agg_Flat rfl ?_) | (go_at_call 23;refine HC2.out.mono ?_;rintro r w11 ⟨u4,rfl,hr11,hx11⟩))
     have HW11:=Lib.hid (Words_calls11 _ _ _ _ w11 (HA10.out.ext hx11) hr11.cells HXL.out)
     rw [decide_eq_true rfl] at HW11
     have HX11:=Lib.hid (HX10.out.trans hx11)
     clear hr11 hx11 d10
     go_wp2_with (first | (go_at_call 25;refine HW11.out.mono ?_;rintro r w12 ⟨rfl,hx12⟩))
     go_ret
     exact ⟨rfl,HX11.out.trans hx12⟩
end Go.Proofs.YtaipaccpaljecaaGreat
