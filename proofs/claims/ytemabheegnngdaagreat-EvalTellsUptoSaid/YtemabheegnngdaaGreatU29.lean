/- Laws and walks that a claim of this seat leans on: R10b, RefX, R10e, EvalTells, Lift. -/
import Derived.Test.YtemabheegnngdaaGreatU18
import Derived.Test.YtemabheegnngdaaGreatURef17
import Derived.Test.YtemabheegnngdaaGreatU25
import Derived.Test.YtemabheegnngdaaGreatU23
import Derived.Test.YtemabheegnngdaaGreatU24
import Derived.Test.YtemabheegnngdaaGreatU26
import Derived.Test.YtemabheegnngdaaGreatRows
import Derived.Test.YtemabheegnngdaaGreatU12
import Derived.WalkKit
import Derived.ProofKit
import Derived.OpenShut
import Derived.JoinedCond
import Derived.Test.YtemabheegnngdaaGreatU00
set_option linter.all false
namespace Go.Proofs.YtemabheegnngdaaGreat
open Go.RowKit
set_option maxRecDepth 100000 in
set_option maxHeartbeats 2000000 in
theorem Values_callsR (d:Flat) (v:Value) (vs:List Nat) (s:Value) (w:World) (hF:FlatV w v d) (hok:d.ok) (hs:Us w s vs) :
  Calls Tryz.prog 22 #[v,s] w fun r w'=>r=.returned (.int .i64 (if valsOk d vs=true then 0 else 1))∧Ext w w':=by
 have HCK:=Lib.hid (fun W (h:Ext w W)=>Check_callsR d v W (hF.ext h) hok)
 obtain ⟨sv,pv,cv,rfl,hS,hP,hC⟩:=hF
 have x1:=ext_alloc w (.cells [sv,pv,cv].toArray 26)
 have hD:=Blk.new w [sv,pv,cv].toArray 26
 obtain ⟨a0,b0,o0,c0,rfl,hc1,hc2,ha0,hr0⟩:=hS.open
 obtain ⟨av,bv,ov,capv,rfl,hv1,hv2,hav,hvr⟩:=hs.open
 have HSG:=Lib.hid (fun W (h:Ext w W)=>(hr0.mono fun x _ b o hh=>SigAt.ext' h hh:Rows 4 (SigAt W) d.signals b0 o0))
 have HUS:=Lib.hid (fun W (h:Ext w W)=>(hvr.mono fun x _ b o (hh:UAt w x b o)=>Has.ext hh h:Rows 1 (UAt W) vs bv ov))
 have HA:=Lib.hid ha0
 have HAV:=Lib.hid hav
 clear hS hP hC hs hr0 hvr ha0 hav hok
 obtain ⟨t,ht⟩ : ∃ t,valsOk d vs=t:=⟨_,rfl⟩
 have HT:=Lib.hid ht
 rw [ht]
 clear ht
 have hln1:vs.length ≤ 9223372036854775807:=by omega
 go_enter Tryz.func22,Tryz.ntmps22
 go_upto_region 1 with fail
 generalize w.alloc _=w0 at *
 have HD:=Lib.hid hD
 have HX:=Lib.hid x1
 have d0:=hD.has
 clear hD x1
 by_cases hck:checkM d=0
 case neg =>
  have c1:(checkM d != 0)=true:=by rw [bne_iff_ne];exact hck
  obtain rfl:t=false:=by rw [← HT.out];unfold valsOk;rw [decide_eq_false hck];simp
  clear hck
  go_wp2_with (first | ((with_reducible show wpList _ _ _ (⟨_,Op.load 26 _,_,_,_,_⟩ :: _) _ _);refine wpList_load_has rfl 26 _ rfl rfl (d0) agg_Flat rfl ?_) | (go_at_call 54;refine (HCK.out w0 HX.out).mono ?_;rintro r w1 ⟨rfl,hx1⟩))
  go_ret
  exact ⟨rfl,HX.out.trans hx1⟩
 have HCK2:=Lib.hid (HCK.out w0 HX.out)
 rw [hck] at HCK2
 have hww:=checkM_w hck
 by_cases hlen:vs.length=d.signals.length
 case neg =>
  have b1:((vs.length:Int) != (d.signals.length:Int))=true:=by rw [bne_iff_ne];omega
  obtain rfl:t=false:=by rw [← HT.out];unfold valsOk;rw [decide_eq_false hlen];rfl
  clear hlen hck hww
  go_wp2_with (first | ((with_reducible show wpList _ _ _ (⟨_,Op.load 26 _,_,_,_,_⟩ :: _) _ _);refine wpList_load_has rfl 26 _ rfl rfl (d0) agg_Flat rfl ?_) | (go_at_call 54;refine HCK2.out.mono ?_;rintro r w1 ⟨rfl,hx1⟩;have g1:=(HD.out.ext hx1).has 0 _ rfl))
  go_ret
  exact ⟨rfl,HX.out.trans hx1⟩
 have b1:((vs.length:Int) != (d.signals.length:Int))=false:=by rw [bne_eq_false_iff_eq];omega
 have HW:=Lib.hid hww
 have HL:=Lib.hid hlen
 have HVB:=Lib.hid (show t=valB d.signals vs by rw [← HT.out];unfold valsOk;rw [decide_eq_true hlen,decide_eq_true hck];rfl)
 clear hww hck hlen
 go_upto_region 3 with (first | ((with_reducible show wpList _ _ _ (⟨_,Op.load 26 _,_,_,_,_⟩ :: _) _ _);refine wpList_load_has rfl 26 _ rfl rfl (d0) agg_Flat rfl ?_) | (go_at_call 54;refine HCK2.out.mono ?_;rintro r w1 ⟨rfl,hx1⟩;have g1:=(HD.out.ext hx1).has 0 _ rfl))
 have HX1:=Lib.hid (HX.out.trans hx1)
 have HD1:=Lib.hid (HD.out.ext hx1)
 clear g1 hx1 d0 HD HX
 go_wp2_with fail
 go_loopw [5] (fun i wr=>∃ k:Nat,k ≤ vs.length∧i=.int .i64 k∧(∀ j,j < k→vs.getD j 0 < 2 ^ (sigW d.signals (j:Int)).toNat)∧Ext w1 wr) (fun i _=>vs.length - (intOf i).toNat)
 case atStart=>exact ⟨0,Nat.zero_le _,rfl,fun j hj=>absurd hj (by omega),Below.refl _ _⟩
 case round =>
  obtain ⟨k,hk,rfl,hall,hB⟩:=hrel
  have HALL:=Lib.hid hall
  have HB:=Lib.hid hB
  clear hall hB
  by_cases hlt:k < vs.length
  ·have hks:k < d.signals.length:=by have:=HL.out;omega
   obtain rfl:=HA.out (by omega)
   obtain rfl:=HAV.out (by omega)
   have he:=Sigs.get (HSG.out wr (HX1.out.trans HB.out)) hks
   have g1:=he 1 _ rfl
   have gv:=Us.get (HUS.out wr (HX1.out.trans HB.out)) hlt
   have gd:=(HD1.out.ext HB.out).has 0 _ rfl
   have hwk:=HW.out _ (List.getElem_mem hks)
   have hsw:sigW d.signals (k:Int)=d.signals[k].w:=by simp [sigW,List.getElem?_eq_getElem hks]
   have hgd:vs.getD k 0=vs[k]:=by simp [List.getD_eq_getElem?_getD,List.getElem?_eq_getElem hlt]
   have HMK:=Lib.hid (fun W=>MaskR_calls d.signals[k].w hwk.1 hwk.2 W)
   have HSW:=Lib.hid hsw
   have HGD:=Lib.hid hgd
   have hp:=Nat.two_pow_pos d.signals[k].w.toNat
   generalize d.signals[k]=x at *
   generalize vs[k]=y at *
   obtain ⟨M,hM⟩ : ∃ M,2 ^ x.w.toNat - 1=M:=⟨_,rfl⟩
   rw [hM] at HMK
   have HMM:=Lib.hid (show ∀ z:Nat,z < 2 ^ x.w.toNat ↔ z ≤ M by intro z;omega)
   clear hwk hsw hgd he hM hp
   go_upto_region 6 with fail
   by_cases hyM:M < y
   ·have c3:decide (M < y)=true:=decide_eq_true hyM
    obtain rfl:t=false:=by
     rw [HVB.out]
     unfold valB
     rw [Bool.eq_false_iff]
     intro h1
     have h2:=of_decide_eq_true (List.all_eq_true.1 h1 k (List.mem_range.2 hks))
     rw [HSW.out,HGD.out,HMM.out] at h2
     omega
    clear hyM
    go_quiet (first | (go_at_call 31;refine Calls.quiet_of_same (HMK.out _)))
    have hX3:=(HX1.out.trans HB.out).drewNB nq
    generalize wr.drewN nq=w3 at *
    clear g1 gv gd
    go_wp2_with fail
    go_ret
    exact ⟨rfl,hX3⟩
   ·have c3:decide (M < y)=false:=decide_eq_false hyM
    have HFIT:=Lib.hid (show vs.getD k 0 < 2 ^ (sigW d.signals (k:Int)).toNat by rw [HSW.out,HGD.out,HMM.out];omega)
    clear hyM
    go_quiet (first | (go_at_call 31;refine Calls.quiet_of_same (HMK.out _)))
    have hX3:=HB.out.drewNB nq
    generalize wr.drewN nq=w3 at *
    clear g1 gv gd
    go_wp2_with fail
    go_roundw
    case rel=>exact ⟨k + 1,by omega,by go_num,fun j hj=>by
     by_cases e:j=k
     ·subst e;exact HFIT.out
     ·exact HALL.out j (by omega),hX3⟩
    case measure=>simp [intOf];omega
  ·obtain rfl:k=vs.length:=by omega
   obtain rfl:t=true:=by
    rw [HVB.out]
    unfold valB
    rw [List.all_eq_true]
    intro j hj
    exact decide_eq_true (HALL.out j (by have:=List.mem_range.1 hj;have:=HL.out;omega))
   go_wp2_with fail
   go_ret
   exact ⟨rfl,HX1.out.trans HB.out⟩
open Go.RowKit
set_option maxRecDepth 100000 in
set_option maxHeartbeats 2000000 in
theorem Expr_callsR (d:Flat) (v:Value) (e:E) (want:Int) (cs:List Value) (w:World) (hF:FlatV w v d) (hok:d.ok) (hV:VE w cs e) (hwf:e.wf) (hn:nodes e ≤ 1048576) :
  Calls Tryz.prog 64 #[v,.agg cs.toArray,.int .i64 want] w (ExprP w (exprM d.signals e want)):=by
 obtain ⟨sv,pv,cv,rfl,hS,hP,hC⟩:=hF
 obtain ⟨s,rfl,hs⟩:=hV
 have x1:=ext_alloc w (.cells [sv,pv,cv].toArray 26)
 have x2:=ext_alloc (w.alloc (.cells [sv,pv,cv].toArray 26)) (.cells (e.cells s).toArray 44)
 have x3:=ext_alloc ((w.alloc (.cells [sv,pv,cv].toArray 26)).alloc (.cells (e.cells s).toArray 44)) (.cells zeroE.toArray 44)
 have hD:=((Blk.new w [sv,pv,cv].toArray 26).ext x2).ext x3
 have hE:=(Blk.new (w.alloc (.cells [sv,pv,cv].toArray 26)) (e.cells s).toArray 44).ext x3
 have hR:=Blk.new ((w.alloc (.cells [sv,pv,cv].toArray 26)).alloc (.cells (e.cells s).toArray 44)) zeroE.toArray 44
 have HX:=(x1.trans x2).trans x3
 simp only [World.size_alloc] at hE hR
 clear x1 x2 x3
 have HSV:=Lib.hid (fun W (h:Ext w W)=>Signals_callsR d.signals sv W (hS.ext h) hok.signals)
 have HSH:=Lib.hid (fun W (h:Ext w W)=>Shape_callsR d.signals e sv (e.cells s) W (hS.ext h) ⟨s,rfl,hs.ext h⟩ hwf)
 have HND:=Lib.hid (fun W (h:Ext w W)=>Nodes_calls e s W (hs.ext h) hn)
 have HDP:=Lib.hid (fun W (h:Ext w W)=>Deep_calls e s W (hs.ext h) (Nat.le_trans (deep_le_nodes e) hn))
 have HVX:=Lib.hid (fun W (h:Ext w W)=>show VE W (e.cells s) e from ⟨s,rfl,hs.ext h⟩)
 have HWF:=Lib.hid hwf
 have HN:=Lib.hid hn
 obtain ⟨a0,b0,o0,c0,rfl,-,-,-,-⟩:=hS.open
 obtain ⟨ap,bp,op,cp,rfl,-,-,-,-⟩:=hP.open
 obtain ⟨ac,bc,oc,cc,rfl,-,-,-,-⟩:=hC.open
 clear hS hP hC hs hok hwf hn
 obtain ⟨OUT,hout⟩ : ∃ o,exprM d.signals e want=o:=⟨_,rfl⟩
 have HOUT:=Lib.hid hout
 rw [hout]
 clear hout
 obtain ⟨sg,hsg⟩ : ∃ s,sigsOk [[]] d.signals=s:=⟨_,rfl⟩
 obtain ⟨p,hp⟩ : ∃ p,shape d.signals e=p:=⟨_,rfl⟩
 have HEB:=Lib.hid (show exprBad d.signals e want=(!sg || decide (want < 0) || decide (64 < want) || !p) by unfold exprBad;rw [hsg,hp])
 have HSG:=Lib.hid hsg
 have HPP:=Lib.hid hp
 rw [hsg] at HSV
 rw [hp] at HSH
 clear hsg hp
 go_enter Tryz.func64,Tryz.ntmps64
 go_upto_region 1 with fail
 generalize ((w.alloc _).alloc _).alloc _=w0 at *
 have HD:=Lib.hid hD
 have HE:=Lib.hid hE
 have HR:=Lib.hid hR
 have HXX:=Lib.hid HX
 have g0:=hD.has 0 _ rfl
 clear hD hE hR HX
 have hbad:exprBad d.signals e want=true→OUT=.error 1:=fun h=>by
  have ho:=HOUT.out
  unfold exprM at ho
  rw [h,if_pos rfl] at ho
  exact ho.symm
 have HBAD:=Lib.hid hbad
 clear hbad
 cases sg
 ·obtain rfl:=HBAD.out (by rw [HEB.out];rfl)
  go_wp2_with (first | (go_at_call 109;refine (HSV.out w0 HXX.out).mono ?_;rintro r w1 ⟨rfl,hx1⟩) | ((with_reducible show wpList _ _ _ (⟨_,Op.store 44 _ _,_,_,_,_⟩ :: _) _ _);refine wpList_store_blk rfl 44 _ _ rfl (HR.out.ext hx1) rfl (cs:=zeroE) (rfl) agg_E (rfl) rfl (rfl) ?_;intro w4 hb4 hg4) | ((with_reducible show bodyPost _ _ _ _ _ _);refine Hid.out ?_))
  refine Lib.hid ?_
  refine post_ret_blk2 rfl rfl rfl hb4.has agg_E rfl rfl (.inl ⟨1,rfl,by decide,rfl,(HXX.out.trans hx1).grown hg4 (by omega)⟩)
 by_cases c1:want < 0
 ·obtain rfl:=HBAD.out (by rw [HEB.out,decide_eq_true c1];rfl)
  go_wp2_with (first | (go_at_call 109;refine (HSV.out w0 HXX.out).mono ?_;rintro r w1 ⟨rfl,hx1⟩) | ((with_reducible show wpList _ _ _ (⟨_,Op.store 44 _ _,_,_,_,_⟩ :: _) _ _);refine wpList_store_blk rfl 44 _ _ rfl (HR.out.ext hx1) rfl (cs:=zeroE) (rfl) agg_E (rfl) rfl (rfl) ?_;intro w4 hb4 hg4) | ((with_reducible show bodyPost _ _ _ _ _ _);refine Hid.out ?_))
  refine Lib.hid ?_
  refine post_ret_blk2 rfl rfl rfl hb4.has agg_E rfl rfl (.inl ⟨1,rfl,by decide,rfl,(HXX.out.trans hx1).grown hg4 (by omega)⟩)
 by_cases c2:64 < want
 ·obtain rfl:=HBAD.out (by rw [HEB.out,decide_eq_true c2];simp)
  go_wp2_with (first | (go_at_call 109;refine (HSV.out w0 HXX.out).mono ?_;rintro r w1 ⟨rfl,hx1⟩) | ((with_reducible show wpList _ _ _ (⟨_,Op.store 44 _ _,_,_,_,_⟩ :: _) _ _);refine wpList_store_blk rfl 44 _ _ rfl (HR.out.ext hx1) rfl (cs:=zeroE) (rfl) agg_E (rfl) rfl (rfl) ?_;intro w4 hb4 hg4) | ((with_reducible show bodyPost _ _ _ _ _ _);refine Hid.out ?_))
  refine Lib.hid ?_
  refine post_ret_blk2 rfl rfl rfl hb4.has agg_E rfl rfl (.inl ⟨1,rfl,by decide,rfl,(HXX.out.trans hx1).grown hg4 (by omega)⟩)
 have b1:decide (want < 0)=false:=decide_eq_false c1
 have b2:decide (64 < want)=false:=decide_eq_false c2
 have HWN:=Lib.hid (show 0 ≤ want∧want ≤ 64 by omega)
 clear c1 c2
 cases p
 ·obtain rfl:=HBAD.out (by rw [HEB.out,b1,b2];rfl)
  go_wp2_with (first | (go_at_call 109;refine (HSV.out w0 HXX.out).mono ?_;rintro r w1 ⟨rfl,hx1⟩;have g1:=(HD.out.ext hx1).has 0 _ rfl;have k1:=(HE.out.ext hx1).has) | ((with_reducible show wpList _ _ _ (⟨_,Op.load 44 _,_,_,_,_⟩ :: _) _ _);refine wpList_load_has rfl 44 _ rfl rfl (k1) agg_E rfl ?_) | (go_at_call 110;refine (HSH.out _ (HXX.out.trans hx1)).mono ?_;rintro r w2 ⟨rfl,hx2⟩) | ((with_reducible show wpList _ _ _ (⟨_,Op.store 44 _ _,_,_,_,_⟩ :: _) _ _);refine wpList_store_blk rfl 44 _ _ rfl (HR.out.ext (hx1.trans hx2)) rfl (cs:=zeroE) (rfl) agg_E (rfl) rfl (rfl) ?_;intro w4 hb4 hg4) | ((with_reducible show bodyPost _ _ _ _ _ _);refine Hid.out ?_))
  refine Lib.hid ?_
  refine post_ret_blk2 rfl rfl rfl hb4.has agg_E rfl rfl (.inl ⟨1,rfl,by decide,rfl,(HXX.out.trans (hx1.trans hx2)).grown hg4 (by omega)⟩)
 have HGB:=Lib.hid (show exprBad d.signals e want=false by rw [HEB.out,b1,b2];rfl)
 go_upto_region 3 with (first | (go_at_call 109;refine (HSV.out w0 HXX.out).mono ?_;rintro r w1 ⟨rfl,hx1⟩;have g1:=(HD.out.ext hx1).has 0 _ rfl;have k1:=(HE.out.ext hx1).has) | ((with_reducible show wpList _ _ _ (⟨_,Op.load 44 _,_,_,_,_⟩ :: _) _ _);refine wpList_load_has rfl 44 _ rfl rfl (k1) agg_E rfl ?_) | (go_at_call 110;refine (HSH.out _ (HXX.out.trans hx1)).mono ?_;rintro r w2 ⟨rfl,hx2⟩))
 have HX2:=Lib.hid (hx1.trans hx2)
 have HE2:=Lib.hid (HE.out.ext HX2.out)
 have HR2:=Lib.hid (HR.out.ext HX2.out)
 have HXA:=Lib.hid (HXX.out.trans HX2.out)
 clear hx1 hx2 g0 g1 k1
 have k2:=HE2.out.has
 have hbig:(decide (nodes e ≤ 65536) && decide (deep e ≤ 64))=false→OUT=.error 2:=fun h=>by
  have ho:=HOUT.out
  unfold exprM at ho
  rw [HGB.out,if_neg (by simp),if_pos h] at ho
  exact ho.symm
 have hgood:nodes e ≤ 65536→deep e ≤ 64→OUT=sizeE e want:=fun h h'=>by
  have ho:=HOUT.out
  unfold exprM at ho
  rw [HGB.out,if_neg (by simp),decide_eq_true h,decide_eq_true h',if_neg (by simp)] at ho
  exact ho.symm
 have HBIG:=Lib.hid hbig
 have HGOOD:=Lib.hid hgood
 clear hbig hgood
 by_cases n1:(65536:Int) < (nodes e:Int)
 ·obtain rfl:=HBIG.out (by rw [decide_eq_false (by omega)];rfl)
  have b3:decide ((65536:Int) < (nodes e:Int))=true:=decide_eq_true n1
  clear n1
  go_wp2_with (first | ((with_reducible show wpList _ _ _ (⟨_,Op.load 44 _,_,_,_,_⟩ :: _) _ _);refine wpList_load_has rfl 44 _ rfl rfl (k2) agg_E rfl ?_) | (go_at_call 29;refine (HND.out _ HXA.out).mono ?_;rintro r w3 ⟨rfl,hx3⟩) | ((with_reducible show wpList _ _ _ (⟨_,Op.store 44 _ _,_,_,_,_⟩ :: _) _ _);refine wpList_store_blk rfl 44 _ _ rfl (HR2.out.ext hx3) rfl (cs:=zeroE) (rfl) agg_E (rfl) rfl (rfl) ?_;intro w4 hb4 hg4) | ((with_reducible show bodyPost _ _ _ _ _ _);refine Hid.out ?_))
  refine Lib.hid ?_
  refine post_ret_blk2 rfl rfl rfl hb4.has agg_E rfl rfl (.inl ⟨2,rfl,by decide,rfl,(HXA.out.trans hx3).grown hg4 (by omega)⟩)
 have b3:decide ((65536:Int) < (nodes e:Int))=false:=decide_eq_false n1
 by_cases n2:(64:Int) < (deep e:Int)
 ·obtain rfl:=HBIG.out (by rw [decide_eq_false (show ¬ deep e ≤ 64 by omega)];simp)
  have b4:decide ((64:Int) < (deep e:Int))=true:=decide_eq_true n2
  clear n1 n2
  go_wp2_with (first | ((with_reducible show wpList _ _ _ (⟨_,Op.load 44 _,_,_,_,_⟩ :: _) _ _);refine wpList_load_has rfl 44 _ rfl rfl (k2) agg_E rfl ?_) | (go_at_call 29;refine (HND.out _ HXA.out).mono ?_;rintro r w3 ⟨rfl,hx3⟩;have k3:=(HE2.out.ext hx3).has) | ((with_reducible show wpList _ _ _ (⟨_,Op.load 44 _,_,_,_,_⟩ :: _) _ _);refine wpList_load_has rfl 44 _ rfl rfl (k3) agg_E rfl ?_) | (go_at_call 32;refine (HDP.out _ (HXA.out.trans hx3)).mono ?_;rintro r w5 ⟨rfl,hx5⟩) | ((with_reducible show wpList _ _ _ (⟨_,Op.store 44 _ _,_,_,_,_⟩ :: _) _ _);refine wpList_store_blk rfl 44 _ _ rfl (HR2.out.ext (hx3.trans hx5)) rfl (cs:=zeroE) (rfl) agg_E (rfl) rfl (rfl) ?_;intro w4 hb4 hg4) | ((with_reducible show bodyPost _ _ _ _ _ _);refine Hid.out ?_))
  refine Lib.hid ?_
  refine post_ret_blk2 rfl rfl rfl hb4.has agg_E rfl rfl (.inl ⟨2,rfl,by decide,rfl,(HXA.out.trans (hx3.trans hx5)).grown hg4 (by omega)⟩)
 have b4:decide ((64:Int) < (deep e:Int))=false:=decide_eq_false n2
 obtain rfl:=HGOOD.out (by omega) (by omega)
 have hls:∀ x ∈ d.signals,x.w ≤ 64:=sigs_w _ _ HSG.out
 have HSZ:=Lib.hid (fun W (h:Ext w W)=>sized_callsR hls e HPP.out HWF.out HN.out want (e.cells s) W (HVX.out W h) HWN.out.1 (by have:=HWN.out.2;omega))
 clear n1 n2 hls
 go_wp2_with (first | ((with_reducible show wpList _ _ _ (⟨_,Op.load 44 _,_,_,_,_⟩ :: _) _ _);refine wpList_load_has rfl 44 _ rfl rfl (k2) agg_E rfl ?_) | (go_at_call 29;refine (HND.out _ HXA.out).mono ?_;rintro r w3 ⟨rfl,hx3⟩;have k3:=(HE2.out.ext hx3).has) | ((with_reducible show wpList _ _ _ (⟨_,Op.load 44 _,_,_,_,_⟩ :: _) _ _);refine wpList_load_has rfl 44 _ rfl rfl (k3) agg_E rfl ?_) | (go_at_call 32;refine (HDP.out _ (HXA.out.trans hx3)).mono ?_;rintro r w5 ⟨rfl,hx5⟩;have k5:=(HE2.out.ext (hx3.trans hx5)).has) | ((with_reducible show wpList _ _ _ (⟨_,Op.load 44 _,_,_,_,_⟩ :: _) _ _);refine wpList_load_has rfl 44 _ rfl rfl (k5) agg_E rfl ?_) | (go_at_call 111;refine (HSZ.out _ (HXA.out.trans (hx3.trans hx5))).mono ?_;intro r w6 hp6;obtain ⟨cs2,g,rfl,h82,hone,hx6,-⟩:=hp6.open;have HP6:=Lib.hid hp6;clear hp6;have hk4:=HR2.out.ext ((hx3.trans hx5).trans hx6)) | ((with_reducible show wpList _ _ _ (⟨_,Op.store 44 _ _,_,_,_,_⟩ :: _) _ _);refine wpList_store_blk rfl 44 _ _ rfl hk4 rfl (cs:=cs2) rfl agg_E h82 rfl hone ?_;intro w9 hb9 hg9) | ((with_reducible show bodyPost _ _ _ _ _ _);refine Hid.out ?_))
 refine Lib.hid ?_
 have hs0:=HXA.out.size
 have hs1:=hx3.size
 have hs2:=hx5.size
 have hlt:=HR2.out.lt
 refine post_ret_blk2 rfl rfl rfl hb9.has agg_E h82 rfl ?_
 rcases HP6.out.again (HXA.out.trans (hx3.trans hx5)) ((HXA.out.trans ((hx3.trans hx5).trans hx6)).grown hg9 (by omega)) (Since.of_grown hg9 (by omega)) with ⟨g9,h1,h2,h3,h4⟩ | ⟨y,cs9,h1,h2,h3,h4⟩
 ·exact .inl ⟨g9,h1,by omega,h3,h4⟩
 ·exact .inr ⟨y,cs9,h1,h2,h3,h4⟩
set_option maxRecDepth 100000 in
set_option maxHeartbeats 2000000 in
theorem CheckE_callsR (d:Flat) (v:Value) (e:E) (cs:List Value) (w:World) (hF:FlatV w v d) (hok:d.ok) (hV:VE w cs e) (hwf:e.wf) (hn:nodes e ≤ 1048576) :
  Calls Tryz.prog 30 #[v,.agg cs.toArray] w fun r w'=>r=.returned (.int .i64 (checkEM d.signals e))∧Ext w w':=by
 have HF:=Lib.hid (fun W (h:Ext w W)=>hF.ext h)
 have HEX:=Lib.hid (fun W (h:Ext w W)=>Expr_callsR d v e e.w cs W (hF.ext h) hok (hV.ext h) hwf hn)
 obtain ⟨sv,pv,cv,rfl,hS,hP,hC⟩:=hF
 have hone : [sv,pv,cv].all (·.oneCell')=true:=by simp [hS.one,hP.one,hC.one]
 obtain ⟨s0,rfl,hs0⟩:=hV
 have HVX:=Lib.hid (fun W (h:Ext w W)=>show VE W (e.cells s0) e from ⟨s0,rfl,hs0.ext h⟩)
 have h8:(e.cells s0).length=8:=rfl
 have x1:=ext_alloc w (.cells [sv,pv,cv].toArray 26)
 have x2:=ext_alloc (w.alloc (.cells [sv,pv,cv].toArray 26)) (.cells (e.cells s0).toArray 44)
 have hD:=(Blk.new w [sv,pv,cv].toArray 26).ext x2
 have hE:=Blk.new (w.alloc (.cells [sv,pv,cv].toArray 26)) (e.cells s0).toArray 44
 have HX:=x1.trans x2
 simp only [World.size_alloc] at hE
 clear x1 x2
 obtain ⟨a0,b0,o0,c0,rfl,-,-,-,-⟩:=hS.open
 obtain ⟨ap,bp,op,cp,rfl,-,-,-,-⟩:=hP.open
 obtain ⟨ac,bc,oc,cc,rfl,-,-,-,-⟩:=hC.open
 clear hS hP hC hok hwf hn hs0
 obtain ⟨OUT,hout⟩ : ∃ o,checkEM d.signals e=o:=⟨_,rfl⟩
 have HOUT:=Lib.hid hout
 rw [hout]
 clear hout
 go_enter Tryz.func30,Tryz.ntmps30
 go_upto_region 1 with fail
 generalize (w.alloc _).alloc _=w0 at *
 have HD:=Lib.hid hD
 have HE:=Lib.hid hE
 have HXX:=Lib.hid HX
 have d0:=hD.has
 have e0:=hE.has
 have g1:=hE.has 1 _ rfl
 clear hD hE HX
 go_upto_region 2 with (first | ((with_reducible show wpList _ _ _ (⟨_,Op.load 26 _,_,_,_,_⟩ :: _) _ _);refine wpList_load_has rfl 26 _ rfl rfl (d0) agg_Flat rfl ?_) | ((with_reducible show wpList _ _ _ (⟨_,Op.load 44 _,_,_,_,_⟩ :: _) _ _);refine wpList_load_has rfl 44 _ rfl rfl (e0) agg_E rfl ?_) | (go_at_call 64;refine (HEX.out _ HXX.out).mono ?_;rintro r w1 hp;obtain ⟨cs2,g,rfl,hl2,ho2,hx1,hq⟩:=hp.open) | ((with_reducible show wpList _ _ _ (⟨_,Op.store 44 _ _,_,_,_,_⟩ :: _) _ _);refine wpList_store_new rfl 44 _ _ rfl rfl (by first | rfl | simp) rfl agg_E (hl2) rfl (ho2) ?_))
 have HQ:=Lib.hid hq
 have hx2:=hx1.alloc (.cells cs2.toArray 44)
 have hb2:=Has.alloc w1 cs2 44
 have HV2:=Lib.hid (fun y (h:VE w1 cs2 y)=>h.ext (ext_alloc w1 (.cells cs2.toArray 44)))
 have HE2:=Lib.hid (HE.out.ext hx2)
 have HX2:=Lib.hid (HXX.out.trans hx2)
 clear hq hx1 hx2 g1 d0 e0
 generalize w1.alloc _=w2 at *
 have e2:=HE2.out.has
 have g1:=HE2.out.has 1 _ rfl
 have ho:=HOUT.out
 unfold checkEM at ho
 rcases HQ.out with ⟨rfl,y,hy,hvy⟩ | ⟨hg9,hy⟩
 ·rw [hy] at ho
  simp only at ho
  have HVY:=Lib.hid (HV2.out y hvy)
  have HO:=Lib.hid ho
  clear ho hy hvy HQ
  by_cases hw:e.w=0
  ·have c1:(e.w == 0)=true:=by rw [beq_iff_eq];exact hw
   obtain rfl:OUT=90:=by have:=HO.out;rw [if_pos (.inl hw)] at this;exact this.symm
   clear hw
   go_wp2_with fail
   go_ret
   exact ⟨rfl,HX2.out⟩
  ·have c1:(e.w == 0)=false:=by rw [beq_eq_false_iff_ne];exact hw
   obtain ⟨q,hq⟩ : ∃ q,eqE y e=q:=⟨_,rfl⟩
   have HSM:=Lib.hid (SameE_callsR y e cs2 (e.cells s0) w2 HVY.out (HVX.out w2 HX2.out))
   rw [hq] at HSM
   have HW:=Lib.hid hw
   have HQ:=Lib.hid hq
   clear hw hq
   cases q
   ·obtain rfl:OUT=90:=by have:=HO.out;rw [HQ.out,if_pos (.inr rfl)] at this;exact this.symm
    go_wp2_with (first | ((with_reducible show wpList _ _ _ (⟨_,Op.load 44 _,_,_,_,_⟩ :: _) _ _);refine wpList_load_has rfl 44 _ rfl rfl (hb2) agg_E hl2 ?_) | ((with_reducible show wpList _ _ _ (⟨_,Op.load 44 _,_,_,_,_⟩ :: _) _ _);refine wpList_load_has rfl 44 _ rfl rfl (e2) agg_E rfl ?_) | (go_at_call 27;refine (HSM.out).mono ?_;rintro r w3 ⟨rfl,hx3⟩))
    go_ret
    exact ⟨rfl,HX2.out.trans hx3⟩
   ·obtain rfl:OUT=0:=by have:=HO.out;rw [HQ.out,if_neg (by rintro (h | h);exact HW.out h;cases h)] at this;exact this.symm
    go_wp2_with (first | ((with_reducible show wpList _ _ _ (⟨_,Op.load 44 _,_,_,_,_⟩ :: _) _ _);refine wpList_load_has rfl 44 _ rfl rfl (hb2) agg_E hl2 ?_) | ((with_reducible show wpList _ _ _ (⟨_,Op.load 44 _,_,_,_,_⟩ :: _) _ _);refine wpList_load_has rfl 44 _ rfl rfl (e2) agg_E rfl ?_) | (go_at_call 27;refine (HSM.out).mono ?_;rintro r w3 ⟨rfl,hx3⟩))
    go_ret
    exact ⟨rfl,HX2.out.trans hx3⟩
 ·rw [hy] at ho
  simp only at ho
  subst ho
  have c0:(g == 0)=false:=by rw [beq_eq_false_iff_ne];exact hg9
  clear hg9 hy HQ
  go_wp2_with fail
  go_ret
  exact ⟨rfl,HX2.out⟩
open Go.RowKit
theorem valsOk_ck' {d:Flat} {vs:List Nat} (h:valsOk d vs=true):vs.length=d.signals.length∧checkM d=0∧Vals d.signals vs:=by
 unfold valsOk at h
 simp only [Bool.and_eq_true,decide_eq_true_eq] at h
 exact ⟨h.1,h.2.1,valB_vals h.2.2⟩
set_option maxRecDepth 100000 in
set_option maxHeartbeats 2000000 in
theorem Eval_callsR (d:Flat) (v:Value) (vs:List Nat) (s:Value) (e:E) (cs:List Value) (w:World) (hF:FlatV w v d) (hok:d.ok) (hs:Us w s vs) (hV:VE w cs e) (hwf:e.wf) (hn:nodes e ≤ 1048576) :
  Calls Tryz.prog 20 #[v,s,.agg cs.toArray] w fun r w'=>r=.returned (.tuple #[.int .u64 ((evalM d vs e).1:Nat),.int .i64 (evalM d vs e).2])∧Ext w w':=by
 have HFW:=Lib.hid (fun W (h:Ext w W)=>hF.ext h)
 have HUW:=Lib.hid (fun W (h:Ext w W)=>hs.ext h)
 have HVW:=Lib.hid (fun W (h:Ext w W)=>hV.ext h)
 have HVL:=Lib.hid (fun W (h:Ext w W)=>Values_callsR d v vs s W (hF.ext h) hok (hs.ext h))
 have HCE:=Lib.hid (fun W (h:Ext w W)=>CheckE_callsR d v e cs W (hF.ext h) hok (hV.ext h) hwf hn)
 have HN:=Lib.hid hn
 have HWF:=Lib.hid hwf
 have h8:cs.length=8:=by obtain ⟨s,rfl,-⟩:=hV;rfl
 obtain ⟨sv,pv,cv,rfl,hS,hP,hC⟩:=hF
 obtain ⟨av,bv,ov,capv,rfl,-,-,-,-⟩:=hs.open
 have x1:=ext_alloc w (.cells [sv,pv,cv].toArray 26)
 have x2:=ext_alloc (w.alloc (.cells [sv,pv,cv].toArray 26)) (.cells cs.toArray 44)
 have hD:=(Blk.new w [sv,pv,cv].toArray 26).ext x2
 have hE:=Blk.new (w.alloc (.cells [sv,pv,cv].toArray 26)) cs.toArray 44
 have hX:=x1.trans x2
 simp only [World.size_alloc] at hE
 clear x1 x2 hS hP hC hs hok hV hwf hn
 obtain ⟨OUT,hout⟩ : ∃ o,evalM d vs e=o:=⟨_,rfl⟩
 have HOUT:=Lib.hid hout
 rw [hout]
 clear hout
 obtain ⟨q,hq⟩ : ∃ q,valsOk d vs=q:=⟨_,rfl⟩
 have HQ:=Lib.hid hq
 rw [hq] at HVL
 clear hq
 go_enter Tryz.func20,Tryz.ntmps20
 go_upto_region 1 with fail
 generalize (w.alloc _).alloc _=w0 at *
 have HD:=Lib.hid hD
 have HE:=Lib.hid hE
 have HX:=Lib.hid hX
 have d0:=hD.has
 clear hD hE hX
 cases q
 ·obtain rfl:OUT=(0,1):=by rw [← HOUT.out];unfold evalM;rw [HQ.out];simp
  go_wp2_with (first | ((with_reducible show wpList _ _ _ (⟨_,Op.load 26 _,_,_,_,_⟩ :: _) _ _);refine wpList_load_has rfl 26 _ rfl rfl (d0) agg_Flat rfl ?_) | (go_at_call 22;refine (HVL.out w0 HX.out).mono ?_;rintro r w1 ⟨rfl,hx1⟩))
  refine bodyPost_ret (v:=.tuple #[.int .u64 ((0:Nat):Int),.int .i64 1]) (by simp [results,Tryz.results20,go_sem]) rfl ⟨rfl,HX.out.trans hx1⟩
 by_cases hce:checkEM d.signals e=0
 case neg =>
  have c1:(checkEM d.signals e != 0)=true:=by rw [bne_iff_ne];exact hce
  obtain rfl:OUT=(0,1):=by rw [← HOUT.out];unfold evalM;rw [if_neg (fun h=>hce h.2)]
  clear hce
  go_wp2_with (first | ((with_reducible show wpList _ _ _ (⟨_,Op.load 26 _,_,_,_,_⟩ :: _) _ _);refine wpList_load_has rfl 26 _ rfl rfl (d0) agg_Flat rfl ?_) | (go_at_call 22;refine (HVL.out w0 HX.out).mono ?_;rintro r w1 ⟨rfl,hx1⟩;have d1:=(HD.out.ext hx1).has;have e1:=(HE.out.ext hx1).has) | ((with_reducible show wpList _ _ _ (⟨_,Op.load 26 _,_,_,_,_⟩ :: _) _ _);refine wpList_load_has rfl 26 _ rfl rfl (d1) agg_Flat rfl ?_) | ((with_reducible show wpList _ _ _ (⟨_,Op.load 44 _,_,_,_,_⟩ :: _) _ _);refine wpList_load_has rfl 44 _ rfl rfl (e1) agg_E h8 ?_) | (go_at_call 30;refine (HCE.out w1 (HX.out.trans hx1)).mono ?_;rintro r w2 ⟨rfl,hx2⟩))
  refine bodyPost_ret (v:=.tuple #[.int .u64 ((0:Nat):Int),.int .i64 1]) (by simp [results,Tryz.results20,go_sem]) rfl ⟨rfl,HX.out.trans (hx1.trans hx2)⟩
 obtain ⟨h4,h5,h6⟩:=valsOk_ck' HQ.out
 have hls:=checkM_w h5
 have hws:=(checkEM_ws (fun x hx=>(hls x hx).2) hce).1
 have HVA:=Lib.hid (fun W (h:Ext w W)=>Value10_calls d vs hls h6 e hws HWF.out (.inl h4) _ _ cs W (HFW.out W h) (HUW.out W h) (HVW.out W h) HN.out)
 obtain rfl:OUT=(evM vs e,0):=by rw [← HOUT.out];unfold evalM;rw [if_pos ⟨HQ.out,hce⟩]
 rw [hce] at HCE
 unfold evB at HVA
 clear h4 h5 h6 hls hws hce
 go_wp2_with (first | (go_at_call 22;refine (HVL.out w0 HX.out).mono ?_;rintro r w1 ⟨rfl,hx1⟩;have d1:=(HD.out.ext hx1).has;have e1:=(HE.out.ext hx1).has;clear d0) | ((with_reducible show wpList _ _ _ (⟨_,Op.load 26 _,_,_,_,_⟩ :: _) _ _);refine wpList_load_has rfl 26 _ rfl rfl (d0) agg_Flat rfl ?_) | (go_at_call 30;refine (HCE.out w1 (HX.out.trans hx1)).mono ?_;rintro r w2 ⟨rfl,hx2⟩;have d2:=(HD.out.ext (hx1.trans hx2)).has;have e2:=(HE.out.ext (hx1.trans hx2)).has;clear d1 e1) | ((with_reducible show wpList _ _ _ (⟨_,Op.load 26 _,_,_,_,_⟩ :: _) _ _);refine wpList_load_has rfl 26 _ rfl rfl (d1) agg_Flat rfl ?_) | ((with_reducible show wpList _ _ _ (⟨_,Op.load 44 _,_,_,_,_⟩ :: _) _ _);refine wpList_load_has rfl 44 _ rfl rfl (e1) agg_E h8 ?_) | ((with_reducible show wpList _ _ _ (⟨_,Op.load 26 _,_,_,_,_⟩ :: _) _ _);refine wpList_load_has rfl 26 _ rfl rfl (d2) agg_Flat rfl ?_) | ((with_reducible show wpList _ _ _ (⟨_,Op.load 44 _,_,_,_,_⟩ :: _) _ _);refine wpList_load_has rfl 44 _ rfl rfl (e2) agg_E h8 ?_) | (go_at_call 52;refine (HVA.out w2 (HX.out.trans (hx1.trans hx2))).mono ?_;rintro r w3 ⟨rfl,hx3⟩;have hf:=field_bits ⟨e.w,evM vs e⟩ w3))
 refine bodyPost_ret (v:=.tuple #[.int .u64 (evM vs e:Int),.int .i64 0]) (by simp [results,Tryz.results20,go_sem]) rfl ⟨rfl,HX.out.trans ((hx1.trans hx2).trans hx3)⟩
open Go.RowKit
set_option maxRecDepth 100000 in
set_option maxHeartbeats 4000000 in
theorem EvalTells_calls (d:Flat) (v:Value) (vs:List Nat) (s:Value) (e:E) (cs:List Value) (w:World) (hF:FlatV w v d) (hok:d.ok) (hs:Us w s vs) (h64:us64 vs) (_:vs.length + 1 ≤ 1048576) (hV:VE w cs e) (hwf:e.wf) (hn:nodes e ≤ 1048576) :
  Calls Tryz.prog 4 #[v,s,.agg cs.toArray] w fun r w'=>r=.returned (.bool true)∧Ext w w':=by
 have HFW:=Lib.hid (fun W (h:Ext w W)=>few_calls d v e cs W (hF.ext h) hok (hV.ext h) hn (Nat.le_trans (deep_le_nodes e) hn))
 have HEV:=Lib.hid (fun x cx W (h:Ext w W) (hx:VE W cx x) (h1:x.wf) (h2:nodes x ≤ 1048576)=>Eval_calls d v vs s x cx W (hF.ext h) hok (hs.ext h) h64 hx h1 h2)
 have HEVR:=Lib.hid (fun W (h:Ext w W)=>Eval_callsR d v vs s e cs W (hF.ext h) hok (hs.ext h) (hV.ext h) hwf hn)
 have HVA:=Lib.hid (fun W (h:Ext w W)=>Values_calls d v vs s W (hF.ext h) hok (hs.ext h) h64)
 have HVB:=Lib.hid (fun W (h:Ext w W)=>Values_callsR d v vs s W (hF.ext h) hok (hs.ext h))
 have HVE:=Lib.hid (fun W (h:Ext w W)=>hV.ext h)
 have HWF:=Lib.hid hwf
 have HN:=Lib.hid hn
 obtain ⟨s0,rfl,hs0⟩:=hV
 obtain ⟨sv,pv,cv,rfl,hS,hP,hC⟩:=hF
 obtain ⟨av,bv,ov,capv,rfl,-,-,-,-⟩:=hs.open
 have x1:=ext_alloc w (.cells [sv,pv,cv].toArray 26)
 have x2:=ext_alloc (w.alloc (.cells [sv,pv,cv].toArray 26)) (.cells (e.cells s0).toArray 44)
 have hD:=(Blk.new w [sv,pv,cv].toArray 26).ext x2
 have hE:=Blk.new (w.alloc (.cells [sv,pv,cv].toArray 26)) (e.cells s0).toArray 44
 have hX:=x1.trans x2
 simp only [World.size_alloc] at hE
 clear x1 x2 hS hP hC hs h64 hok hwf hn hs0
 go_enter Tryz.func4,Tryz.ntmps4
 go_upto_region 1 with fail
 generalize (w.alloc _).alloc _=w0 at *
 have HD0:=Lib.hid hD
 have HE0:=Lib.hid hE
 have HX0:=Lib.hid hX
 clear hD hE hX
 go_upto_region 2 with (first | (go_at_call 17;refine (live10_calls _).mono ?_;rintro r w1 ⟨rfl,hx1⟩))
 have HD:=Lib.hid (HD0.out.ext hx1)
 have HE:=Lib.hid (HE0.out.ext hx1)
 have HX:=Lib.hid (HX0.out.trans hx1)
 clear hx1 HD0 HE0 HX0
 have d1:=HD.out.has
 have e1:=HE.out.has
 obtain ⟨q,hq⟩ : ∃ q,fewM d e=q:=⟨_,rfl⟩
 rw [hq] at HFW
 clear hq
 cases q
 ·go_wp2_with (first | ((with_reducible show wpList _ _ _ (⟨_,Op.load 26 _,_,_,_,_⟩ :: _) _ _);refine wpList_load_has rfl 26 _ rfl rfl (d1) agg_Flat rfl ?_) | ((with_reducible show wpList _ _ _ (⟨_,Op.load 44 _,_,_,_,_⟩ :: _) _ _);refine wpList_load_has rfl 44 _ rfl rfl (e1) agg_E rfl ?_) | (go_at_call 18;refine (HFW.out w1 HX.out).mono ?_;rintro r w2 ⟨rfl,hx2⟩))
  go_ret
  exact ⟨rfl,HX.out.trans hx2⟩
 by_cases hl:(600:Int) < (vs.length:Int)
 ·have bl:decide ((600:Int) < (vs.length:Int))=true:=decide_eq_true hl
  clear hl
  go_wp2_with (first | ((with_reducible show wpList _ _ _ (⟨_,Op.load 26 _,_,_,_,_⟩ :: _) _ _);refine wpList_load_has rfl 26 _ rfl rfl (d1) agg_Flat rfl ?_) | ((with_reducible show wpList _ _ _ (⟨_,Op.load 44 _,_,_,_,_⟩ :: _) _ _);refine wpList_load_has rfl 44 _ rfl rfl (e1) agg_E rfl ?_) | (go_at_call 18;refine (HFW.out w1 HX.out).mono ?_;rintro r w2 ⟨rfl,hx2⟩))
  go_ret
  exact ⟨rfl,HX.out.trans hx2⟩
 have bl:decide ((600:Int) < (vs.length:Int))=false:=decide_eq_false hl
 clear hl
 go_upto_region 4 with (first | ((with_reducible show wpList _ _ _ (⟨_,Op.load 26 _,_,_,_,_⟩ :: _) _ _);refine wpList_load_has rfl 26 _ rfl rfl (d1) agg_Flat rfl ?_) | ((with_reducible show wpList _ _ _ (⟨_,Op.load 44 _,_,_,_,_⟩ :: _) _ _);refine wpList_load_has rfl 44 _ rfl rfl (e1) agg_E rfl ?_) | (go_at_call 18;refine (HFW.out w1 HX.out).mono ?_;rintro r w2 ⟨rfl,hx2⟩))
 have HD2:=Lib.hid (HD.out.ext hx2)
 have HE2:=Lib.hid (HE.out.ext hx2)
 have HX2:=Lib.hid (HX.out.trans hx2)
 clear hx2 d1 e1 HD HE HX HFW
 have d2:=HD2.out.has
 have e2:=HE2.out.has
 have HEV1:=Lib.hid (HEV.out e _ w2 HX2.out (HVE.out w2 HX2.out) HWF.out HN.out)
 obtain ⟨a,ha⟩ : ∃ a,(evalM d vs e).1=a:=⟨_,rfl⟩
 obtain ⟨f,hf⟩ : ∃ f,(evalM d vs e).2=f:=⟨_,rfl⟩
 rw [ha,hf] at HEV1
 have HA:=Lib.hid ha
 have HFF:=Lib.hid hf
 clear ha hf
 go_upto_region 5 with (first | ((with_reducible show wpList _ _ _ (⟨_,Op.load 26 _,_,_,_,_⟩ :: _) _ _);refine wpList_load_has rfl 26 _ rfl rfl (d2) agg_Flat rfl ?_) | ((with_reducible show wpList _ _ _ (⟨_,Op.load 44 _,_,_,_,_⟩ :: _) _ _);refine wpList_load_has rfl 44 _ rfl rfl (e2) agg_E rfl ?_) | (go_at_call 19;refine (HEV1.out).mono ?_;rintro r w3 ⟨rfl,hx3⟩))
 have HD3:=Lib.hid (HD2.out.ext hx3)
 have HE3:=Lib.hid (HE2.out.ext hx3)
 have HX3:=Lib.hid (HX2.out.trans hx3)
 clear hx3 d2 e2 HD2 HE2 HX2 HEV1
 have d3:=HD3.out.has
 have e3:=HE3.out.has
 have HEV2:=Lib.hid (HEVR.out w3 HX3.out)
 rw [HA.out,HFF.out] at HEV2
 go_upto_region 6 with (first | ((with_reducible show wpList _ _ _ (⟨_,Op.load 26 _,_,_,_,_⟩ :: _) _ _);refine wpList_load_has rfl 26 _ rfl rfl (d3) agg_Flat rfl ?_) | ((with_reducible show wpList _ _ _ (⟨_,Op.load 44 _,_,_,_,_⟩ :: _) _ _);refine wpList_load_has rfl 44 _ rfl rfl (e3) agg_E rfl ?_) | (go_at_call 20;refine (HEV2.out).mono ?_;rintro r w4 ⟨rfl,hx4⟩))
 have HD4:=Lib.hid (HD3.out.ext hx4)
 have HX4:=Lib.hid (HX3.out.trans hx4)
 clear hx4 d3 e3 HD3 HE3 HX3 HEV2 HEVR HEV
 obtain ⟨q,hq⟩ : ∃ q:Int,(if valsOk d vs=true then 0 else 1)=q:=⟨_,rfl⟩
 rw [hq] at HVA HVB
 clear hq
 refine wp_region_held_drew (S:=fun W=>Ext w4 W) (by kernel_rfl) (Below.drew (Below.refl _ _)) (fun hHeld=>?_)
 try simp only [J]
 (refine Jt 0 (.bool true) rfl (yif_load1 rfl fun _ _=>rfl) hHeld ?_;try simp only [J])
 (refine Jt 1 (.bool true) rfl (yif_load1 rfl fun _ _=>rfl) hHeld ?_;try simp only [J])
 (refine Jt 2 (.int .u64 (a:Int)) rfl (yif_load1 rfl fun _ _=>rfl) hHeld ?_;try simp only [J])
 (refine Jt 3 (.int .u64 (a:Int)) rfl (yif_load1 rfl fun _ _=>rfl) hHeld ?_;try simp only [J])
 (refine Jt 4 (.bool true) rfl (yif_load1 rfl (by intro W hW;clear hW;go_simp)) hHeld ?_;try simp only [J])
 (refine Jt 5 (.bool true) rfl (yif_load1 rfl (by intro W hW;clear hW;go_simp)) hHeld ?_;try simp only [J])
 (refine Jt 6 (.bool true) rfl (yif_load1 rfl fun _ _=>rfl) hHeld ?_;try simp only [J])
 (refine Jt 7 (.int .i64 f) rfl (yif_load1 rfl fun _ _=>rfl) hHeld ?_;try simp only [J])
 (refine Jt 8 (.int .i64 f) rfl (yif_load1 rfl fun _ _=>rfl) hHeld ?_;try simp only [J])
 (refine Jt 9 (.bool true) rfl (yif_load1 rfl (by intro W hW;clear hW;go_simp)) hHeld ?_;try simp only [J])
 (refine Jt 10 (.bool true) rfl (yif_load1 rfl (by intro W hW;clear hW;go_simp)) hHeld ?_;try simp only [J])
 (refine Jt 11 (.bool true) rfl (yif_load1 rfl fun _ _=>rfl) hHeld ?_;try simp only [J])
 (refine Jt 12 (.agg [sv,pv,cv].toArray) rfl (yif_load rfl 26 _ rfl rfl (fun W hW=>(HD4.out.ext hW).has) agg_Flat rfl) hHeld ?_;try simp only [J])
 (refine Jt 13 (.slice av vs.length capv) rfl (yif_load1 rfl fun _ _=>rfl) hHeld ?_;try simp only [J])
 (refine Jt 15 (.agg [sv,pv,cv].toArray) rfl (yif_load rfl 26 _ rfl rfl (fun W hW=>(HD4.out.ext hW).has) agg_Flat rfl) hHeld ?_;try simp only [J])
 (refine Jt 16 (.slice av vs.length capv) rfl (yif_load1 rfl fun _ _=>rfl) hHeld ?_;try simp only [J])
 (refine wpAnyH_ready (rs:=[14]) (by kernel_rfl) (by simp) ?_;refine AllReadyH.cons rfl (fun K hK=>?_) AllReadyH.nil)
 rw [if_pos (by kernel_rfl)]
 go_simp
 refine (HVA.out _ (HX4.out.trans hHeld)).mono ?_
 rintro r w5 ⟨rfl,hx5⟩
 refine hK.out _ _ (hHeld.trans hx5) (fun hHeld=>?_)
 clear hK K hx5
 try simp only [J]
 (refine wpAnyH_ready (rs:=[17]) (by kernel_rfl) (by simp) ?_;refine AllReadyH.cons rfl (fun K hK=>?_) AllReadyH.nil)
 rw [if_pos (by kernel_rfl)]
 go_simp
 refine (HVB.out _ (HX4.out.trans hHeld)).mono ?_
 rintro r w6 ⟨rfl,hx6⟩
 refine hK.out _ _ (hHeld.trans hx6) (fun hHeld=>?_)
 clear hK K hx6
 try simp only [J]
 (refine Jt 18 (.bool true) rfl (yif_load1 rfl (by intro W hW;clear hW;go_simp)) hHeld ?_;try simp only [J])
 (refine Jt 19 (.bool true) rfl (yif_load1 rfl (by intro W hW;clear hW;go_simp)) hHeld ?_;try simp only [J])
 (refine Jt 20 (.bool true) rfl (yif_load1 rfl fun _ _=>rfl) hHeld ?_;try simp only [J])
 refine wpAnyH_done (by kernel_rfl) ?_ _
 have HX6:=Lib.hid (HX4.out.trans hHeld)
 clear hHeld
 go_wp2_with fail
 go_ret
 exact ⟨rfl,HX6.out⟩
open Go.RowKit
/-! ### from what is read to a design -/
section
variable {H:Type} {enc:TypeId × Value→H} {w:World}
theorem bulk_one (d:DataW H):1 ≤ Rows.uptoBulk d:=by
 cases d with
 | lit l=>cases l <;> simp [Rows.uptoBulk]
 | nil=>simp [Rows.uptoBulk]
 | ptr d=>simp [Rows.uptoBulk]
 | slice elems spare=>simp [Rows.uptoBulk]
 | agg parts=>simp [Rows.uptoBulk]
 | iface t d=>simp [Rows.uptoBulk]
 | map entries=>simp [Rows.uptoBulk]
 | held h=>simp [Rows.uptoBulk]
theorem has_of_cells {a:Addr} {n:Nat} {cs:List Value} (h:w.cells? 0 a n=some cs) (hn:0 < n):∃ b o,a=⟨b,o,none⟩∧cs.length=n∧Has w b o cs:=by
 obtain ⟨-,hl,hc⟩:=World.cells?_some h
 obtain ⟨b,o,spot⟩:=a
 obtain ⟨v,hv⟩ : ∃ v,cs[0]? = some v:=⟨_,List.getElem?_eq_getElem (by omega)⟩
 have h0:=hc 0 hn
 rw [hv] at h0
 have hspot:spot=none:=by simpa [Addr.add] using World.cell?_spot h0
 subst hspot
 refine ⟨b,o,rfl,hl,fun j u hj=>?_⟩
 have hlt:=(List.getElem?_eq_some_iff.1 hj).1
 rw [← hj,← hc j (by omega),Go.WideShapes.add_plain]
theorem lift_rows {α : Type} {size n:Nat} {e:TypeId} {At : α→Nat→Nat→Prop} {ok : α→Prop} {ms : α→Nat} {b:Nat}
  (hE:∀ cs x o,Has w b o cs→DataW.trod enc Tryz.prog w 0 (fun _=>true) true n e cs=some x→∃ y,At y b o∧ok y∧ms y ≤ Rows.uptoBulk x.1) (elems:List (DataW H × List MemPlace)) :
  ∀ o,(∀ i (hi:i < elems.length),∃ cs,Has w b (o + i * size) cs∧DataW.trod enc Tryz.prog w 0 (fun _=>true) true n e cs=some elems[i])→∃ l:List α,l.length=elems.length∧Rows size At l b o∧(∀ y ∈ l,ok y)∧sumBy ms l ≤ Rows.uptoBulkAll (elems.map (·.1)):=by
 induction elems with
 | nil=>intro o _;exact ⟨[],rfl,trivial,by simp,by simp [sumBy]⟩
 | cons x elems ih =>
  intro o h
  obtain ⟨cs,h1,h2⟩:=h 0 (by simp)
  simp only [Nat.zero_mul,Nat.add_zero,Jb] at h1 h2
  obtain ⟨y,q1,q2,q3⟩:=hE cs x o h1 h2
  obtain ⟨l,r1,r2,r3,r4⟩:=ih (o + size) fun i hi=>by
   obtain ⟨cs',h3,h4⟩:=h (i + 1) (by simpa using hi)
   refine ⟨cs',?_,by simpa using h4⟩
   rw [show o + size + i * size=o + (i + 1) * size by rw [Nat.add_mul];omega]
   exact h3
  refine ⟨y :: l,by simp [r1],⟨q1,r2⟩,?_,?_⟩
  ·intro z hz
   rcases List.mem_cons.1 hz with e | hz
   ·rw [e];exact q2
   ·exact r3 z hz
  ·simp only [sumBy,List.map_cons,Rows.uptoBulkAll];omega
set_option maxRecDepth 100000 in
theorem lift_slice {α : Type} {size:Nat} {t e:TypeId} (ht:Tryz.prog.underlying t=some (.slice e)) (hc:Tryz.prog.cellsOf e=size) (hs:0 < size) {At : α→Nat→Nat→Prop} {ok : α→Prop} {ms : α→Nat} {m:Nat} {cs:List Value} {x:DataW H × List MemPlace} (h:DataW.trod enc Tryz.prog w 0 (fun _=>true) true m t cs=some x)
  (hE:∀ n,n < m→∀ cs x b o,Has w b o cs→DataW.trod enc Tryz.prog w 0 (fun _=>true) true n e cs=some x→∃ y,At y b o∧ok y∧ms y ≤ Rows.uptoBulk x.1) :
  ∃ s l,cs=[s]∧Sl size At s l∧(∀ y ∈ l,ok y)∧sumBy ms l + 1 ≤ Rows.uptoBulk x.1∧l.length + 1 ≤ Rows.uptoBulk x.1:=by
 rcases DataW.trod_slice ht h with ⟨rfl,rfl⟩ | ⟨a,len,cap,elems,rest,n,rfl,rfl,rfl,-,hlc,hcm,hel,hes,-⟩
 ·exact ⟨_,[],rfl,Sl.nil _ _,by simp,by simp [sumBy,Rows.uptoBulk],by simp [Rows.uptoBulk]⟩
 ·rw [hc] at hes
  by_cases h0:0 < len
  ·obtain ⟨b,o,ha⟩ : ∃ b o,a=⟨b,o,none⟩:=by
    have:=hes 0 h0
    rw [List.getElem?_eq_getElem (by omega)] at this
    obtain ⟨cs,q1,-⟩:=Option.bind_eq_some_iff.1 this
    obtain ⟨b,o,q2,-⟩:=has_of_cells q1 hs
    refine ⟨b,o,?_⟩
    rw [Nat.zero_mul] at q2
    obtain ⟨ab,ao,as'⟩:=a
    unfold Addr.add at q2
    split at q2 <;> simp_all
   subst ha
   obtain ⟨l,r1,r2,r3,r4⟩:=lift_rows (size:=size) (fun cs x o=>hE n (by omega) cs x b o) elems o fun i hi=>by
    have:=hes i (by omega)
    rw [List.getElem?_eq_getElem hi] at this
    obtain ⟨cs,q1,q2⟩:=Option.bind_eq_some_iff.1 this
    rw [Go.WideShapes.add_plain] at q1
    obtain ⟨b',o',q3,-,q4⟩:=has_of_cells q1 hs
    injection q3 with e1 e2
    subst e1;subst e2
    exact ⟨cs,q4,q2⟩
   refine ⟨_,l,rfl,⟨b,o,⟨_,cap,by rw [r1,hel],by omega,by simpa using hcm,fun _=>rfl⟩,r2⟩,r3,?_,?_⟩
   ·simp only [Rows.uptoBulk];omega
   ·simp only [Rows.uptoBulk]
    have:∀ l:List (DataW H),l.length ≤ Rows.uptoBulkAll l:=by
     intro l
     induction l with
     | nil=>simp [Rows.uptoBulkAll]
     | cons x r ih=>have:=bulk_one x;simp only [Rows.uptoBulkAll,List.length_cons];omega
    have h2:=this (elems.map (·.1))
    simp only [List.length_map] at h2
    omega
  ·obtain rfl:len=0:=by omega
   exact ⟨_,[],rfl,⟨0,0,⟨_,cap,rfl,Nat.zero_le _,by simpa using hcm,fun h=>by simp at h⟩,trivial⟩,by simp,by simp [sumBy,Rows.uptoBulk],by simp [Rows.uptoBulk]⟩
theorem lift_int {m:Nat} {cs:List Value} {x:DataW H × List MemPlace} (h:DataW.trod enc Tryz.prog w 0 (fun _=>true) true m 3 cs=some x):∃ n,cs=[.int .i64 n]∧i64r n:=by
 obtain ⟨n,rfl,-,hw⟩:=DataW.trod_int Tryz.underlying3 h
 exact ⟨n,rfl,bounds_i64 hw⟩
theorem lift_u64 {m:Nat} {cs:List Value} {x:DataW H × List MemPlace} (h:DataW.trod enc Tryz.prog w 0 (fun _=>true) true m 34 cs=some x):∃ n,cs=[.int .u64 n]∧u64r n:=by
 obtain ⟨n,rfl,-,hw⟩:=DataW.trod_int Tryz.underlying34 h
 exact ⟨n,rfl,bounds_u64 hw⟩
theorem lift_str {m:Nat} {cs:List Value} {x:DataW H × List MemPlace} (h:DataW.trod enc Tryz.prog w 0 (fun _=>true) true m 9 cs=some x):∃ n,cs=[.string n]∧n.size ≤ 9223372036854775807:=by
 obtain ⟨n,rfl,-,hw⟩:=DataW.trod_string Tryz.underlying9 h
 exact ⟨n,rfl,by simpa [maxLen] using hw⟩
theorem cells_int:Tryz.prog.cellsOf 3=1:=by kernel_rfl
theorem cells_u64:Tryz.prog.cellsOf 34=1:=by kernel_rfl
theorem cells_str:Tryz.prog.cellsOf 9=1:=by kernel_rfl
theorem cells_bool:Tryz.prog.cellsOf 4=1:=by kernel_rfl
theorem cells_E:Tryz.prog.cellsOf 44=8:=by kernel_rfl
theorem cells_T:Tryz.prog.cellsOf 99=6:=by kernel_rfl
theorem cells_Sig:Tryz.prog.cellsOf 36=4:=by kernel_rfl
theorem cells_Proc:Tryz.prog.cellsOf 39=2:=by kernel_rfl
theorem cells_Chk:Tryz.prog.cellsOf 135=9:=by kernel_rfl
theorem cells_Flat:Tryz.prog.cellsOf 26=3:=by kernel_rfl
theorem cells_sE:Tryz.prog.cellsOf 42=1:=by kernel_rfl
theorem cells_sT:Tryz.prog.cellsOf 37=1:=by kernel_rfl
theorem cells_sSig:Tryz.prog.cellsOf 22=1:=by kernel_rfl
theorem cells_sProc:Tryz.prog.cellsOf 23=1:=by kernel_rfl
theorem cells_sChk:Tryz.prog.cellsOf 24=1:=by kernel_rfl
set_option maxRecDepth 100000 in
theorem lift_E (m:Nat):∀ cs x,DataW.trod enc Tryz.prog w 0 (fun _=>true) true m 44 cs=some x→∃ (e:E) (s:Value),cs=e.cells s∧Es w s e.l∧e.wf∧nodes e ≤ Rows.uptoBulk x.1:=by
 induction m using Nat.strongRecOn with
 | ind m ih =>
  intro cs x h
  obtain ⟨xs,n,rfl,rfl,hl,hxl,hf⟩:=DataW.trod_struct Tryz.underlying44 h
  rw [cells_E] at hl
  obtain ⟨c0,c1,c2,c3,c4,c5,c6,c7,rfl⟩ : ∃ c0 c1 c2 c3 c4 c5 c6 c7,cs=[c0,c1,c2,c3,c4,c5,c6,c7]:=by
   match cs,hl with
   | [c0,c1,c2,c3,c4,c5,c6,c7],_=>exact ⟨_,_,_,_,_,_,_,_,rfl⟩
  obtain ⟨x0,x1,x2,x3,x4,x5,x6,x7,rfl⟩ : ∃ x0 x1 x2 x3 x4 x5 x6 x7,xs=[x0,x1,x2,x3,x4,x5,x6,x7]:=by
   match xs,hxl with
   | [x0,x1,x2,x3,x4,x5,x6,x7],_=>exact ⟨_,_,_,_,_,_,_,_,rfl⟩
  have f0:=hf 0 _ rfl
  have f1:=hf 1 _ rfl
  have f2:=hf 2 _ rfl
  have f3:=hf 3 _ rfl
  have f4:=hf 4 _ rfl
  have f5:=hf 5 _ rfl
  have f6:=hf 6 _ rfl
  have f7:=hf 7 _ rfl
  simp only [cells_int,cells_u64,cells_sE,List.drop_zero,List.drop_succ_cons,List.take_succ_cons,List.take_zero,List.getElem?_cons_zero,List.getElem?_cons_succ] at f0 f1 f2 f3 f4 f5 f6 f7
  obtain ⟨n0,e0,w0⟩:=lift_int f0
  obtain ⟨n1,e1,w1⟩:=lift_int f1
  obtain ⟨n2,e2,w2⟩:=lift_u64 f2
  obtain ⟨n3,e3,w3⟩:=lift_int f3
  obtain ⟨n4,e4,w4⟩:=lift_int f4
  obtain ⟨n5,e5,w5⟩:=lift_int f5
  obtain ⟨n6,e6,w6⟩:=lift_int f6
  obtain ⟨s,l,e7,hsl,hok,hsum,-⟩:=lift_slice (At:=EAt w) (ok:=E.wf) (ms:=nodes) Tryz.underlying42 cells_E (by decide) f7 (fun k hk cs x b o hh hx=>by
   obtain ⟨e,s,rfl,q1,q2,q3⟩:=ih k (by omega) cs x hx
   exact ⟨e,EAt_iff.2 ⟨s,hh,q1⟩,q2,q3⟩)
  injection e0 with e0;injection e1 with e1;injection e2 with e2;injection e3 with e3;injection e4 with e4;injection e5 with e5;injection e6 with e6;injection e7 with e7
  subst e0;subst e1;subst e2;subst e3;subst e4;subst e5;subst e6;subst e7
  refine ⟨⟨n0,n1,n2,n3,n4,n5,n6,l⟩,_,rfl,hsl,(E.wf_iff _).2 ⟨w0,w1,w2,w3,w4,w5,w6,hok⟩,?_⟩
  rw [nodes_eq]
  simp only [Rows.uptoBulk,Rows.uptoBulkAll,List.map_cons,List.map_nil]
  omega
set_option maxRecDepth 100000 in
theorem lift_T (m:Nat):∀ cs x,DataW.trod enc Tryz.prog w 0 (fun _=>true) true m 99 cs=some x→∃ (t:T) (s s':Value),cs=t.cells s s'∧Es w s t.e∧Ts w s' t.l∧t.wf∧nodesT t ≤ Rows.uptoBulk x.1:=by
 induction m using Nat.strongRecOn with
 | ind m ih =>
  intro cs x h
  obtain ⟨xs,n,rfl,rfl,hl,hxl,hf⟩:=DataW.trod_struct Tryz.underlying99 h
  rw [cells_T] at hl
  obtain ⟨c0,c1,c2,c3,c4,c5,rfl⟩ : ∃ c0 c1 c2 c3 c4 c5,cs=[c0,c1,c2,c3,c4,c5]:=by
   match cs,hl with
   | [c0,c1,c2,c3,c4,c5],_=>exact ⟨_,_,_,_,_,_,rfl⟩
  obtain ⟨x0,x1,x2,x3,x4,x5,rfl⟩ : ∃ x0 x1 x2 x3 x4 x5,xs=[x0,x1,x2,x3,x4,x5]:=by
   match xs,hxl with
   | [x0,x1,x2,x3,x4,x5],_=>exact ⟨_,_,_,_,_,_,rfl⟩
  have f0:=hf 0 _ rfl
  have f1:=hf 1 _ rfl
  have f2:=hf 2 _ rfl
  have f3:=hf 3 _ rfl
  have f4:=hf 4 _ rfl
  have f5:=hf 5 _ rfl
  simp only [cells_int,cells_sE,cells_sT,List.drop_zero,List.drop_succ_cons,List.take_succ_cons,List.take_zero,List.getElem?_cons_zero,List.getElem?_cons_succ] at f0 f1 f2 f3 f4 f5
  obtain ⟨n0,e0,w0⟩:=lift_int f0
  obtain ⟨n1,e1,w1⟩:=lift_int f1
  obtain ⟨n2,e2,w2⟩:=lift_int f2
  obtain ⟨n3,e3,w3⟩:=lift_int f3
  obtain ⟨s4,l4,e4,hs4,hok4,hsum4,-⟩:=lift_slice (At:=EAt w) (ok:=E.wf) (ms:=nodes) Tryz.underlying42 cells_E (by decide) f4 (fun k hk cs x b o hh hx=>by
   obtain ⟨e,s,rfl,q1,q2,q3⟩:=lift_E k cs x hx
   exact ⟨e,EAt_iff.2 ⟨s,hh,q1⟩,q2,q3⟩)
  obtain ⟨s5,l5,e5,hs5,hok5,hsum5,-⟩:=lift_slice (At:=TAt w) (ok:=T.wf) (ms:=nodesT) Tryz.underlying37 cells_T (by decide) f5 (fun k hk cs x b o hh hx=>by
   obtain ⟨t,s,s',rfl,q1,q2,q3,q4⟩:=ih k (by omega) cs x hx
   exact ⟨t,TAt_iff.2 ⟨s,s',hh,q1,q2⟩,q3,q4⟩)
  injection e0 with e0;injection e1 with e1;injection e2 with e2;injection e3 with e3;injection e4 with e4;injection e5 with e5
  subst e0;subst e1;subst e2;subst e3;subst e4;subst e5
  refine ⟨⟨n0,n1,n2,n3,l4,l5⟩,_,_,rfl,hs4,hs5,(T.wf_iff _).2 ⟨w0,w1,w2,w3,hok4,hok5⟩,?_⟩
  rw [nodesT_eq]
  simp only [Rows.uptoBulk,Rows.uptoBulkAll,List.map_cons,List.map_nil]
  omega
set_option maxRecDepth 100000 in
theorem lift_Sig (m:Nat):∀ cs x,DataW.trod enc Tryz.prog w 0 (fun _=>true) true m 36 cs=some x→∃ y:Signal,cs=y.cells∧y.wf:=by
 intro cs x h
 obtain ⟨xs,n,rfl,rfl,hl,hxl,hf⟩:=DataW.trod_struct Tryz.underlying36 h
 rw [cells_Sig] at hl
 obtain ⟨c0,c1,c2,c3,rfl⟩ : ∃ c0 c1 c2 c3,cs=[c0,c1,c2,c3]:=by
  match cs,hl with
  | [c0,c1,c2,c3],_=>exact ⟨_,_,_,_,rfl⟩
 obtain ⟨x0,x1,x2,x3,rfl⟩ : ∃ x0 x1 x2 x3,xs=[x0,x1,x2,x3]:=by
  match xs,hxl with
  | [x0,x1,x2,x3],_=>exact ⟨_,_,_,_,rfl⟩
 have f0:=hf 0 _ rfl
 have f1:=hf 1 _ rfl
 have f2:=hf 2 _ rfl
 have f3:=hf 3 _ rfl
 simp only [cells_int,cells_u64,cells_str,List.drop_zero,List.drop_succ_cons,List.take_succ_cons,List.take_zero,List.getElem?_cons_zero,List.getElem?_cons_succ] at f0 f1 f2 f3
 obtain ⟨n0,e0,w0⟩:=lift_str f0
 obtain ⟨n1,e1,w1⟩:=lift_int f1
 obtain ⟨n2,e2,w2⟩:=lift_int f2
 obtain ⟨n3,e3,w3⟩:=lift_u64 f3
 injection e0 with e0;injection e1 with e1;injection e2 with e2;injection e3 with e3
 subst e0;subst e1;subst e2;subst e3
 exact ⟨⟨n0,n1,n2,n3⟩,rfl,w1,w2,w3,w0⟩
set_option maxRecDepth 100000 in
theorem lift_Proc (m:Nat):∀ cs x,DataW.trod enc Tryz.prog w 0 (fun _=>true) true m 39 cs=some x→∃ (y:Proc) (s:Value),cs=y.cells s∧Ts w s y.l∧(∀ t ∈ y.l,t.wf)∧sumBy nodesT y.l ≤ Rows.uptoBulk x.1:=by
 intro cs x h
 obtain ⟨xs,n,rfl,rfl,hl,hxl,hf⟩:=DataW.trod_struct Tryz.underlying39 h
 rw [cells_Proc] at hl
 obtain ⟨c0,c1,rfl⟩ : ∃ c0 c1,cs=[c0,c1]:=by
  match cs,hl with
  | [c0,c1],_=>exact ⟨_,_,rfl⟩
 obtain ⟨x0,x1,rfl⟩ : ∃ x0 x1,xs=[x0,x1]:=by
  match xs,hxl with
  | [x0,x1],_=>exact ⟨_,_,rfl⟩
 have f0:=hf 0 _ rfl
 have f1:=hf 1 _ rfl
 simp only [cells_bool,cells_sT,List.drop_zero,List.drop_succ_cons,List.take_succ_cons,List.take_zero,List.getElem?_cons_zero,List.getElem?_cons_succ] at f0 f1
 obtain ⟨b0,e0,-⟩:=DataW.trod_bool Tryz.underlying4 f0
 obtain ⟨s1,l1,e1,hs1,hok1,hsum1,-⟩:=lift_slice (At:=TAt w) (ok:=T.wf) (ms:=nodesT) Tryz.underlying37 cells_T (by decide) f1 (fun k hk cs x b o hh hx=>by
  obtain ⟨t,s,s',rfl,q1,q2,q3,q4⟩:=lift_T k cs x hx
  exact ⟨t,TAt_iff.2 ⟨s,s',hh,q1,q2⟩,q3,q4⟩)
 injection e0 with e0;injection e1 with e1
 subst e0;subst e1
 refine ⟨⟨b0,l1⟩,_,rfl,hs1,hok1,?_⟩
 simp only [Rows.uptoBulk,Rows.uptoBulkAll,List.map_cons,List.map_nil]
 omega
set_option maxRecDepth 100000 in
theorem lift_Chk (m:Nat):∀ cs x,DataW.trod enc Tryz.prog w 0 (fun _=>true) true m 135 cs=some x→∃ (y:Chk) (s:Value),cs=y.cells s∧Es w s y.e.l∧y.e.wf∧nodes y.e ≤ Rows.uptoBulk x.1:=by
 intro cs x h
 obtain ⟨xs,n,rfl,rfl,hl,hxl,hf⟩:=DataW.trod_struct Tryz.underlying135 h
 rw [cells_Chk] at hl
 obtain ⟨c0,r,rfl⟩ : ∃ c0 r,cs=c0 :: r:=by
  match cs,hl with
  | c0 :: r,_=>exact ⟨_,_,rfl⟩
 obtain ⟨x0,x1,rfl⟩ : ∃ x0 x1,xs=[x0,x1]:=by
  match xs,hxl with
  | [x0,x1],_=>exact ⟨_,_,rfl⟩
 have f0:=hf 0 _ rfl
 have f1:DataW.trod enc Tryz.prog w 0 (fun _=>true) true n 44 ((List.drop 1 (c0 :: r)).take (Tryz.prog.cellsOf 44))=some x1:=hf 1 _ rfl
 simp only [cells_str,List.drop_zero,List.take_succ_cons,List.take_zero,List.getElem?_cons_zero] at f0
 rw [cells_E,List.drop_succ_cons,List.drop_zero,List.take_of_length_le (by simp only [List.length_cons] at hl;omega)] at f1
 obtain ⟨n0,e0,w0⟩:=lift_str f0
 obtain ⟨e,s,rfl,q1,q2,q3⟩:=lift_E _ _ _ f1
 injection e0 with e0
 subst e0
 refine ⟨⟨n0,e⟩,s,rfl,q1,q2,?_⟩
 simp only [Rows.uptoBulk,Rows.uptoBulkAll,List.map_cons,List.map_nil]
 omega
set_option maxRecDepth 100000 in
theorem lift_Flat (m:Nat):∀ cs x,DataW.trod enc Tryz.prog w 0 (fun _=>true) true m 26 cs=some x→Rows.uptoBulk x.1 ≤ 1048576→∃ d:Flat,FlatV w (.agg cs.toArray) d∧d.ok:=by
 intro cs x h hk
 obtain ⟨xs,n,rfl,rfl,hl,hxl,hf⟩:=DataW.trod_struct Tryz.underlying26 h
 rw [cells_Flat] at hl
 obtain ⟨c0,c1,c2,rfl⟩ : ∃ c0 c1 c2,cs=[c0,c1,c2]:=by
  match cs,hl with
  | [c0,c1,c2],_=>exact ⟨_,_,_,rfl⟩
 obtain ⟨x0,x1,x2,rfl⟩ : ∃ x0 x1 x2,xs=[x0,x1,x2]:=by
  match xs,hxl with
  | [x0,x1,x2],_=>exact ⟨_,_,_,rfl⟩
 have f0:=hf 0 _ rfl
 have f1:=hf 1 _ rfl
 have f2:=hf 2 _ rfl
 simp only [cells_sSig,cells_sProc,cells_sChk,List.drop_zero,List.drop_succ_cons,List.take_succ_cons,List.take_zero,List.getElem?_cons_zero,List.getElem?_cons_succ] at f0 f1 f2
 obtain ⟨s0,l0,e0,hs0,hok0,-,hln0⟩:=lift_slice (At:=SigAt w) (ok:=Signal.wf) (ms:=fun _=>0) Tryz.underlying22 cells_Sig (by decide) f0 (fun k hk cs x b o hh hx=>by
  obtain ⟨y,rfl,q1⟩:=lift_Sig k cs x hx
  exact ⟨y,hh,q1,Nat.zero_le _⟩)
 obtain ⟨s1,l1,e1,hs1,hok1,hsum1,hln1⟩:=lift_slice (At:=ProcAt w) (ok:=fun y:Proc=>∀ t ∈ y.l,t.wf) (ms:=fun y=>sumBy nodesT y.l) Tryz.underlying23 cells_Proc (by decide) f1 (fun k hk cs x b o hh hx=>by
  obtain ⟨y,s,rfl,q1,q2,q3⟩:=lift_Proc k cs x hx
  exact ⟨y,⟨s,hh,q1⟩,q2,q3⟩)
 obtain ⟨s2,l2,e2,hs2,hok2,hsum2,hln2⟩:=lift_slice (At:=ChkAt w) (ok:=fun y:Chk=>y.e.wf) (ms:=fun y=>nodes y.e) Tryz.underlying24 cells_Chk (by decide) f2 (fun k hk cs x b o hh hx=>by
  obtain ⟨y,s,rfl,q1,q2,q3⟩:=lift_Chk k cs x hx
  exact ⟨y,⟨s,hh,q1⟩,q2,q3⟩)
 injection e0 with e0;injection e1 with e1;injection e2 with e2
 subst e0;subst e1;subst e2
 simp only [Rows.uptoBulk,Rows.uptoBulkAll,List.map_cons,List.map_nil] at hk
 refine ⟨⟨l0,l1,l2⟩,⟨_,_,_,rfl,hs0,hs1,hs2⟩,⟨⟨hok0,hok1,hok2⟩,?_,?_,?_,?_⟩⟩
 ·rw [mNodes_eq];omega
 all_goals (simp only;omega)
end
end Go.Proofs.YtemabheegnngdaaGreat
