/- Laws and walks that a claim of this seat leans on: RefX, R10f. -/
import Derived.Test.YtemabheegnngdaaGreatV18
import Derived.Test.YtemabheegnngdaaGreatV23
import Derived.Test.YtemabheegnngdaaGreatV24
import Derived.Test.YtemabheegnngdaaGreatV20
import Derived.Test.YtemabheegnngdaaGreatV26
import Derived.Test.YtemabheegnngdaaGreatVRef17
import Derived.Test.YtemabheegnngdaaGreatV00
set_option linter.all false
namespace Go.Proofs.YtemabheegnngdaaGreat
open Go.RowKit
set_option maxRecDepth 100000 in
set_option maxHeartbeats 2000000 in
theorem Expr_callsR (d:Flat) (v:Value) (e:E) (want:Int) (cs:List Value) (w:World) (hF:FlatV w v d) (hok:d.ok) (hV:VE w cs e) (hwf:e.wf) (hn:nodes e ≤ 1048576) :
  Calls Tryz.prog 64 #[v,.agg cs.toArray,.int .i64 want] w (ExprP w (exprM d.signals e want)):=by
 obtain ⟨sv,pv,cv,rfl,hS,hP,hC⟩:=hF
 obtain ⟨s,rfl,hs⟩:=hV
 have x1:=ext_alloc w (.cells [sv,pv,cv].toArray 26)
 have x2:=ext_alloc (w.alloc (.cells [sv,pv,cv].toArray 26)) (.cells (e.cells s).toArray 44)
 have x3:=ext_alloc ((w.alloc (.cells [sv,pv,cv].toArray 26)).alloc (.cells (e.cells s).toArray 44)) (.cells zeroE.toArray 44)
 have hD:=((Blk.new w [sv,pv,cv].toArray 26).ext x2).ext x3
 have hE:=(Blk.new (w.alloc (.cells [sv,pv,cv].toArray 26)) (e.cells s).toArray 44).ext x3
 have hR:=Blk.new ((w.alloc (.cells [sv,pv,cv].toArray 26)).alloc (.cells (e.cells s).toArray 44)) zeroE.toArray 44
 have HX:=(x1.trans x2).trans x3
 simp only [World.size_alloc] at hE hR
 clear x1 x2 x3
 have HSV:=Lib.hid (fun W (h:Ext w W)=>Signals_callsR d.signals sv W (hS.ext h) hok.signals)
 have HSH:=Lib.hid (fun W (h:Ext w W)=>Shape_callsR d.signals e sv (e.cells s) W (hS.ext h) ⟨s,rfl,hs.ext h⟩ hwf)
 have HND:=Lib.hid (fun W (h:Ext w W)=>Nodes_calls e s W (hs.ext h) hn)
 have HDP:=Lib.hid (fun W (h:Ext w W)=>Deep_calls e s W (hs.ext h) (Nat.le_trans (deep_le_nodes e) hn))
 have HVX:=Lib.hid (fun W (h:Ext w W)=>show VE W (e.cells s) e from ⟨s,rfl,hs.ext h⟩)
 have HWF:=Lib.hid hwf
 have HN:=Lib.hid hn
 obtain ⟨a0,b0,o0,c0,rfl,-,-,-,-⟩:=hS.open
 obtain ⟨ap,bp,op,cp,rfl,-,-,-,-⟩:=hP.open
 obtain ⟨ac,bc,oc,cc,rfl,-,-,-,-⟩:=hC.open
 clear hS hP hC hs hok hwf hn
 obtain ⟨OUT,hout⟩ : ∃ o,exprM d.signals e want=o:=⟨_,rfl⟩
 have HOUT:=Lib.hid hout
 rw [hout]
 clear hout
 obtain ⟨sg,hsg⟩ : ∃ s,sigsOk [[]] d.signals=s:=⟨_,rfl⟩
 obtain ⟨p,hp⟩ : ∃ p,shape d.signals e=p:=⟨_,rfl⟩
 have HEB:=Lib.hid (show exprBad d.signals e want=(!sg || decide (want < 0) || decide (64 < want) || !p) by unfold exprBad;rw [hsg,hp])
 have HSG:=Lib.hid hsg
 have HPP:=Lib.hid hp
 rw [hsg] at HSV
 rw [hp] at HSH
 clear hsg hp
 go_enter Tryz.func64,Tryz.ntmps64
 go_upto_region 1 with fail
 generalize ((w.alloc _).alloc _).alloc _=w0 at *
 have HD:=Lib.hid hD
 have HE:=Lib.hid hE
 have HR:=Lib.hid hR
 have HXX:=Lib.hid HX
 have g0:=hD.has 0 _ rfl
 clear hD hE hR HX
 have hbad:exprBad d.signals e want=true→OUT=.error 1:=fun h=>by
  have ho:=HOUT.out
  unfold exprM at ho
  rw [h,if_pos rfl] at ho
  exact ho.symm
 have HBAD:=Lib.hid hbad
 clear hbad
 cases sg
 ·obtain rfl:=HBAD.out (by rw [HEB.out];rfl)
  go_wp2_with (first | (go_at_call 109;refine (HSV.out w0 HXX.out).mono ?_;rintro r w1 ⟨rfl,hx1⟩) | ((with_reducible show Jw (Op.store 44 _ _));refine wpList_store_blk rfl 44 _ _ rfl (HR.out.ext hx1) rfl (cs:=zeroE) (rfl) agg_E (rfl) rfl (rfl) ?_;intro w4 hb4 hg4) | ((with_reducible show bodyPost _ _ _ _ _ _);refine Hid.out ?_))
  refine Lib.hid ?_
  refine post_ret_blk2 rfl rfl rfl hb4.has agg_E rfl rfl (.inl ⟨1,rfl,by decide,rfl,(HXX.out.trans hx1).grown hg4 (by omega)⟩)
 by_cases c1:want < 0
 ·obtain rfl:=HBAD.out (by rw [HEB.out,decide_eq_true c1];rfl)
  go_wp2_with (first | (go_at_call 109;refine (HSV.out w0 HXX.out).mono ?_;rintro r w1 ⟨rfl,hx1⟩) | ((with_reducible show Jw (Op.store 44 _ _));refine wpList_store_blk rfl 44 _ _ rfl (HR.out.ext hx1) rfl (cs:=zeroE) (rfl) agg_E (rfl) rfl (rfl) ?_;intro w4 hb4 hg4) | ((with_reducible show bodyPost _ _ _ _ _ _);refine Hid.out ?_))
  refine Lib.hid ?_
  refine post_ret_blk2 rfl rfl rfl hb4.has agg_E rfl rfl (.inl ⟨1,rfl,by decide,rfl,(HXX.out.trans hx1).grown hg4 (by omega)⟩)
 by_cases c2:64 < want
 ·obtain rfl:=HBAD.out (by rw [HEB.out,decide_eq_true c2];simp)
  go_wp2_with (first | (go_at_call 109;refine (HSV.out w0 HXX.out).mono ?_;rintro r w1 ⟨rfl,hx1⟩) | ((with_reducible show Jw (Op.store 44 _ _));refine wpList_store_blk rfl 44 _ _ rfl (HR.out.ext hx1) rfl (cs:=zeroE) (rfl) agg_E (rfl) rfl (rfl) ?_;intro w4 hb4 hg4) | ((with_reducible show bodyPost _ _ _ _ _ _);refine Hid.out ?_))
  refine Lib.hid ?_
  refine post_ret_blk2 rfl rfl rfl hb4.has agg_E rfl rfl (.inl ⟨1,rfl,by decide,rfl,(HXX.out.trans hx1).grown hg4 (by omega)⟩)
 have b1:decide (want < 0)=false:=decide_eq_false c1
 have b2:decide (64 < want)=false:=decide_eq_false c2
 have HWN:=Lib.hid (show 0 ≤ want∧want ≤ 64 by omega)
 clear c1 c2
 cases p
 ·obtain rfl:=HBAD.out (by rw [HEB.out,b1,b2];rfl)
  go_wp2_with (first | (go_at_call 109;refine (HSV.out w0 HXX.out).mono ?_;rintro r w1 ⟨rfl,hx1⟩;have g1:=(HD.out.ext hx1).has 0 _ rfl;have k1:=(HE.out.ext hx1).has) | ((with_reducible show Jw (Op.load 44 _));refine wpList_load_has rfl 44 _ rfl rfl (k1) agg_E rfl ?_) | (go_at_call 110;refine (HSH.out _ (HXX.out.trans hx1)).mono ?_;rintro r w2 ⟨rfl,hx2⟩) | ((with_reducible show Jw (Op.store 44 _ _));refine wpList_store_blk rfl 44 _ _ rfl (HR.out.ext (hx1.trans hx2)) rfl (cs:=zeroE) (rfl) agg_E (rfl) rfl (rfl) ?_;intro w4 hb4 hg4) | ((with_reducible show bodyPost _ _ _ _ _ _);refine Hid.out ?_))
  refine Lib.hid ?_
  refine post_ret_blk2 rfl rfl rfl hb4.has agg_E rfl rfl (.inl ⟨1,rfl,by decide,rfl,(HXX.out.trans (hx1.trans hx2)).grown hg4 (by omega)⟩)
 have HGB:=Lib.hid (show exprBad d.signals e want=false by rw [HEB.out,b1,b2];rfl)
 go_upto_region 3 with (first | (go_at_call 109;refine (HSV.out w0 HXX.out).mono ?_;rintro r w1 ⟨rfl,hx1⟩;have g1:=(HD.out.ext hx1).has 0 _ rfl;have k1:=(HE.out.ext hx1).has) | ((with_reducible show Jw (Op.load 44 _));refine wpList_load_has rfl 44 _ rfl rfl (k1) agg_E rfl ?_) | (go_at_call 110;refine (HSH.out _ (HXX.out.trans hx1)).mono ?_;rintro r w2 ⟨rfl,hx2⟩))
 have HX2:=Lib.hid (hx1.trans hx2)
 have HE2:=Lib.hid (HE.out.ext HX2.out)
 have HR2:=Lib.hid (HR.out.ext HX2.out)
 have HXA:=Lib.hid (HXX.out.trans HX2.out)
 clear hx1 hx2 g0 g1 k1
 have k2:=HE2.out.has
 have hbig:(decide (nodes e ≤ 65536) && decide (deep e ≤ 64))=false→OUT=.error 2:=fun h=>by
  have ho:=HOUT.out
  unfold exprM at ho
  rw [HGB.out,if_neg (by simp),if_pos h] at ho
  exact ho.symm
 have hgood:nodes e ≤ 65536→deep e ≤ 64→OUT=sizeE e want:=fun h h'=>by
  have ho:=HOUT.out
  unfold exprM at ho
  rw [HGB.out,if_neg (by simp),decide_eq_true h,decide_eq_true h',if_neg (by simp)] at ho
  exact ho.symm
 have HBIG:=Lib.hid hbig
 have HGOOD:=Lib.hid hgood
 clear hbig hgood
 by_cases n1:(65536:Int) < (nodes e:Int)
 ·obtain rfl:=HBIG.out (by rw [decide_eq_false (by omega)];rfl)
  have b3:decide ((65536:Int) < (nodes e:Int))=true:=decide_eq_true n1
  clear n1
  go_wp2_with (first | ((with_reducible show Jw (Op.load 44 _));refine wpList_load_has rfl 44 _ rfl rfl (k2) agg_E rfl ?_) | (go_at_call 29;refine (HND.out _ HXA.out).mono ?_;rintro r w3 ⟨rfl,hx3⟩) | ((with_reducible show Jw (Op.store 44 _ _));refine wpList_store_blk rfl 44 _ _ rfl (HR2.out.ext hx3) rfl (cs:=zeroE) (rfl) agg_E (rfl) rfl (rfl) ?_;intro w4 hb4 hg4) | ((with_reducible show bodyPost _ _ _ _ _ _);refine Hid.out ?_))
  refine Lib.hid ?_
  refine post_ret_blk2 rfl rfl rfl hb4.has agg_E rfl rfl (.inl ⟨2,rfl,by decide,rfl,(HXA.out.trans hx3).grown hg4 (by omega)⟩)
 have b3:decide ((65536:Int) < (nodes e:Int))=false:=decide_eq_false n1
 by_cases n2:(64:Int) < (deep e:Int)
 ·obtain rfl:=HBIG.out (by rw [decide_eq_false (show ¬ deep e ≤ 64 by omega)];simp)
  have b4:decide ((64:Int) < (deep e:Int))=true:=decide_eq_true n2
  clear n1 n2
  go_wp2_with (first | ((with_reducible show Jw (Op.load 44 _));refine wpList_load_has rfl 44 _ rfl rfl (k2) agg_E rfl ?_) | (go_at_call 29;refine (HND.out _ HXA.out).mono ?_;rintro r w3 ⟨rfl,hx3⟩;have k3:=(HE2.out.ext hx3).has) | ((with_reducible show Jw (Op.load 44 _));refine wpList_load_has rfl 44 _ rfl rfl (k3) agg_E rfl ?_) | (go_at_call 32;refine (HDP.out _ (HXA.out.trans hx3)).mono ?_;rintro r w5 ⟨rfl,hx5⟩) | ((with_reducible show Jw (Op.store 44 _ _));refine wpList_store_blk rfl 44 _ _ rfl (HR2.out.ext (hx3.trans hx5)) rfl (cs:=zeroE) (rfl) agg_E (rfl) rfl (rfl) ?_;intro w4 hb4 hg4) | ((with_reducible show bodyPost _ _ _ _ _ _);refine Hid.out ?_))
  refine Lib.hid ?_
  refine post_ret_blk2 rfl rfl rfl hb4.has agg_E rfl rfl (.inl ⟨2,rfl,by decide,rfl,(HXA.out.trans (hx3.trans hx5)).grown hg4 (by omega)⟩)
 have b4:decide ((64:Int) < (deep e:Int))=false:=decide_eq_false n2
 obtain rfl:=HGOOD.out (by omega) (by omega)
 have hls:∀ x ∈ d.signals,x.w ≤ 64:=sigs_w _ _ HSG.out
 have HSZ:=Lib.hid (fun W (h:Ext w W)=>sized_callsR hls e HPP.out HWF.out HN.out want (e.cells s) W (HVX.out W h) HWN.out.1 (by have:=HWN.out.2;omega))
 clear n1 n2 hls
 go_wp2_with (first | ((with_reducible show Jw (Op.load 44 _));refine wpList_load_has rfl 44 _ rfl rfl (k2) agg_E rfl ?_) | (go_at_call 29;refine (HND.out _ HXA.out).mono ?_;rintro r w3 ⟨rfl,hx3⟩;have k3:=(HE2.out.ext hx3).has) | ((with_reducible show Jw (Op.load 44 _));refine wpList_load_has rfl 44 _ rfl rfl (k3) agg_E rfl ?_) | (go_at_call 32;refine (HDP.out _ (HXA.out.trans hx3)).mono ?_;rintro r w5 ⟨rfl,hx5⟩;have k5:=(HE2.out.ext (hx3.trans hx5)).has) | ((with_reducible show Jw (Op.load 44 _));refine wpList_load_has rfl 44 _ rfl rfl (k5) agg_E rfl ?_) | (go_at_call 111;refine (HSZ.out _ (HXA.out.trans (hx3.trans hx5))).mono ?_;intro r w6 hp6;obtain ⟨cs2,g,rfl,h82,hone,hx6,-⟩:=hp6.open;have HP6:=Lib.hid hp6;clear hp6;have hk4:=HR2.out.ext ((hx3.trans hx5).trans hx6)) | ((with_reducible show Jw (Op.store 44 _ _));refine wpList_store_blk rfl 44 _ _ rfl hk4 rfl (cs:=cs2) rfl agg_E h82 rfl hone ?_;intro w9 hb9 hg9) | ((with_reducible show bodyPost _ _ _ _ _ _);refine Hid.out ?_))
 refine Lib.hid ?_
 have hs0:=HXA.out.size
 have hs1:=hx3.size
 have hs2:=hx5.size
 have hlt:=HR2.out.lt
 refine post_ret_blk2 rfl rfl rfl hb9.has agg_E h82 rfl ?_
 rcases HP6.out.again (HXA.out.trans (hx3.trans hx5)) ((HXA.out.trans ((hx3.trans hx5).trans hx6)).grown hg9 (by omega)) (Since.of_grown hg9 (by omega)) with ⟨g9,h1,h2,h3,h4⟩ | ⟨y,cs9,h1,h2,h3,h4⟩
 ·exact .inl ⟨g9,h1,by omega,h3,h4⟩
 ·exact .inr ⟨y,cs9,h1,h2,h3,h4⟩
set_option maxRecDepth 100000 in
set_option maxHeartbeats 2000000 in
theorem CheckE_callsR (d:Flat) (v:Value) (e:E) (cs:List Value) (w:World) (hF:FlatV w v d) (hok:d.ok) (hV:VE w cs e) (hwf:e.wf) (hn:nodes e ≤ 1048576) :
  Calls Tryz.prog 30 #[v,.agg cs.toArray] w fun r w'=>r=.returned (.int .i64 (checkEM d.signals e))∧Ext w w':=by
 have HF:=Lib.hid (fun W (h:Ext w W)=>hF.ext h)
 have HEX:=Lib.hid (fun W (h:Ext w W)=>Expr_callsR d v e e.w cs W (hF.ext h) hok (hV.ext h) hwf hn)
 obtain ⟨sv,pv,cv,rfl,hS,hP,hC⟩:=hF
 have hone : [sv,pv,cv].all (·.oneCell')=true:=by simp [hS.one,hP.one,hC.one]
 obtain ⟨s0,rfl,hs0⟩:=hV
 have HVX:=Lib.hid (fun W (h:Ext w W)=>show VE W (e.cells s0) e from ⟨s0,rfl,hs0.ext h⟩)
 have h8:(e.cells s0).length=8:=rfl
 have x1:=ext_alloc w (.cells [sv,pv,cv].toArray 26)
 have x2:=ext_alloc (w.alloc (.cells [sv,pv,cv].toArray 26)) (.cells (e.cells s0).toArray 44)
 have hD:=(Blk.new w [sv,pv,cv].toArray 26).ext x2
 have hE:=Blk.new (w.alloc (.cells [sv,pv,cv].toArray 26)) (e.cells s0).toArray 44
 have HX:=x1.trans x2
 simp only [World.size_alloc] at hE
 clear x1 x2
 obtain ⟨a0,b0,o0,c0,rfl,-,-,-,-⟩:=hS.open
 obtain ⟨ap,bp,op,cp,rfl,-,-,-,-⟩:=hP.open
 obtain ⟨ac,bc,oc,cc,rfl,-,-,-,-⟩:=hC.open
 clear hS hP hC hok hwf hn hs0
 obtain ⟨OUT,hout⟩ : ∃ o,checkEM d.signals e=o:=⟨_,rfl⟩
 have HOUT:=Lib.hid hout
 rw [hout]
 clear hout
 go_enter Tryz.func30,Tryz.ntmps30
 go_upto_region 1 with fail
 generalize (w.alloc _).alloc _=w0 at *
 have HD:=Lib.hid hD
 have HE:=Lib.hid hE
 have HXX:=Lib.hid HX
 have d0:=hD.has
 have e0:=hE.has
 have g1:=hE.has 1 _ rfl
 clear hD hE HX
 go_upto_region 2 with (first | ((with_reducible show Jw (Op.load 26 _));refine wpList_load_has rfl 26 _ rfl rfl (d0) agg_Flat rfl ?_) | ((with_reducible show Jw (Op.load 44 _));refine wpList_load_has rfl 44 _ rfl rfl (e0) agg_E rfl ?_) | (go_at_call 64;refine (HEX.out _ HXX.out).mono ?_;rintro r w1 hp;obtain ⟨cs2,g,rfl,hl2,ho2,hx1,hq⟩:=hp.open) | ((with_reducible show Jw (Op.store 44 _ _));refine wpList_store_new rfl 44 _ _ rfl rfl (by first | rfl | simp) rfl agg_E (hl2) rfl (ho2) ?_))
 have HQ:=Lib.hid hq
 have hx2:=hx1.alloc (.cells cs2.toArray 44)
 have hb2:=Has.alloc w1 cs2 44
 have HV2:=Lib.hid (fun y (h:VE w1 cs2 y)=>h.ext (ext_alloc w1 (.cells cs2.toArray 44)))
 have HE2:=Lib.hid (HE.out.ext hx2)
 have HX2:=Lib.hid (HXX.out.trans hx2)
 clear hq hx1 hx2 g1 d0 e0
 generalize w1.alloc _=w2 at *
 have e2:=HE2.out.has
 have g1:=HE2.out.has 1 _ rfl
 have ho:=HOUT.out
 unfold checkEM at ho
 rcases HQ.out with ⟨rfl,y,hy,hvy⟩ | ⟨hg9,hy⟩
 ·rw [hy] at ho
  simp only at ho
  have HVY:=Lib.hid (HV2.out y hvy)
  have HO:=Lib.hid ho
  clear ho hy hvy HQ
  by_cases hw:e.w=0
  ·have c1:(e.w == 0)=true:=by rw [beq_iff_eq];exact hw
   obtain rfl:OUT=90:=by have:=HO.out;rw [if_pos (.inl hw)] at this;exact this.symm
   clear hw
   go_wp2_with fail
   go_ret
   exact ⟨rfl,HX2.out⟩
  ·have c1:(e.w == 0)=false:=by rw [beq_eq_false_iff_ne];exact hw
   obtain ⟨q,hq⟩ : ∃ q,eqE y e=q:=⟨_,rfl⟩
   have HSM:=Lib.hid (SameE_callsR y e cs2 (e.cells s0) w2 HVY.out (HVX.out w2 HX2.out))
   rw [hq] at HSM
   have HW:=Lib.hid hw
   have HQ:=Lib.hid hq
   clear hw hq
   cases q
   ·obtain rfl:OUT=90:=by have:=HO.out;rw [HQ.out,if_pos (.inr rfl)] at this;exact this.symm
    go_wp2_with (first | ((with_reducible show Jw (Op.load 44 _));refine wpList_load_has rfl 44 _ rfl rfl (hb2) agg_E hl2 ?_) | ((with_reducible show Jw (Op.load 44 _));refine wpList_load_has rfl 44 _ rfl rfl (e2) agg_E rfl ?_) | (go_at_call 27;refine (HSM.out).mono ?_;rintro r w3 ⟨rfl,hx3⟩))
    go_ret
    exact ⟨rfl,HX2.out.trans hx3⟩
   ·obtain rfl:OUT=0:=by have:=HO.out;rw [HQ.out,if_neg (by rintro (h | h);exact HW.out h;cases h)] at this;exact this.symm
    go_wp2_with (first | ((with_reducible show Jw (Op.load 44 _));refine wpList_load_has rfl 44 _ rfl rfl (hb2) agg_E hl2 ?_) | ((with_reducible show Jw (Op.load 44 _));refine wpList_load_has rfl 44 _ rfl rfl (e2) agg_E rfl ?_) | (go_at_call 27;refine (HSM.out).mono ?_;rintro r w3 ⟨rfl,hx3⟩))
    go_ret
    exact ⟨rfl,HX2.out.trans hx3⟩
 ·rw [hy] at ho
  simp only at ho
  subst ho
  have c0:(g == 0)=false:=by rw [beq_eq_false_iff_ne];exact hg9
  clear hg9 hy HQ
  go_wp2_with fail
  go_ret
  exact ⟨rfl,HX2.out⟩
open Go.RowKit
theorem numberR_calls (wd v:Int) (w:World):Calls Tryz.prog 104 #[.int .i64 wd,.int .u64 v] w fun r w'=>r=.returned (.agg (E.cells ⟨1,wd,v,0,0,0,0,[]⟩ (.slice none 0 0)).toArray)∧Ext w w':=by
 have hX:=ext_alloc w (.cells (zE.cells (.slice none 0 0)).toArray 44)
 have hR:=Blk.new w (zE.cells (.slice none 0 0)).toArray 44
 rw [zE_cells] at *
 go_enter Tryz.func104,Tryz.ntmps104
 go_upto_region 1 with fail
 generalize w.alloc _=w0 at *
 have HR:=Lib.hid hR
 have HX:=Lib.hid hX
 clear hR hX
 go_wp2_with (first | ((with_reducible show Jw (Op.store 44 _ _));refine wpList_store_blk rfl 44 _ _ rfl (HR.out) rfl (cs:=E.cells ⟨1,wd,v,0,0,0,0,[]⟩ (.slice none 0 0)) (rfl) agg_E (rfl) rfl (rfl) ?_;intro w6 hb6 hg6) | ((with_reducible show bodyPost _ _ _ _ _ _);refine Hid.out ?_))
 refine Lib.hid ?_
 exact post_ret_blk rfl rfl hb6.has agg_E rfl rfl ⟨rfl,HX.out.grown hg6 (by omega)⟩
set_option maxRecDepth 100000 in
set_option maxHeartbeats 2000000 in
theorem numbersR_calls (l:List E) (s:Value) (w:World) (hs:Es w s l):Calls Tryz.prog 105 #[s] w fun r w'=>r=.returned (.bool (l.all isNum))∧Ext w w':=by
 obtain ⟨a,b,o,cap,rfl,hc1,hc2,ha,hr⟩:=hs.open
 have HA:=Lib.hid ha
 have HRW:=Lib.hid (fun W (h:Ext w W)=>(hr.mono fun x _ b o hh=>EAt.ext h x b o hh:Rows 8 (EAt W) l b o))
 obtain ⟨t,ht⟩ : ∃ t,l.all isNum=t:=⟨_,rfl⟩
 have HT:=Lib.hid ht
 rw [ht]
 clear ht hr ha hs
 go_enter Tryz.func105,Tryz.ntmps105
 go_wp2_with fail
 go_loopw [3] (fun i wr=>∃ k:Nat,k ≤ l.length∧i=.int .i64 k∧(∀ j (hj:j < l.length),j < k→isNum l[j]=true)∧Ext w wr) (fun i _=>l.length - (intOf i).toNat)
 case atStart=>exact ⟨0,Nat.zero_le _,rfl,fun j _ hj=>absurd hj (by omega),Below.refl _ _⟩
 case round =>
  obtain ⟨k,hk,rfl,hall,hB⟩:=hrel
  have HALL:=Lib.hid hall
  have HB:=Lib.hid hB
  clear hall hB
  by_cases hlt:k < l.length
  ·obtain rfl:=HA.out (by omega)
   obtain ⟨s2,h1,-⟩:=Es.get (HRW.out wr HB.out) hlt
   have g0:wr.cell? ⟨b,o + k * 8,none⟩=some (.int .i64 l[k].op):=h1 0 _ rfl
   obtain ⟨q,hq⟩ : ∃ q,isNum l[k]=q:=⟨_,rfl⟩
   have HQ:=Lib.hid hq
   cases q
   ·have c3:(l[k].op != 1)=true:=by rw [bne_iff_ne];exact of_decide_eq_false hq
    obtain rfl:t=false:=by
     rw [← HT.out,Bool.eq_false_iff]
     intro h
     have:=List.all_eq_true.1 h l[k] (List.getElem_mem hlt)
     rw [hq] at this
     exact absurd this (by decide)
    generalize l[k]=x at *
    clear hq h1
    go_wp2_with fail
    go_ret
    exact ⟨rfl,HB.out⟩
   ·have c3:(l[k].op != 1)=false:=by rw [bne_eq_false_iff_eq];exact of_decide_eq_true hq
    clear hq
    generalize hx:l[k]=x at *
    have HXK:=Lib.hid hx
    clear h1 hx
    go_wp2_with fail
    go_roundw
    case rel=>exact ⟨k + 1,by omega,by go_num,fun j hj hjk=>by
     by_cases e:j=k
     ·subst e;rw [HXK.out];exact HQ.out
     ·exact HALL.out j hj (by omega),HB.out⟩
    case measure=>simp [intOf];omega
  ·obtain rfl:k=l.length:=by omega
   obtain rfl:t=true:=by
    rw [← HT.out,List.all_eq_true]
    intro x hx
    obtain ⟨j,hj,rfl⟩:=List.getElem_of_mem hx
    exact HALL.out j hj hj
   go_wp2_with fail
   go_ret
   exact ⟨rfl,HB.out⟩
def F10Said (d:Flat) (e:E):Prop:=∀ (fv:Value) (cs:List Value) (w:World),FlatV w fv d→VE w cs e→nodes e ≤ 1048576 →
 Calls Tryz.prog 58 #[fv,.agg cs.toArray] w fun r w'=>∃ cs',r=.returned (.agg cs'.toArray)∧FV VE w.heap.size w' cs' (foldM d.signals e)∧Ext w w'
theorem ws_parts {ls:List Signal} {e:E} (h:WS ls e):(e.op=1 ∨ e.op=2)∧e.l=[] ∨ e.op ≠ 1∧e.op ≠ 2∧0 < e.l.length:=by
 have h0:=((WS_iff ls e).1 h).1
 have hq:(e.l.map (·.w)).length=e.l.length:=List.length_map ..
 unfold wsN at h0
 generalize hws:e.l.map (·.w)=ws at *
 rcases h0 with h | h | ⟨ho,⟨k,rfl⟩,-⟩ | ⟨ho,⟨k,rfl,-⟩,-⟩ | ⟨ho,⟨j,k,rfl,-⟩,-⟩ | ⟨ho,rfl,-⟩ | ⟨ho,h,-⟩ | ⟨ho,⟨k,rfl,-⟩,-⟩
 ·exact .inl ⟨.inl h.1,by rw [h.2.1] at hws;simpa using hws⟩
 ·exact .inl ⟨.inr h.1,by rw [h.2.1] at hws;simpa using hws⟩
 ·simp at hq;exact .inr ⟨by omega,by omega,by omega⟩
 ·simp at hq;exact .inr ⟨by omega,by omega,by omega⟩
 ·simp at hq;exact .inr ⟨by omega,by omega,by omega⟩
 ·simp at hq;exact .inr ⟨by omega,by omega,by omega⟩
 ·have:=List.length_pos_iff.2 h;exact .inr ⟨by omega,by omega,by omega⟩
 ·simp at hq;exact .inr ⟨by omega,by omega,by omega⟩
set_option maxRecDepth 100000 in
set_option maxHeartbeats 8000000 in
theorem fold10_step (d:Flat) (hls:∀ x ∈ d.signals,1 ≤ x.w∧x.w ≤ 64) (e:E) (hws:WS d.signals e) (hwf:e.wf) (ih:∀ x ∈ e.l,F10Said d x):F10Said d e:=by
 intro fv cs w hF hV hn
 have HFW:=Lib.hid (fun W (h:Ext w W)=>hF.ext h)
 have hls':∀ x ∈ d.signals,x.w ≤ 64:=fun x hx=>(hls x hx).2
 obtain ⟨m1,m2,m3⟩:=foldM_map hls' hws hwf
 have HNN:=Lib.hid (show nodes (e.with (e.l.map (foldM d.signals))) ≤ 1048576 from Nat.le_trans (foldM_with_nodes d.signals e) hn)
 have HWS:=Lib.hid (with_ws m1 fun x hx=>(m2 x hx).1)
 have HWF:=Lib.hid (with_wf hwf fun x hx=>(m2 x hx).2)
 have HM1:=Lib.hid m1
 have HM2:=Lib.hid m2
 have HPT:=Lib.hid (ws_parts hws)
 have hnn:=nodes_eq e
 obtain ⟨RES,hres⟩ : ∃ r,foldM d.signals e=r:=⟨_,rfl⟩
 have HEQ:=Lib.hid (show foldN d.signals e (e.l.map (foldM d.signals))=RES by rw [← foldM_eq,hres])
 rw [hres]
 have HLS:=Lib.hid hls
 have IH:=Lib.hid ih
 have HNB:=Lib.hid (show ∀ x ∈ e.l,nodes x ≤ 1048576 from fun x hx=>by have:=le_sumBy nodes e.l x hx;omega)
 have HLB:=Lib.hid (show e.l.length + 1 ≤ 16777216 by have:=length_le_sumBy nodes e.l (fun x _=>nodes_pos x);omega)
 obtain ⟨s,rfl,hs⟩:=hV
 have HES:=Lib.hid hs
 obtain ⟨a,b,ob,cap,rfl,hc1,hc2,ha,hr⟩:=hs.open
 obtain ⟨sv,pv,cv,rfl,hS,hP,hC⟩:=hF
 obtain ⟨a0,b0,o0,c0,rfl,hs1,hs2,hsa,hsr⟩:=hS.open
 have HR8:=Lib.hid (fun W (h:Ext w W)=>(hr.mono fun x _ b o hh=>EAt.ext h x b o hh:Rows 8 (EAt W) e.l b ob))
 have HSR:=Lib.hid (fun W (h:Ext w W)=>(hsr.mono fun x _ b o hh=>SigAt.ext' h hh:Rows 4 (SigAt W) d.signals b0 o0))
 have HA:=Lib.hid ha
 have HSA:=Lib.hid hsa
 have x1:=ext_alloc w (.cells [.slice a0 d.signals.length c0,pv,cv].toArray 26)
 have x2:=ext_alloc (w.alloc (.cells [.slice a0 d.signals.length c0,pv,cv].toArray 26)) (.cells (e.cells (.slice a e.l.length cap)).toArray 44)
 have x3:=ext_alloc ((w.alloc (.cells [.slice a0 d.signals.length c0,pv,cv].toArray 26)).alloc (.cells (e.cells (.slice a e.l.length cap)).toArray 44)) (.cells (zE.cells (.slice none 0 0)).toArray 44)
 have hD:=((Blk.new w [.slice a0 d.signals.length c0,pv,cv].toArray 26).ext x2).ext x3
 have hE:=(Blk.new (w.alloc (.cells [.slice a0 d.signals.length c0,pv,cv].toArray 26)) (e.cells (.slice a e.l.length cap)).toArray 44).ext x3
 have hR:=Blk.new ((w.alloc (.cells [.slice a0 d.signals.length c0,pv,cv].toArray 26)).alloc (.cells (e.cells (.slice a e.l.length cap)).toArray 44)) (zE.cells (.slice none 0 0)).toArray 44
 have hX:=(x1.trans x2).trans x3
 have HSZ:=Lib.hid (show (((w.alloc (.cells [.slice a0 d.signals.length c0,pv,cv].toArray 26)).alloc (.cells (e.cells (.slice a e.l.length cap)).toArray 44)).alloc (.cells (zE.cells (.slice none 0 0)).toArray 44)).heap.size=w.heap.size + 1 + 1 + 1 by simp only [World.size_alloc])
 simp only [World.size_alloc] at hE hR
 clear x1 x2 x3 hS hP hC hs hr hsr ha hsa hn hnn hws hwf hls hls' ih hres m1 m2 m3
 rw [zE_cells] at *
 go_enter Tryz.func58,Tryz.ntmps58
 go_upto_region 1 with fail
 generalize ((w.alloc _).alloc _).alloc _=w0 at *
 have HD:=Lib.hid hD
 have HE:=Lib.hid hE
 have HR:=Lib.hid hR
 have HX:=Lib.hid hX
 have g0:w0.cell? ⟨w.heap.size + 1,0 + 0,none⟩=some (.int .i64 e.op):=hE.has 0 _ rfl
 clear hD hE hR hX
 rcases HPT.out with ⟨ho,hl⟩ | ⟨o1,o2,hne⟩
 ·obtain rfl:e=RES:=by rw [← HEQ.out,hl];unfold foldN;rfl
  have HF:=Lib.hid (show ∀ W,VE W (e.cells (.slice a e.l.length cap)) e from fun W=>VE.none hl HES.out)
  have hone:(e.cells (.slice a e.l.length cap)).all (·.oneCell')=true:=by simp [HES.out.one,one_int]
  have HONE:=Lib.hid hone
  have k0:=HE.out.has
  clear hone hl
  rcases ho with ho | ho
  ·rw [ho] at g0
   clear ho
   go_wp2_with (first | ((with_reducible show Jw (Op.load 44 _));refine wpList_load_has rfl 44 _ rfl rfl (k0) agg_E rfl ?_) | ((with_reducible show Jw (Op.store 44 _ _));refine wpList_store_blk rfl 44 _ _ rfl (HR.out) rfl (cs:=e.cells (.slice a e.l.length cap)) (rfl) agg_E (rfl) rfl (HONE.out) ?_;intro w6 hb6 hg6) | ((with_reducible show bodyPost _ _ _ _ _ _);refine Hid.out ?_))
   refine Lib.hid ?_
   exact post_ret_blk rfl rfl hb6.has agg_E rfl rfl ⟨_,rfl,fun W _=>HF.out W,HX.out.grown hg6 (by omega)⟩
  ·rw [ho] at g0
   clear ho
   go_wp2_with (first | ((with_reducible show Jw (Op.load 44 _));refine wpList_load_has rfl 44 _ rfl rfl (k0) agg_E rfl ?_) | ((with_reducible show Jw (Op.store 44 _ _));refine wpList_store_blk rfl 44 _ _ rfl (HR.out) rfl (cs:=e.cells (.slice a e.l.length cap)) (rfl) agg_E (rfl) rfl (HONE.out) ?_;intro w6 hb6 hg6) | ((with_reducible show bodyPost _ _ _ _ _ _);refine Hid.out ?_))
   refine Lib.hid ?_
   exact post_ret_blk rfl rfl hb6.has agg_E rfl rfl ⟨_,rfl,fun W _=>HF.out W,HX.out.grown hg6 (by omega)⟩
 have c1:(e.op == 1)=false:=by rw [beq_eq_false_iff_ne];exact o1
 have c2:(e.op == 2)=false:=by rw [beq_eq_false_iff_ne];exact o2
 have HPT0:=Lib.hid (show e.op ≠ 1∧e.op ≠ 2 from ⟨o1,o2⟩)
 clear o1 o2
 have x3:=ext_alloc w0 (.cells #[] 44)
 have hrow:=RowIs.empty (V:=VE) (size:=8) (N:=w0.heap.size) (Blk.new w0 #[] 44) (Nat.le_refl _)
 have hsl0:w0.heap.size < (w0.alloc (.cells #[] 44)).heap.size:=by simp
 go_wp2_with ((with_reducible show Jw (Op.buildSlice _ _ _));refine wpList_bs0 rfl _ rfl appE ?_)
 have HROW0:=Lib.hid hrow
 have HX10:=Lib.hid x3
 generalize w0.alloc _=w1 at *
 clear hrow x3 g0 c1 c2
 go_loopw [5,6] (fun v i wr=>∃ k:Nat,k ≤ e.l.length∧i=.int .i64 k∧RowIs VE 44 8 w0.heap.size v ((e.l.take k).map (foldM d.signals)) wr∧Ext w0 wr) (fun _ i _=>e.l.length - (intOf i).toNat)
 case atStart=>exact ⟨0,Nat.zero_le _,rfl,HROW0.out,HX10.out⟩
 case round =>
  obtain ⟨k,hk,rfl,hrow,hB⟩:=hrel
  have HROW:=Lib.hid hrow
  have HXB:=Lib.hid hB
  have z7:=(HE.out.ext hB).has 7 _ rfl
  clear hrow hB
  by_cases hlt:k < e.l.length
  ·obtain rfl:=HA.out (by omega)
   obtain ⟨s2,h1,h2⟩:=Es.get (HR8.out w (Below.refl _ _)) hlt
   have HH0:=Lib.hid (fun W (h:Ext w W)=>Has.ext h1 h)
   have HH2:=Lib.hid (fun W (h:Ext w W)=>(Es.ext h2 h:Es W s2 e.l[k].l))
   have hve:VE wr (e.l[k].cells s2) e.l[k]:=⟨s2,rfl,HH2.out wr (HX.out.trans HXB.out)⟩
   have hmem:e.l[k] ∈ e.l:=List.getElem_mem hlt
   have HC:=Lib.hid (fun W (h:Ext wr W)=>IH.out _ hmem _ (e.l[k].cells s2) W (HFW.out W ((HX.out.trans HXB.out).trans h)) (hve.ext h) (HNB.out _ hmem))
   have hat:(e.l.take (k + 1)).map (foldM d.signals)=(e.l.take k).map (foldM d.signals) ++ [foldM d.signals e.l[k]]:=by rw [take_snoc _ _ hlt,List.map_append,List.map_cons,List.map_nil]
   have hln:((e.l.take k).map (foldM d.signals)).length=k:=by rw [List.length_map,List.length_take];omega
   have HAT:=Lib.hid hat
   have HLN:=Lib.hid hln
   clear HH2
   generalize (e.l.take k).map (foldM d.signals)=rr at *
   generalize e.l[k]=x at *
   generalize foldM d.signals x=y at *
   clear hat hln hve h1 h2 hmem
   obtain ⟨ur,cr,hre,-⟩:=HROW.out.open
   subst hre
   rw [HLN.out] at HROW ⊢
   go_upto_region 7 with fail
   refine wp_region_held_drew (S:=fun W=>Ext w W∧Blk W w.heap.size [.slice a0 d.signals.length c0,pv,cv].toArray 26∧Blk W (w.heap.size + 1) (e.cells (.slice (some ⟨b,ob,none⟩) e.l.length cap)).toArray 44∧Has W b (ob + k * 8) (x.cells s2)) (by kernel_rfl) ⟨(HX.out.trans HXB.out).drew,(HD.out.ext HXB.out).drew,(HE.out.ext HXB.out).drew,HH0.out _ ((HX.out.trans HXB.out).drew)⟩ (fun hHeld=>?_)
   try simp only [J]
   (refine Jt 0 (.slice ur k cr) rfl (yif_load1 rfl fun _ _=>rfl) hHeld ?_;try simp only [J])
   (refine Jt 1 (.agg [.slice a0 d.signals.length c0,pv,cv].toArray) rfl (yif_load rfl 26 _ rfl rfl (fun W hW=>hW.2.1.has) agg_Flat rfl) hHeld ?_;try simp only [J])
   (refine Jt 2 (.pointer (some ⟨w.heap.size + 1,7,none⟩)) rfl (yif_load1 rfl (by intro W hW;clear hW;go_simp)) hHeld ?_;try simp only [J])
   (refine Jt 3 (.slice (some ⟨b,ob,none⟩) e.l.length cap) rfl (yif_load1 rfl (by intro W hW;have y:=hW.2.2.1.has 7 _ rfl;clear hW;go_simp)) hHeld ?_;try simp only [J])
   (refine Jt 4 (.int .i64 (k:Int)) rfl (yif_load1 rfl fun _ _=>rfl) hHeld ?_;try simp only [J])
   (refine Jt 5 (.pointer (some ⟨b,ob + k * 8,none⟩)) rfl (yif_load1 rfl (by intro W hW;clear hW;go_simp)) hHeld ?_;try simp only [J])
   (refine Jt 6 (.agg (x.cells s2).toArray) rfl (yif_load rfl 44 _ rfl rfl (fun W hW=>hW.2.2.2) agg_E rfl) hHeld ?_;try simp only [J])
   (refine wpAnyH_ready (rs:=[7]) (by kernel_rfl) (by simp) ?_;refine AllReadyH.cons rfl (fun K hK=>?_) AllReadyH.nil)
   go_simp
   refine (HC.out _ (Below.drew (Below.refl _ _))).mono ?_
   rintro r w3 ⟨cs3,rfl,hfv3,hx3⟩
   have hrow3:=HROW.out.since (Since.of_ext (N:=w0.heap.size) ((Ext.drew (Below.refl wr.heap.size wr)).trans hx3))
   have hX3:=HXB.out.drew.trans hx3
   have HFV3:=Lib.hid (show FV VE wr.heap.size w3 cs3 y from hfv3)
   refine hK.out _ _ ⟨hHeld.1.trans hx3,hHeld.2.1.ext hx3,hHeld.2.2.1.ext hx3,hHeld.2.2.2.ext hx3⟩ (fun hHeld=>?_)
   clear hK K hx3 hfv3
   try simp only [J]
   (refine wpAnyH_ready (rs:=[8]) (by kernel_rfl) (by simp) ?_;refine AllReadyH.cons rfl (fun K hK=>?_) AllReadyH.nil)
   refine step_bs1 rfl _ _ rfl appE rfl (cs:=cs3) rfl HFV3.out.lenE (by decide) ?_
   have hx4:=ext_alloc w3 (.cells cs3.toArray 44)
   have hb4:=Has.alloc w3 cs3 44
   have hrow4:=hrow3.since (Since.of_ext (N:=w0.heap.size) hx4)
   have hX4:=hX3.trans hx4
   have hfv4:=HFV3.out.ext hx4
   refine hK.out _ _ ⟨hHeld.1.trans hx4,hHeld.2.1.ext hx4,hHeld.2.2.1.ext hx4,hHeld.2.2.2.ext hx4⟩ (fun hHeld=>?_)
   clear hK K hrow3 hX3 hx4
   generalize w3.alloc _=w4 at *
   generalize w3.heap.size=B3 at *
   try simp only [J]
   (refine wpAnyH_ready (rs:=[9]) (by kernel_rfl) (by simp) ?_;refine AllReadyH.cons rfl (fun K hK=>?_) AllReadyH.nil)
   have hlt4:=HROW.out.lt
   rw [← HLN.out] at hrow4 hlt4 ⊢
   have hws0:=HXB.out.size
   refine step_app1 rfl _ _ _ rfl appE rfl hrow4 rfl HFV3.out.lenE hb4 HFV3.out.oneE (y:=y) (hfv4.st (by omega) (fun j hj=>by have:=(hlt4 j hj).2;omega)) (by have:=HLB.out;have:=HLN.out;omega) hX4.size ?_
   intro g7 cap7 w7 hrow7 hg7
   have hX7:Ext w0 w7:=Ext.grownO hX4 hg7 (fun j hj=>(hrow4.lt j hj).1)
   refine hK.out _ _ ⟨HX.out.trans hX7,HD.out.ext hX7,HE.out.ext hX7,HH0.out w7 (HX.out.trans hX7)⟩ (fun hHeld=>?_)
   clear hK K hX4 hrow4 hb4 hg7 hfv4 hlt4 hws0
   have HR7:=Lib.hid hrow7
   have HX7:=Lib.hid hX7
   clear hrow7 hX7
   rw [HLN.out]
   try simp only [J]
   (refine Jt 10 (.slice (some ⟨g7,0,none⟩) (k + 1) cap7) rfl (yif_load1 rfl fun _ _=>rfl) hHeld ?_;try simp only [J])
   refine wpAnyH_done (by kernel_rfl) ?_ _
   clear hHeld
   go_wp2_with fail
   go_roundw
   case rel=>exact ⟨k + 1,by omega,by go_num,by have h:=HR7.out;rw [HLN.out] at h;rw [HAT.out];exact h,HX7.out⟩
   case measure=>simp [intOf];omega
  ·obtain rfl:k=e.l.length:=by omega
   rw [List.take_length] at HROW
   have hln:(e.l.map (foldM d.signals)).length=e.l.length:=List.length_map ..
   obtain ⟨r,hr⟩ : ∃ r,e.l.map (foldM d.signals)=r:=⟨_,rfl⟩
   rw [hr] at HROW HEQ HM1 HM2 HWS HWF HNN hln
   clear hr IH HR8 HA HNB HLB HPT
   cases r with
   | nil=>rw [List.length_nil] at hln;omega
   | cons x l =>
   obtain ⟨ur,cr,hre,hur⟩:=HROW.out.open
   subst hre
   obtain ⟨g,rfl⟩:=hur (by simp)
   have hn0:(x :: l).length=l.length + 1:=rfl
   have HE1:=Lib.hid (HE.out.ext HXB.out)
   have g1:=HE1.out.cell 7
   have f1:=HE1.out.frozen 7
   simp only [E.cells,List.getElem?_toArray,List.getElem?_cons_zero,List.getElem?_cons_succ] at g1
   rw [hn0] at HROW ⊢
   clear hur hn0 hlt hk
   go_upto_region 9 with fail
   clear f1 g1 z7
   have hset:((e.cells (.slice a e.l.length cap)).toArray.setIfInBounds 7 (.slice (some ⟨g,0,none⟩) (l.length + 1) cr))=((e.with (x :: l)).cells (.slice (some ⟨g,0,none⟩) (l.length + 1) cr)).toArray:=rfl
   have hb3:=HE1.out.set 7 (.slice (some ⟨g,0,none⟩) (l.length + 1) cr)
   rw [hset] at hb3
   clear hset
   have hg3:=gb_set wr (w.heap.size + 1) 7 (.slice (some ⟨g,0,none⟩) (l.length + 1) cr)
   have HR3:=Lib.hid ((HR.out.ext HXB.out).grown hg3 (by omega))
   have HD3:=Lib.hid ((HD.out.ext HXB.out).grown hg3 (by omega))
   have HX3:=Lib.hid ((HX.out.trans HXB.out).grown hg3 (by omega))
   have hrow3:=HROW.out.since (Since.of_grown hg3 (by have:=HSZ.out;omega))
   have HE3:=Lib.hid hb3
   clear hb3 hg3 HE1 HE HR HD HX HROW HXB
   generalize wr.setCell _ _=w3 at *
   obtain ⟨csx,hx0,hx8,hxf⟩:=hrow3.get (k:=0) (by simp)
   rw [Nat.zero_mul] at hx0
   rw [Jb] at hxf
   obtain ⟨sx,rfl,-⟩:=hxf.here
   have hfv3:FV VE w0.heap.size w3 ((e.with (x :: l)).cells (.slice (some ⟨g,0,none⟩) (l.length + 1) cr)) (e.with (x :: l)):=fun W hW=>⟨_,rfl,RowIs.sl (V:=VE) (At:=EAt) (fun _ _ _ _ _ h hv=>VE.at h hv) hrow3 hW⟩
   have HFV:=Lib.hid hfv3
   have HES3:=Lib.hid (show Es w3 (.slice (some ⟨g,0,none⟩) (l.length + 1) cr) (x :: l) from hrow3.sl (V:=VE) (At:=EAt) (fun _ _ _ _ _ h hv=>VE.at h hv) (Since.refl _ _))
   have HROW3:=Lib.hid hrow3
   clear hfv3 hrow3 hxf
   have k0:w3.cell? ⟨w.heap.size + 1,0 + 0,none⟩=some (.int .i64 e.op):=HE3.out.has 0 _ rfl
   have kx:w3.cell? ⟨g,0 + 0,none⟩=some (.int .i64 x.op):=hx0 0 _ rfl
   have kv:w3.cell? ⟨g,0 + 2,none⟩=some (.int .u64 x.v):=hx0 2 _ rfl
   have hFF:=HEQ.out
   unfold foldN at hFF
   rw [if_neg (by simp),show hdE (x :: l)=x from rfl] at hFF
   have hb:=HE3.out.has
   have HXW:=Lib.hid (show WS d.signals x∧x.wf from HM2.out x (by simp))
   have i0:(0:Int) < (l.length:Int) + 1:=by omega
   by_cases o3:e.op=3
   ·obtain ⟨x',hx',i1,i2,i3⟩:=ws_idx HM1.out o3
    have hlnil:l=[]:=by injection hx'
    obtain ⟨k,hks⟩:=Int.eq_ofNat_of_zero_le i1
    have hkl:k < d.signals.length:=by omega
    obtain rfl:=HSA.out (by omega)
    rw [o3] at k0
    have hxv:=((E.wf_iff x).1 HXW.out.2).2.2.1
    cases ht:isNum x
    ·have cx:(x.op != 1)=true:=by rw [bne_iff_ne];exact of_decide_eq_false ht
     rw [if_neg (by rw [ht];simp),if_neg (by rw [ht];simp),if_pos (by rw [List.all_cons,ht];rfl)] at hFF
     subst hFF
     clear kv hxv i1 i2 i3 hx' hks ht hlnil
     go_wp2_with (first | ((with_reducible show Jw (Op.load 44 _));refine wpList_load_has rfl 44 _ rfl rfl (hb) agg_E rfl ?_) | ((with_reducible show Jw (Op.store 44 _ _));refine wpList_store_blk rfl 44 _ _ rfl (HR3.out) rfl (cs:=(e.with (x :: l)).cells (.slice (some ⟨g,0,none⟩) (l.length + 1) cr)) (rfl) agg_E (rfl) rfl (rfl) ?_;intro w6 hb6 hg6) | ((with_reducible show bodyPost _ _ _ _ _ _);refine Hid.out ?_))
     refine Lib.hid ?_
     have hf6:=FV.since (N:=w0.heap.size) HFV.out (Since.of_grown hg6 (by have:=HSZ.out;omega))
     have hf7:=FV.mono (N:=w.heap.size) hf6 (by have:=HSZ.out;omega)
     exact post_ret_blk rfl rfl hb6.has agg_E rfl rfl ⟨_,rfl,hf7,HX3.out.grown hg6 (by omega)⟩
    have cx:(x.op != 1)=false:=by rw [bne_eq_false_iff_eq];exact of_decide_eq_true ht
    have hsw:sigW d.signals e.sig=d.signals[k].w:=by rw [hks];simp [sigW,List.getElem?_eq_getElem hkl]
    have hwk:=HLS.out _ (List.getElem_mem hkl)
    have k5:=(Sigs.get (HSR.out w3 HX3.out) hkl) 1 _ rfl
    have k3:=HE3.out.has 3 _ rfl
    have k4:=HD3.out.has 0 _ rfl
    simp only [E.with] at k3
    rw [hks] at k3
    rw [hsw] at hFF
    generalize d.signals[k].w=sw at *
    have hsww:IntKind.u64.wrap sw=sw:=by rw [IntKind.wrap_u64];omega
    have hkk:(k:Int) < (d.signals.length:Int):=by omega
    by_cases hlt:x.v < sw
    ·have q3:decide (sw ≤ x.v)=false:=decide_eq_false (by omega)
     rw [if_pos ⟨o3,ht,hlt⟩] at hFF
     subst hFF
     have hwv:IntKind.i64.wrap x.v=x.v:=by have:=hxv.1;rw [IntKind.wrap_i64];omega
     clear hb ht i1 i2 hx' hlt o3 hsw hlnil
     go_upto_region 12 with fail
     go_quiet (fail)
     have HX4:=Lib.hid (HX3.out.drewNB nq)
     have HE4:=Lib.hid (HE3.out.drewN nq)
     have HR4:=Lib.hid (HR3.out.drewN nq)
     have hx4:=hx0.drewN nq
     clear k0 kx kv k3 k4 k5 hx0
     generalize w3.drewN nq=w4 at *
     have kv:=hx4 2 _ rfl
     have k3:=HE4.out.has 3 _ rfl
     simp only [E.with] at k3
     clear hks
     go_wp2_with (first | ((with_reducible show Jw (Op.store 44 _ _));refine wpList_store_blk rfl 44 _ _ rfl (HR4.out) rfl (cs:=E.cells ⟨2,1,0,e.sig,x.v,x.v,0,[]⟩ (.slice none 0 0)) (rfl) agg_E (rfl) rfl (rfl) ?_;intro w6 hb6 hg6) | ((with_reducible show bodyPost _ _ _ _ _ _);refine Hid.out ?_))
     refine Lib.hid ?_
     exact post_ret_blk rfl rfl hb6.has agg_E rfl rfl ⟨_,rfl,fv_leafE _ _ _ rfl,HX4.out.grown hg6 (by omega)⟩
    ·have q3:decide (sw ≤ x.v)=true:=decide_eq_true (by omega)
     have hev:evM [] (e.with (x :: l))=0:=by rw [evM_eq];simp [evNode,E.with,o3]
     rw [if_neg (fun h=>hlt h.2.2),if_neg (by omega),if_neg (by rw [hlnil];simp [ht]),i3,hev] at hFF
     subst hFF
     clear hb ht i1 i2 hx' hlt o3 hsw hev hlnil
     go_upto_region 12 with fail
     go_quiet (fail)
     have HX4:=Lib.hid (HX3.out.drewNB nq)
     have HR4:=Lib.hid (HR3.out.drewN nq)
     clear k0 kx kv k3 k4 k5 hx0
     generalize w3.drewN nq=w4 at *
     go_wp2_with (first | (go_at_call 104;refine (numberR_calls 1 0 w4).mono ?_;rintro r w5 ⟨rfl,hx5⟩) | ((with_reducible show Jw (Op.store 44 _ _));refine wpList_store_blk rfl 44 _ _ rfl (HR4.out.ext hx5) rfl (cs:=E.cells ⟨1,1,0,0,0,0,0,[]⟩ (.slice none 0 0)) (rfl) agg_E (rfl) rfl (rfl) ?_;intro w6 hb6 hg6) | ((with_reducible show bodyPost _ _ _ _ _ _);refine Hid.out ?_))
     refine Lib.hid ?_
     exact post_ret_blk rfl rfl hb6.has agg_E rfl rfl ⟨_,rfl,fv_leafE _ _ _ rfl,(HX4.out.trans hx5).grown hg6 (by omega)⟩
   have b3:(e.op == 3)=false:=by rw [beq_eq_false_iff_ne];exact o3
   rw [if_neg (fun h=>o3 h.1)] at hFF
   have HNM:=Lib.hid (fun W (h:Ext w3 W)=>numbersR_calls (x :: l) _ W (Es.ext HES3.out h))
   by_cases o6:e.op=6
   ·have b6:(e.op == 6)=true:=by rw [beq_iff_eq];exact o6
    cases ht:isNum x
    ·have cx:(x.op == 1)=false:=by rw [beq_eq_false_iff_ne];exact of_decide_eq_false ht
     have ha0:(x :: l).all isNum=false:=by rw [List.all_cons,ht];rfl
     rw [if_neg (by rw [ht];simp),if_pos ha0] at hFF
     subst hFF
     rw [ha0] at HNM
     clear kv ha0 o6 ht o3 hb
     go_wp2_with (first | (go_at_call 105;refine (HNM.out _ (Below.refl _ _)).mono ?_;rintro r w4 ⟨rfl,hx4⟩;have hb4:=(HE3.out.ext hx4).has) | ((with_reducible show Jw (Op.load 44 _));refine wpList_load_has rfl 44 _ rfl rfl (hb4) agg_E rfl ?_) | ((with_reducible show Jw (Op.store 44 _ _));refine wpList_store_blk rfl 44 _ _ rfl (HR3.out.ext hx4) rfl (cs:=(e.with (x :: l)).cells (.slice (some ⟨g,0,none⟩) (l.length + 1) cr)) (rfl) agg_E (rfl) rfl (rfl) ?_;intro w6 hb6 hg6) | ((with_reducible show bodyPost _ _ _ _ _ _);refine Hid.out ?_))
     refine Lib.hid ?_
     have hf6:=FV.since (N:=w0.heap.size) (HFV.out.ext hx4) (Since.of_grown hg6 (by have:=HSZ.out;omega))
     have hf7:=FV.mono (N:=w.heap.size) hf6 (by have:=HSZ.out;omega)
     exact post_ret_blk rfl rfl hb6.has agg_E rfl rfl ⟨_,rfl,hf7,(HX3.out.trans hx4).grown hg6 (by omega)⟩
    have cx:(x.op == 1)=true:=by rw [beq_iff_eq];exact of_decide_eq_true ht
    rw [if_pos ⟨o6,ht⟩] at hFF
    obtain ⟨c,y,z,hcyz,h1,-,-⟩:=ws_cond HM1.out o6
    obtain ⟨rfl,rfl⟩ : x=c∧l=[y,z]:=by simpa using hcyz
    rcases cond_told HXW.out.1 HXW.out.2 h1 ht with hv | hv
    ·rw [hv] at hFF kv
     obtain rfl:z=RES:=hFF
     obtain ⟨csj,hj0,hj8,hjf⟩:=HROW3.out.get (k:=2) (by simp)
     have HJF:=Lib.hid (show FV VE w0.heap.size w3 csj z from hjf)
     clear hjf hb ht o6 o3 hv hcyz hx0
     replace hj0:Has w3 g 16 csj:=hj0
     go_wp2_with (first | ((with_reducible show Jw (Op.load 44 _));refine wpList_load_has rfl 44 _ rfl rfl (hj0) agg_E hj8 ?_) | ((with_reducible show Jw (Op.store 44 _ _));refine wpList_store_blk rfl 44 _ _ rfl (HR3.out) rfl (cs:=csj) (rfl) agg_E (hj8) rfl (HJF.out.oneE) ?_;intro w6 hb6 hg6) | ((with_reducible show bodyPost _ _ _ _ _ _);refine Hid.out ?_))
     refine Lib.hid ?_
     have hf6:=FV.since (N:=w0.heap.size) HJF.out (Since.of_grown hg6 (by have:=HSZ.out;omega))
     have hf7:=FV.mono (N:=w.heap.size) hf6 (by have:=HSZ.out;omega)
     exact post_ret_blk rfl rfl hb6.has agg_E hj8 rfl ⟨_,rfl,hf7,HX3.out.grown hg6 (by omega)⟩
    ·rw [hv] at hFF kv
     obtain rfl:y=RES:=hFF
     obtain ⟨csj,hj0,hj8,hjf⟩:=HROW3.out.get (k:=1) (by simp)
     have HJF:=Lib.hid (show FV VE w0.heap.size w3 csj y from hjf)
     clear hjf hb ht o6 o3 hv hcyz hx0
     replace hj0:Has w3 g 8 csj:=hj0
     go_wp2_with (first | ((with_reducible show Jw (Op.load 44 _));refine wpList_load_has rfl 44 _ rfl rfl (hj0) agg_E hj8 ?_) | ((with_reducible show Jw (Op.store 44 _ _));refine wpList_store_blk rfl 44 _ _ rfl (HR3.out) rfl (cs:=csj) (rfl) agg_E (hj8) rfl (HJF.out.oneE) ?_;intro w6 hb6 hg6) | ((with_reducible show bodyPost _ _ _ _ _ _);refine Hid.out ?_))
     refine Lib.hid ?_
     have hf6:=FV.since (N:=w0.heap.size) HJF.out (Since.of_grown hg6 (by have:=HSZ.out;omega))
     have hf7:=FV.mono (N:=w.heap.size) hf6 (by have:=HSZ.out;omega)
     exact post_ret_blk rfl rfl hb6.has agg_E hj8 rfl ⟨_,rfl,hf7,HX3.out.grown hg6 (by omega)⟩
   have b6:(e.op == 6)=false:=by rw [beq_eq_false_iff_ne];exact o6
   rw [if_neg (fun h=>o6 h.1)] at hFF
   cases hq:(x :: l).all isNum
   ·rw [if_pos hq] at hFF
    subst hFF
    rw [hq] at HNM
    clear kv o6 o3 hb hq
    go_wp2_with (first | (go_at_call 105;refine (HNM.out _ (Below.refl _ _)).mono ?_;rintro r w4 ⟨rfl,hx4⟩;have hb4:=(HE3.out.ext hx4).has) | ((with_reducible show Jw (Op.load 44 _));refine wpList_load_has rfl 44 _ rfl rfl (hb4) agg_E rfl ?_) | ((with_reducible show Jw (Op.store 44 _ _));refine wpList_store_blk rfl 44 _ _ rfl (HR3.out.ext hx4) rfl (cs:=(e.with (x :: l)).cells (.slice (some ⟨g,0,none⟩) (l.length + 1) cr)) (rfl) agg_E (rfl) rfl (rfl) ?_;intro w6 hb6 hg6) | ((with_reducible show bodyPost _ _ _ _ _ _);refine Hid.out ?_))
    refine Lib.hid ?_
    have hf6:=FV.since (N:=w0.heap.size) (HFV.out.ext hx4) (Since.of_grown hg6 (by have:=HSZ.out;omega))
    have hf7:=FV.mono (N:=w.heap.size) hf6 (by have:=HSZ.out;omega)
    exact post_ret_blk rfl rfl hb6.has agg_E rfl rfl ⟨_,rfl,hf7,(HX3.out.trans hx4).grown hg6 (by omega)⟩
   rw [if_neg (by rw [hq];simp)] at hFF
   have hps:=HPT0.out
   obtain ⟨V,hV⟩ : ∃ V,evM [] (e.with (x :: l))=V:=⟨_,rfl⟩
   rw [hV] at hFF
   subst hFF
   have HVAL:=Lib.hid (fun W (h:Ext w3 W)=>Value10_calls d [] HLS.out (vals_nil _) (e.with (x :: l)) HWS.out HWF.out (.inr ⟨hps.2,o3,fun y hy=>of_decide_eq_true (List.all_eq_true.1 hq y hy)⟩) _ (.slice none 0 0) _ W (HFW.out W (HX3.out.trans h)) (Sl.nil _ _) (HFV.out W (Since.of_ext h)) HNN.out)
   rw [show evB [] (e.with (x :: l))=⟨e.w,V⟩ by unfold evB;rw [hV];rfl] at HVAL
   rw [hq] at HNM
   clear kv o6 o3 hb hq hps hV
   go_upto_region 21 with (go_at_call 105;refine (HNM.out _ (Below.refl _ _)).mono ?_;rintro r w4 ⟨rfl,hx4⟩)
   have HX4:=Lib.hid hx4
   clear k0 kx b3 b6 hx4
   refine wp_region_held_drew (S:=fun W=>Ext w W∧Blk W w.heap.size [.slice a0 d.signals.length c0,pv,cv].toArray 26∧Blk W (w.heap.size + 1) ((e.with (x :: l)).cells (.slice (some ⟨g,0,none⟩) (l.length + 1) cr)).toArray 44) (by kernel_rfl) ⟨(HX3.out.trans HX4.out).drew,(HD3.out.ext HX4.out).drew,(HE3.out.ext HX4.out).drew⟩ (fun hHeld=>?_)
   try simp only [J]
   (refine Jt 0 (.pointer (some ⟨w.heap.size + 1,1,none⟩)) rfl (yif_load1 rfl (by intro W hW;clear hW;go_simp)) hHeld ?_;try simp only [J])
   (refine Jt 1 (.int .i64 e.w) rfl (yif_load1 rfl (by intro W hW;have y:=hW.2.2.has 1 _ rfl;clear hW;simp only [E.with] at y;go_simp)) hHeld ?_;try simp only [J])
   (refine Jt 2 (.agg [.slice a0 d.signals.length c0,pv,cv].toArray) rfl (yif_load rfl 26 _ rfl rfl (fun W hW=>hW.2.1.has) agg_Flat rfl) hHeld ?_;try simp only [J])
   (refine Jt 3 (.agg ((e.with (x :: l)).cells (.slice (some ⟨g,0,none⟩) (l.length + 1) cr)).toArray) rfl (yif_load rfl 44 _ rfl rfl (fun W hW=>hW.2.2.has) agg_E rfl) hHeld ?_;try simp only [J])
   (refine wpAnyH_ready (rs:=[4]) (by kernel_rfl) (by simp) ?_;refine AllReadyH.cons rfl (fun K hK=>?_) AllReadyH.nil)
   go_simp
   refine (HVAL.out _ HX4.out.drew).mono ?_
   rintro r w5 ⟨rfl,hx5⟩
   refine hK.out _ _ ⟨hHeld.1.trans hx5,hHeld.2.1.ext hx5,hHeld.2.2.ext hx5⟩ (fun hHeld=>?_)
   clear hK K
   try simp only [J]
   (refine Jt 5 (.int .u64 (V:Int)) rfl (yif_load1 rfl (by intro W hW;clear hW;have hf:=field_bits ⟨e.w,V⟩ W;go_simp)) hHeld ?_;try simp only [J])
   (refine wpAnyH_ready (rs:=[6]) (by kernel_rfl) (by simp) ?_;refine AllReadyH.cons rfl (fun K hK=>?_) AllReadyH.nil)
   go_simp
   refine (numberR_calls e.w (V:Int) _).mono ?_
   rintro r w6 ⟨rfl,hx6⟩
   refine hK.out _ _ ⟨hHeld.1.trans hx6,hHeld.2.1.ext hx6,hHeld.2.2.ext hx6⟩ (fun hHeld=>?_)
   clear hK K
   try simp only [J]
   (refine wpAnyH_ready (rs:=[7]) (by kernel_rfl) (by simp) ?_;refine AllReadyH.cons rfl (fun K hK=>?_) AllReadyH.nil)
   refine step_store_blk' rfl 44 _ _ rfl ((HR3.out.ext HX4.out).drew.ext (hx5.trans hx6)) rfl (cs:=E.cells ⟨1,e.w,(V:Int),0,0,0,0,[]⟩ (.slice none 0 0)) rfl agg_E rfl rfl rfl ?_
   intro w8 hb8 hg8
   refine hK.out _ _ ⟨hHeld.1.grown hg8 (by omega),hHeld.2.1.grown hg8 (by omega),hHeld.2.2.grown hg8 (by omega)⟩ (fun hHeld=>?_)
   clear hK K
   refine wpAnyH_done (by kernel_rfl) ?_ _
   go_wp2_with ((with_reducible show bodyPost _ _ _ _ _ _);refine Hid.out ?_)
   refine Lib.hid ?_
   exact post_ret_blk rfl rfl hb8.has agg_E rfl rfl ⟨_,rfl,fv_leafE _ _ _ rfl,hHeld.1⟩
theorem fold10_calls (d:Flat) (hls:∀ x ∈ d.signals,1 ≤ x.w∧x.w ≤ 64) (e:E):WS d.signals e→e.wf→F10Said d e:=by
 induction e using E.ind with
 | h e ih =>
  intro hws hwf
  have hp:=((WS_iff _ e).1 hws).2
  have hw:=((E.wf_iff e).1 hwf).2.2.2.2.2.2.2
  exact fold10_step d hls e hws hwf fun x hx=>ih x hx (hp x hx) (hw x hx)
end Go.Proofs.YtemabheegnngdaaGreat
