/- Laws and walks that a claim of this seat leans on: EvalParts. -/
import Derived.Test.YtemabheegnngdaaGreatQ23
import Derived.Test.YtemabheegnngdaaGreatQ24
import Derived.Test.YtemabheegnngdaaGreatQ27
import Derived.Test.YtemabheegnngdaaGreatQ00
set_option linter.all false
namespace Go.Proofs.YtemabheegnngdaaGreat
open Go.RowKit
set_option maxRecDepth 100000 in
set_option maxHeartbeats 3000000 in
theorem EvalParts_calls (d:Flat) (v:Value) (vs:List Nat) (s:Value) (a:E) (ca:List Value) (b:E) (cb:List Value) (nn:Nat) (w:World) (hF:FlatV w v d) (hok:d.ok) (hs:Us w s vs) (h64:us64 vs) (_:vs.length + 1 ≤ 1048576)
  (hVa:VE w ca a) (hwfa:a.wf) (hna:nodes a ≤ 1048576) (hVb:VE w cb b) (hwfb:b.wf) (hnb:nodes b ≤ 1048576) (hnn:nn < 256) :
  Calls Tryz.prog 8 #[v,s,.agg ca.toArray,.agg cb.toArray,.int .u8 (nn:Int)] w fun r w'=>r=.returned (.bool true)∧Ext w w':=by
 have HFA:=Lib.hid (fun W (h:Ext w W)=>few_calls d v a ca W (hF.ext h) hok (hVa.ext h) hna (Nat.le_trans (deep_le_nodes a) hna))
 have HFB:=Lib.hid (fun W (h:Ext w W)=>few_calls d v b cb W (hF.ext h) hok (hVb.ext h) hnb (Nat.le_trans (deep_le_nodes b) hnb))
 have HEV:=Lib.hid (fun x cx W (h:Ext w W) (hx:VE W cx x) (h1:x.wf) (h2:nodes x ≤ 1048576)=>Eval_calls d v vs s x cx W (hF.ext h) hok (hs.ext h) h64 hx h1 h2)
 have HVA:=Lib.hid (fun W (h:Ext w W)=>hVa.ext h)
 have HVB:=Lib.hid (fun W (h:Ext w W)=>hVb.ext h)
 have HWA:=Lib.hid hwfa
 have HWB:=Lib.hid hwfb
 have HNA:=Lib.hid hna
 have HNB:=Lib.hid hnb
 obtain ⟨sa,rfl,hsa⟩:=hVa
 obtain ⟨sb,rfl,hsb⟩:=hVb
 have HDA:=Lib.hid (fun W (h:Ext w W)=>Deep_calls a sa W (hsa.ext h) (Nat.le_trans (deep_le_nodes a) hna))
 have HDB:=Lib.hid (fun W (h:Ext w W)=>Deep_calls b sb W (hsb.ext h) (Nat.le_trans (deep_le_nodes b) hnb))
 obtain ⟨sv,pv,cv,rfl,hS,hP,hC⟩:=hF
 obtain ⟨av,bv,ov,capv,rfl,-,-,-,-⟩:=hs.open
 have x1:=ext_alloc w (.cells [sv,pv,cv].toArray 26)
 have x2:=ext_alloc (w.alloc (.cells [sv,pv,cv].toArray 26)) (.cells (a.cells sa).toArray 44)
 have x3:=ext_alloc ((w.alloc (.cells [sv,pv,cv].toArray 26)).alloc (.cells (a.cells sa).toArray 44)) (.cells (b.cells sb).toArray 44)
 have hD:=((Blk.new w [sv,pv,cv].toArray 26).ext x2).ext x3
 have hA:=(Blk.new (w.alloc (.cells [sv,pv,cv].toArray 26)) (a.cells sa).toArray 44).ext x3
 have hB:=Blk.new ((w.alloc (.cells [sv,pv,cv].toArray 26)).alloc (.cells (a.cells sa).toArray 44)) (b.cells sb).toArray 44
 have hX:=(x1.trans x2).trans x3
 simp only [World.size_alloc] at hA hB
 clear x1 x2 x3 hS hP hC hs h64 hok hwfa hwfb hna hnb hsa hsb
 obtain ⟨k,hk⟩ : ∃ k:Nat,nn % 6=k:=⟨_,rfl⟩
 have hk6:k < 6:=by omega
 go_enter Tryz.func8,Tryz.ntmps8
 go_upto_region 1 with fail
 generalize ((w.alloc _).alloc _).alloc _=w0 at *
 have HD0:=Lib.hid hD
 have HA0:=Lib.hid hA
 have HB0:=Lib.hid hB
 have HX0:=Lib.hid hX
 clear hD hA hB hX
 go_upto_region 2 with (first | (go_at_call 17;refine (live10_calls _).mono ?_;rintro r w1 ⟨rfl,hx1⟩))
 have HD:=Lib.hid (HD0.out.ext hx1)
 have HA:=Lib.hid (HA0.out.ext hx1)
 have HB:=Lib.hid (HB0.out.ext hx1)
 have HX:=Lib.hid (HX0.out.trans hx1)
 clear hx1 HD0 HA0 HB0 HX0
 have d1:=HD.out.has
 have a1:=HA.out.has
 obtain ⟨q,hq⟩ : ∃ q,fewM d a=q:=⟨_,rfl⟩
 have HQA:=Lib.hid hq
 rw [hq] at HFA
 clear hq
 cases q
 ·go_wp2_with (first | ((with_reducible show wpList _ _ _ (⟨_,Op.load 26 _,_,_,_,_⟩ :: _) _ _);refine wpList_load_has rfl 26 _ rfl rfl (d1) agg_Flat rfl ?_) | ((with_reducible show wpList _ _ _ (⟨_,Op.load 44 _,_,_,_,_⟩ :: _) _ _);refine wpList_load_has rfl 44 _ rfl rfl (a1) agg_E rfl ?_) | (go_at_call 18;refine (HFA.out w1 HX.out).mono ?_;rintro r w2 ⟨rfl,hx2⟩))
  go_ret
  exact ⟨rfl,HX.out.trans hx2⟩
 obtain ⟨q,hq⟩ : ∃ q,fewM d b=q:=⟨_,rfl⟩
 have HQB:=Lib.hid hq
 rw [hq] at HFB
 clear hq
 cases q
 ·go_wp2_with (first | (go_at_call 18;refine (HFA.out w1 HX.out).mono ?_;rintro r w2 ⟨rfl,hx2⟩;have d2:=(HD.out.ext hx2).has;have b2:=(HB.out.ext hx2).has;clear HFA) | (go_at_call 18;refine (HFB.out w2 (HX.out.trans hx2)).mono ?_;rintro r w3 ⟨rfl,hx3⟩) | ((with_reducible show wpList _ _ _ (⟨_,Op.load 26 _,_,_,_,_⟩ :: _) _ _);refine wpList_load_has rfl 26 _ rfl rfl (d1) agg_Flat rfl ?_) | ((with_reducible show wpList _ _ _ (⟨_,Op.load 44 _,_,_,_,_⟩ :: _) _ _);refine wpList_load_has rfl 44 _ rfl rfl (a1) agg_E rfl ?_) | ((with_reducible show wpList _ _ _ (⟨_,Op.load 26 _,_,_,_,_⟩ :: _) _ _);refine wpList_load_has rfl 26 _ rfl rfl (d2) agg_Flat rfl ?_) | ((with_reducible show wpList _ _ _ (⟨_,Op.load 44 _,_,_,_,_⟩ :: _) _ _);refine wpList_load_has rfl 44 _ rfl rfl (b2) agg_E rfl ?_))
  go_ret
  exact ⟨rfl,HX.out.trans (hx2.trans hx3)⟩
 by_cases hl:(600:Int) < (vs.length:Int)
 ·have bl:decide ((600:Int) < (vs.length:Int))=true:=decide_eq_true hl
  clear hl
  go_wp2_with (first | (go_at_call 18;refine (HFA.out w1 HX.out).mono ?_;rintro r w2 ⟨rfl,hx2⟩;have d2:=(HD.out.ext hx2).has;have b2:=(HB.out.ext hx2).has;clear HFA) | (go_at_call 18;refine (HFB.out w2 (HX.out.trans hx2)).mono ?_;rintro r w3 ⟨rfl,hx3⟩) | ((with_reducible show wpList _ _ _ (⟨_,Op.load 26 _,_,_,_,_⟩ :: _) _ _);refine wpList_load_has rfl 26 _ rfl rfl (d1) agg_Flat rfl ?_) | ((with_reducible show wpList _ _ _ (⟨_,Op.load 44 _,_,_,_,_⟩ :: _) _ _);refine wpList_load_has rfl 44 _ rfl rfl (a1) agg_E rfl ?_) | ((with_reducible show wpList _ _ _ (⟨_,Op.load 26 _,_,_,_,_⟩ :: _) _ _);refine wpList_load_has rfl 26 _ rfl rfl (d2) agg_Flat rfl ?_) | ((with_reducible show wpList _ _ _ (⟨_,Op.load 44 _,_,_,_,_⟩ :: _) _ _);refine wpList_load_has rfl 44 _ rfl rfl (b2) agg_E rfl ?_))
  go_ret
  exact ⟨rfl,HX.out.trans (hx2.trans hx3)⟩
 have bl:decide ((600:Int) < (vs.length:Int))=false:=decide_eq_false hl
 clear hl
 go_upto_region 4 with (first | (go_at_call 18;refine (HFA.out w1 HX.out).mono ?_;rintro r w2 ⟨rfl,hx2⟩;have d2:=(HD.out.ext hx2).has;have b2:=(HB.out.ext hx2).has;clear HFA) | (go_at_call 18;refine (HFB.out w2 (HX.out.trans hx2)).mono ?_;rintro r w3 ⟨rfl,hx3⟩) | ((with_reducible show wpList _ _ _ (⟨_,Op.load 26 _,_,_,_,_⟩ :: _) _ _);refine wpList_load_has rfl 26 _ rfl rfl (d1) agg_Flat rfl ?_) | ((with_reducible show wpList _ _ _ (⟨_,Op.load 44 _,_,_,_,_⟩ :: _) _ _);refine wpList_load_has rfl 44 _ rfl rfl (a1) agg_E rfl ?_) | ((with_reducible show wpList _ _ _ (⟨_,Op.load 26 _,_,_,_,_⟩ :: _) _ _);refine wpList_load_has rfl 26 _ rfl rfl (d2) agg_Flat rfl ?_) | ((with_reducible show wpList _ _ _ (⟨_,Op.load 44 _,_,_,_,_⟩ :: _) _ _);refine wpList_load_has rfl 44 _ rfl rfl (b2) agg_E rfl ?_))
 have HD3:=Lib.hid (HD.out.ext (hx2.trans hx3))
 have HA3:=Lib.hid (HA.out.ext (hx2.trans hx3))
 have HB3:=Lib.hid (HB.out.ext (hx2.trans hx3))
 have HX3:=Lib.hid (HX.out.trans (hx2.trans hx3))
 clear hx2 hx3 d1 a1 d2 b2 HD HA HB HX HFB
 have d3:=HD3.out.has
 have a3:=HA3.out.has
 have HE1:=Lib.hid (HEV.out a _ w3 HX3.out (HVA.out w3 HX3.out) HWA.out HNA.out)
 obtain ⟨xa,hxa⟩ : ∃ xa,(evalM d vs a).1=xa:=⟨_,rfl⟩
 obtain ⟨fa,hfa⟩ : ∃ fa,(evalM d vs a).2=fa:=⟨_,rfl⟩
 obtain ⟨xb,hxb⟩ : ∃ xb,(evalM d vs b).1=xb:=⟨_,rfl⟩
 obtain ⟨fb,hfb⟩ : ∃ fb,(evalM d vs b).2=fb:=⟨_,rfl⟩
 rw [hxa,hfa] at HE1
 have HXA:=Lib.hid hxa
 have HFAA:=Lib.hid hfa
 have HXB:=Lib.hid hxb
 have HFBB:=Lib.hid hfb
 clear hxa hfa hxb hfb
 go_upto_region 5 with (first | ((with_reducible show wpList _ _ _ (⟨_,Op.load 26 _,_,_,_,_⟩ :: _) _ _);refine wpList_load_has rfl 26 _ rfl rfl (d3) agg_Flat rfl ?_) | ((with_reducible show wpList _ _ _ (⟨_,Op.load 44 _,_,_,_,_⟩ :: _) _ _);refine wpList_load_has rfl 44 _ rfl rfl (a3) agg_E rfl ?_) | (go_at_call 19;refine (HE1.out).mono ?_;rintro r w4 ⟨rfl,hx4⟩))
 have HD4:=Lib.hid (HD3.out.ext hx4)
 have HA4:=Lib.hid (HA3.out.ext hx4)
 have HB4:=Lib.hid (HB3.out.ext hx4)
 have HX4:=Lib.hid (HX3.out.trans hx4)
 clear hx4 d3 a3 HD3 HA3 HB3 HX3 HE1
 have d4:=HD4.out.has
 have b4:=HB4.out.has
 have HE2:=Lib.hid (HEV.out b _ w4 HX4.out (HVB.out w4 HX4.out) HWB.out HNB.out)
 rw [HXB.out,HFBB.out] at HE2
 go_upto_region 6 with (first | ((with_reducible show wpList _ _ _ (⟨_,Op.load 26 _,_,_,_,_⟩ :: _) _ _);refine wpList_load_has rfl 26 _ rfl rfl (d4) agg_Flat rfl ?_) | ((with_reducible show wpList _ _ _ (⟨_,Op.load 44 _,_,_,_,_⟩ :: _) _ _);refine wpList_load_has rfl 44 _ rfl rfl (b4) agg_E rfl ?_) | (go_at_call 19;refine (HE2.out).mono ?_;rintro r w5 ⟨rfl,hx5⟩))
 have HD5:=Lib.hid (HD4.out.ext hx5)
 have HA5:=Lib.hid (HA4.out.ext hx5)
 have HB5:=Lib.hid (HB4.out.ext hx5)
 have HX5:=Lib.hid (HX4.out.trans hx5)
 clear hx5 d4 b4 HD4 HA4 HB4 HX4 HE2
 have ga:=HA5.out.has 1 _ rfl
 have gb:=HB5.out.has 1 _ rfl
 by_cases h0:fa=0
 case neg =>
  have c0:(fa != 0)=true:=by rw [bne_iff_ne];exact h0
  clear h0
  go_wp2_with fail
  go_ret
  exact ⟨rfl,HX5.out⟩
 subst h0
 by_cases h0:fb=0
 case neg =>
  have c0:(fb != 0)=true:=by rw [bne_iff_ne];exact h0
  clear h0
  go_wp2_with fail
  go_ret
  exact ⟨rfl,HX5.out⟩
 subst h0
 by_cases hww:a.w=b.w
 case neg =>
  have c0:(a.w != b.w)=true:=by rw [bne_iff_ne];exact hww
  clear hww
  go_wp2_with fail
  go_ret
  exact ⟨rfl,HX5.out⟩
 have c0:(a.w != b.w)=false:=by rw [bne_eq_false_iff_eq];exact hww
 have a5:=HA5.out.has
 have HDA1:=Lib.hid (HDA.out w5 HX5.out)
 by_cases hda:(60:Int) < (deep a:Int)
 ·have c1:decide ((60:Int) < (deep a:Int))=true:=decide_eq_true hda
  clear hda hww
  go_wp2_with (first | ((with_reducible show wpList _ _ _ (⟨_,Op.load 44 _,_,_,_,_⟩ :: _) _ _);refine wpList_load_has rfl 44 _ rfl rfl (a5) agg_E rfl ?_) | (go_at_call 32;refine (HDA1.out).mono ?_;rintro r w6 ⟨rfl,hx6⟩))
  go_ret
  exact ⟨rfl,HX5.out.trans hx6⟩
 have c1:decide ((60:Int) < (deep a:Int))=false:=decide_eq_false hda
 have HDB1:=Lib.hid (fun W (h:Ext w5 W)=>HDB.out W (HX5.out.trans h))
 by_cases hdb:(60:Int) < (deep b:Int)
 ·have c2:decide ((60:Int) < (deep b:Int))=true:=decide_eq_true hdb
  clear hda hdb hww
  go_wp2_with (first | ((with_reducible show wpList _ _ _ (⟨_,Op.load 44 _,_,_,_,_⟩ :: _) _ _);refine wpList_load_has rfl 44 _ rfl rfl (a5) agg_E rfl ?_) | (go_at_call 32;refine HDA1.out.mono ?_;rintro r w6 ⟨rfl,hx6⟩;have b6:=(HB5.out.ext hx6).has;clear HDA1) | ((with_reducible show wpList _ _ _ (⟨_,Op.load 44 _,_,_,_,_⟩ :: _) _ _);refine wpList_load_has rfl 44 _ rfl rfl (b6) agg_E rfl ?_) | (go_at_call 32;refine (HDB1.out _ hx6).mono ?_;rintro r w7 ⟨rfl,hx7⟩))
  go_ret
  exact ⟨rfl,HX5.out.trans (hx6.trans hx7)⟩
 have c2:decide ((60:Int) < (deep b:Int))=false:=decide_eq_false hdb
 have hfa:=HQA.out
 have hfb:=HQB.out
 unfold fewM at hfa hfb
 simp only [Bool.and_eq_true,decide_eq_true_eq] at hfa hfb
 have EA:=evOk HFAA.out
 have EB:=evOk HFBB.out
 have hxae:=HXA.out
 have hxbe:=HXB.out
 rw [EA.ev] at hxae
 rw [EB.ev] at hxbe
 simp only at hxae hxbe
 obtain ⟨p1,p2,p3⟩:=parts_law EA EB hww hfa.1.2 hfb.1.2 (by omega) (by omega) (k:Int) (by omega) (by omega)
 rw [hxae,hxbe] at p1 p2 p3
 obtain ⟨-,o1,o2⟩:=ws_own EA.le a EA.ws
 have hva:=ev_lt (vs:=vs) EA.le a EA.ws HWA.out
 have hvb:=ev_lt (vs:=vs) EB.le b EB.ws HWB.out
 rw [hxae] at hva
 rw [hxbe,← hww] at hvb
 have hBt1:(Bt.ok ⟨a.w,xa⟩):=⟨o1,o2,hva⟩
 have hBt2:(Bt.ok ⟨b.w,xb⟩):=by rw [← hww];exact ⟨o1,o2,hvb⟩
 have HR1:=Lib.hid (fun W=>BinR_calls (11 + (k:Int)) (by omega) (by omega) ⟨a.w,xa⟩ ⟨b.w,xb⟩ hBt1 hBt2 (fun _ _=>hww) (by intro h;omega) W)
 have HR2:=Lib.hid (fun W=>BinR_calls (19 + (k:Int)) (by omega) (by omega) ⟨a.w,xa⟩ ⟨b.w,xb⟩ hBt1 hBt2 (fun _ _=>hww) (by intro h;omega) W)
 have HBV:=Lib.hid (fun (wd n:Int) W (h:Ext w W)=>bin_calls wd n a b (a.cells sa) (b.cells sb) W (HVA.out W h) (HVB.out W h))
 have hbw:i64r a.w:=((E.wf_iff a).1 HWA.out).2.1
 have HF1:=Lib.hid (bin_wf (n:=11 + (k:Int)) hbw (by unfold i64r;omega) HWA.out HWB.out)
 have HF2:=Lib.hid (bin_wf (wd:=1) (n:=19 + (k:Int)) (by unfold i64r;omega) (by unfold i64r;omega) HWA.out HWB.out)
 have HF3:=Lib.hid (cond_wf hbw HF2.out HWA.out HWB.out)
 have HN1:=Lib.hid (show nodes (binE a.w (11 + (k:Int)) a b) ≤ 1048576 by have:=(bin_nodes a.w (11 + (k:Int)) a b).1;omega)
 have HN2:=Lib.hid (show nodes (binE 1 (19 + (k:Int)) a b) ≤ 1048576 by have:=(bin_nodes 1 (19 + (k:Int)) a b).1;omega)
 have HN3:=Lib.hid (show nodes (condE a.w (binE 1 (19 + (k:Int)) a b) a b) ≤ 1048576 by have:=(bin_nodes 1 (19 + (k:Int)) a b).1;have:=(cond_nodes a.w (binE 1 (19 + (k:Int)) a b) a b).1;omega)
 have HE1:=Lib.hid (fun cx W (h:Ext w W) (hx:VE W cx (binE a.w (11 + (k:Int)) a b))=>HEV.out _ cx W h hx HF1.out HN1.out)
 have HE2:=Lib.hid (fun cx W (h:Ext w W) (hx:VE W cx (binE 1 (19 + (k:Int)) a b))=>HEV.out _ cx W h hx HF2.out HN2.out)
 have HE3:=Lib.hid (fun cx W (h:Ext w W) (hx:VE W cx (condE a.w (binE 1 (19 + (k:Int)) a b) a b))=>HEV.out _ cx W h hx HF3.out HN3.out)
 rw [p1] at HE1
 rw [p2] at HE2
 rw [p3] at HE3
 have hbo1:binW (11 + (k:Int)) a.w=a.w:=by unfold binW;rw [if_pos (by omega)]
 have hbo2:binW (19 + (k:Int)) a.w=1:=by unfold binW;rw [if_neg (by omega)]
 simp only [hbo1] at HR1
 simp only [hbo2] at HR2
 obtain ⟨z1,hz1⟩ : ∃ z,binM (11 + (k:Int)) a.w.toNat xa xb=z:=⟨_,rfl⟩
 obtain ⟨z2,hz2⟩ : ∃ z,binM (19 + (k:Int)) a.w.toNat xa xb=z:=⟨_,rfl⟩
 obtain ⟨z3,hz3⟩ : ∃ z,(if z2=1 then xa else xb)=z:=⟨_,rfl⟩
 rw [hz1] at HE1 HR1
 rw [hz2] at HE2 HE3 HR2
 rw [hz3] at HE3
 have HZ3:=Lib.hid hz3
 clear p1 p2 p3 hBt1 hBt2 EA EB hxae hxbe o1 o2 hva hvb hz1 hz2 hz3 hbo1 hbo2 hbw hfa hfb hda hdb HEV
 have hmod:((nn:Int) % 6)=(k:Int):=by omega
 have HKK:=Lib.hid hk
 clear hk hww
 go_upto_region 10 with (first | ((with_reducible show wpList _ _ _ (⟨_,Op.load 44 _,_,_,_,_⟩ :: _) _ _);refine wpList_load_has rfl 44 _ rfl rfl (a5) agg_E rfl ?_) | (go_at_call 32;refine HDA1.out.mono ?_;rintro r w6 ⟨rfl,hx6⟩;have b6:=(HB5.out.ext hx6).has;clear HDA1) | ((with_reducible show wpList _ _ _ (⟨_,Op.load 44 _,_,_,_,_⟩ :: _) _ _);refine wpList_load_has rfl 44 _ rfl rfl (b6) agg_E rfl ?_) | (go_at_call 32;refine (HDB1.out _ hx6).mono ?_;rintro r w7 ⟨rfl,hx7⟩))
 have HD7:=Lib.hid (HD5.out.ext (hx6.trans hx7))
 have HA7:=Lib.hid (HA5.out.ext (hx6.trans hx7))
 have HB7:=Lib.hid (HB5.out.ext (hx6.trans hx7))
 have HX7:=Lib.hid (HX5.out.trans (hx6.trans hx7))
 clear hx6 hx7 a5 b6 ga gb HD5 HA5 HB5 HX5 HDB1 HDA HDB hmod c0 c1 c2
 refine wp_region_held_drew (S:=fun W=>Ext w7 W) (by kernel_rfl) (Below.drew (Below.refl _ _)) (fun hHeld=>?_)
 try simp only [J]
 (refine Jt 0 (.agg [sv,pv,cv].toArray) rfl (yif_load rfl 26 _ rfl rfl (fun W hW=>(HD7.out.ext hW).has) agg_Flat rfl) hHeld ?_;try simp only [J])
 (refine Jt 1 (.slice av vs.length capv) rfl (yif_load1 rfl fun _ _=>rfl) hHeld ?_;try simp only [J])
 (refine Jt 2 (.pointer (some ⟨w.heap.size + 1,1,none⟩)) rfl (yif_load1 rfl (by intro W hW;clear hW;go_simp)) hHeld ?_;try simp only [J])
 (refine Jt 3 (.int .i64 a.w) rfl (yif_load1 rfl (by intro W hW;have y:=(HA7.out.ext hW).has 1 _ rfl;clear hW;go_simp)) hHeld ?_;try simp only [J])
 (refine Jt 4 (.int .i64 (11 + (k:Int))) rfl (yif_load1 rfl fun _ _=>rfl) hHeld ?_;try simp only [J])
 (refine Jt 5 (.agg (a.cells sa).toArray) rfl (yif_load rfl 44 _ rfl rfl (fun W hW=>(HA7.out.ext hW).has) agg_E rfl) hHeld ?_;try simp only [J])
 (refine Jt 6 (.agg (b.cells sb).toArray) rfl (yif_load rfl 44 _ rfl rfl (fun W hW=>(HB7.out.ext hW).has) agg_E rfl) hHeld ?_;try simp only [J])
 (refine wpAnyH_ready (rs:=[7]) (by kernel_rfl) (by simp) ?_;refine AllReadyH.cons rfl (fun K hK=>?_) AllReadyH.nil)
 go_simp
 refine (HBV.out a.w (11 + (k:Int)) _ (HX7.out.trans hHeld)).mono ?_
 rintro r w8 ⟨c8,rfl,hv8,hx8⟩
 have HV8:=Lib.hid hv8
 refine hK.out _ _ (hHeld.trans hx8) (fun hHeld=>?_)
 clear hK K hv8 hx8
 try simp only [J]
 (refine wpAnyH_ready (rs:=[8]) (by kernel_rfl) (by simp) ?_;refine AllReadyH.cons rfl (fun K hK=>?_) AllReadyH.nil)
 go_simp
 refine (HE1.out c8 w8 (HX7.out.trans hHeld) HV8.out).mono ?_
 rintro r w9 ⟨rfl,hx9⟩
 refine hK.out _ _ (hHeld.trans hx9) (fun hHeld=>?_)
 clear hK K hx9
 try simp only [J]
 (refine Jt 9 (.tuple #[.int .u64 (z1:Int),.int .i64 0]) rfl (yif_load1 rfl fun _ _=>rfl) hHeld ?_;try simp only [J])
 (refine Jt 10 (.int .u64 (z1:Int)) rfl (yif_load1 rfl (by intro W hW;clear hW;go_simp)) hHeld ?_;try simp only [J])
 (refine Jt 11 (.int .i64 0) rfl (yif_load1 rfl (by intro W hW;clear hW;go_simp)) hHeld ?_;try simp only [J])
 (refine Jt 12 (.int .u64 (z1:Int)) rfl (yif_load1 rfl fun _ _=>rfl) hHeld ?_;try simp only [J])
 (refine Jt 13 (.int .i64 0) rfl (yif_load1 rfl fun _ _=>rfl) hHeld ?_;try simp only [J])
 refine wpAnyH_done (by kernel_rfl) ?_ _
 have HD9:=Lib.hid (HD7.out.ext hHeld)
 have HA9:=Lib.hid (HA7.out.ext hHeld)
 have HB9:=Lib.hid (HB7.out.ext hHeld)
 have HX9:=Lib.hid (HX7.out.trans hHeld)
 clear hHeld HD7 HA7 HB7 HX7
 go_upto_region 11 with fail
 refine wp_region_held_drew (S:=fun W=>Ext w9 W) (by kernel_rfl) (Below.drew (Below.refl _ _)) (fun hHeld=>?_)
 try simp only [J]
 (refine Jt 0 (.agg [sv,pv,cv].toArray) rfl (yif_load rfl 26 _ rfl rfl (fun W hW=>(HD9.out.ext hW).has) agg_Flat rfl) hHeld ?_;try simp only [J])
 (refine Jt 1 (.slice av vs.length capv) rfl (yif_load1 rfl fun _ _=>rfl) hHeld ?_;try simp only [J])
 (refine Jt 2 (.int .i64 (19 + (k:Int))) rfl (yif_load1 rfl fun _ _=>rfl) hHeld ?_;try simp only [J])
 (refine Jt 3 (.agg (a.cells sa).toArray) rfl (yif_load rfl 44 _ rfl rfl (fun W hW=>(HA9.out.ext hW).has) agg_E rfl) hHeld ?_;try simp only [J])
 (refine Jt 4 (.agg (b.cells sb).toArray) rfl (yif_load rfl 44 _ rfl rfl (fun W hW=>(HB9.out.ext hW).has) agg_E rfl) hHeld ?_;try simp only [J])
 (refine wpAnyH_ready (rs:=[5]) (by kernel_rfl) (by simp) ?_;refine AllReadyH.cons rfl (fun K hK=>?_) AllReadyH.nil)
 go_simp
 refine (HBV.out 1 (19 + (k:Int)) _ (HX9.out.trans hHeld)).mono ?_
 rintro r w10 ⟨c10,rfl,hv10,hx10⟩
 have HV10:=Lib.hid hv10
 refine hK.out _ _ (hHeld.trans hx10) (fun hHeld=>?_)
 clear hK K hv10 hx10
 try simp only [J]
 (refine wpAnyH_ready (rs:=[6]) (by kernel_rfl) (by simp) ?_;refine AllReadyH.cons rfl (fun K hK=>?_) AllReadyH.nil)
 go_simp
 refine (HE2.out c10 w10 (HX9.out.trans hHeld) HV10.out).mono ?_
 rintro r w11 ⟨rfl,hx11⟩
 refine hK.out _ _ (hHeld.trans hx11) (fun hHeld=>?_)
 clear hK K hx11
 try simp only [J]
 (refine Jt 7 (.tuple #[.int .u64 (z2:Int),.int .i64 0]) rfl (yif_load1 rfl fun _ _=>rfl) hHeld ?_;try simp only [J])
 (refine Jt 8 (.int .u64 (z2:Int)) rfl (yif_load1 rfl (by intro W hW;clear hW;go_simp)) hHeld ?_;try simp only [J])
 (refine Jt 9 (.int .i64 0) rfl (yif_load1 rfl (by intro W hW;clear hW;go_simp)) hHeld ?_;try simp only [J])
 (refine Jt 10 (.int .u64 (z2:Int)) rfl (yif_load1 rfl fun _ _=>rfl) hHeld ?_;try simp only [J])
 (refine Jt 11 (.int .i64 0) rfl (yif_load1 rfl fun _ _=>rfl) hHeld ?_;try simp only [J])
 refine wpAnyH_done (by kernel_rfl) ?_ _
 have HD11:=Lib.hid (HD9.out.ext hHeld)
 have HA11:=Lib.hid (HA9.out.ext hHeld)
 have HB11:=Lib.hid (HB9.out.ext hHeld)
 have HX11:=Lib.hid (HX9.out.trans hHeld)
 clear hHeld HD9 HA9 HB9 HX9
 go_upto_region 12 with fail
 refine wp_region_held_drew (S:=fun W=>Ext w11 W) (by kernel_rfl) (Below.drew (Below.refl _ _)) (fun hHeld=>?_)
 try simp only [J]
 (refine Jt 0 (.agg [sv,pv,cv].toArray) rfl (yif_load rfl 26 _ rfl rfl (fun W hW=>(HD11.out.ext hW).has) agg_Flat rfl) hHeld ?_;try simp only [J])
 (refine Jt 1 (.slice av vs.length capv) rfl (yif_load1 rfl fun _ _=>rfl) hHeld ?_;try simp only [J])
 (refine Jt 2 (.pointer (some ⟨w.heap.size + 1,1,none⟩)) rfl (yif_load1 rfl (by intro W hW;clear hW;go_simp)) hHeld ?_;try simp only [J])
 (refine Jt 3 (.int .i64 a.w) rfl (yif_load1 rfl (by intro W hW;have y:=(HA11.out.ext hW).has 1 _ rfl;clear hW;go_simp)) hHeld ?_;try simp only [J])
 (refine Jt 4 (.int .i64 (19 + (k:Int))) rfl (yif_load1 rfl fun _ _=>rfl) hHeld ?_;try simp only [J])
 (refine Jt 5 (.agg (a.cells sa).toArray) rfl (yif_load rfl 44 _ rfl rfl (fun W hW=>(HA11.out.ext hW).has) agg_E rfl) hHeld ?_;try simp only [J])
 (refine Jt 6 (.agg (b.cells sb).toArray) rfl (yif_load rfl 44 _ rfl rfl (fun W hW=>(HB11.out.ext hW).has) agg_E rfl) hHeld ?_;try simp only [J])
 (refine Jt 8 (.agg (a.cells sa).toArray) rfl (yif_load rfl 44 _ rfl rfl (fun W hW=>(HA11.out.ext hW).has) agg_E rfl) hHeld ?_;try simp only [J])
 (refine Jt 9 (.agg (b.cells sb).toArray) rfl (yif_load rfl 44 _ rfl rfl (fun W hW=>(HB11.out.ext hW).has) agg_E rfl) hHeld ?_;try simp only [J])
 (refine wpAnyH_ready (rs:=[7]) (by kernel_rfl) (by simp) ?_;refine AllReadyH.cons rfl (fun K hK=>?_) AllReadyH.nil)
 go_simp
 refine (HBV.out 1 (19 + (k:Int)) _ (HX11.out.trans hHeld)).mono ?_
 rintro r w12 ⟨c12,rfl,hv12,hx12⟩
 have HV12:=Lib.hid hv12
 refine hK.out _ _ (hHeld.trans hx12) (fun hHeld=>?_)
 clear hK K hv12 hx12
 try simp only [J]
 have h128:c12.length=8:=HV12.out.len8
 (refine wpAnyH_ready (rs:=[10]) (by kernel_rfl) (by simp) ?_;refine AllReadyH.cons rfl (fun K hK=>?_) AllReadyH.nil)
 refine step_bsN rfl _ 3 _ rfl appE (vs:=[.agg c12.toArray,.agg (a.cells sa).toArray,.agg (b.cells sb).toArray]) rfl rfl (css:=[c12,a.cells sa,b.cells sb]) rfl (by intro c hc;simp at hc;rcases hc with rfl | rfl | rfl;exact h128;rfl;rfl) (by decide) (by decide) ?_
 have hx13:=ext_alloc w12 (.cells [c12,a.cells sa,b.cells sb].flatten.toArray 44)
 have hb13:=Has.alloc w12 [c12,a.cells sa,b.cells sb].flatten 44
 have hv13:=HV12.out.ext hx13
 refine hK.out _ _ (hHeld.trans hx13) (fun hHeld=>?_)
 clear hK K hx13
 generalize w12.alloc _=w13 at *
 obtain ⟨G,hG⟩ : ∃ G,w12.heap.size=G:=⟨_,rfl⟩
 rw [hG] at hb13 ⊢
 clear hG
 have hvc:VE w13 [.int .i64 6,.int .i64 a.w,.int .u64 0,.int .i64 0,.int .i64 0,.int .i64 0,.int .i64 0,.slice (some ⟨G,0,none⟩) 3 3] (condE a.w (binE 1 (19 + (k:Int)) a b) a b):=by
  refine ⟨_,rfl,⟨G,0,⟨_,3,rfl,Nat.le_refl _,by simp [maxLen],fun _=>rfl⟩,rows_of_flat (V:=VE) (At:=EAt) (fun _ _ _ _ _ h hv=>VE.at h hv) [binE 1 (19 + (k:Int)) a b,a,b] [c12,a.cells sa,b.cells sb] w13 G 0 hb13 rfl (by intro c hc;simp at hc;rcases hc with rfl | rfl | rfl;exact h128;rfl;rfl) ?_⟩⟩
  intro i hi hi'
  match i,hi with
  | 0,_=>exact hv13
  | 1,_=>exact HVA.out w13 (HX11.out.trans hHeld)
  | 2,_=>exact HVB.out w13 (HX11.out.trans hHeld)
 have HVC:=Lib.hid hvc
 clear hvc hb13 hv13 h128 HV12
 try simp only [J]
 (refine Jt 11 (.agg #[.int .i64 6,.int .i64 a.w,.int .u64 0,.int .i64 0,.int .i64 0,.int .i64 0,.int .i64 0,.slice (some ⟨G,0,none⟩) 3 3]) rfl (yif_load1 rfl (by intro W hW;clear hW;go_simp)) hHeld ?_;try simp only [J])
 (refine wpAnyH_ready (rs:=[12]) (by kernel_rfl) (by simp) ?_;refine AllReadyH.cons rfl (fun K hK=>?_) AllReadyH.nil)
 go_simp
 refine (HE3.out _ w13 (HX11.out.trans hHeld) HVC.out).mono ?_
 rintro r w14 ⟨rfl,hx14⟩
 refine hK.out _ _ (hHeld.trans hx14) (fun hHeld=>?_)
 clear hK K hx14
 try simp only [J]
 (refine Jt 13 (.tuple #[.int .u64 (z3:Int),.int .i64 0]) rfl (yif_load1 rfl fun _ _=>rfl) hHeld ?_;try simp only [J])
 (refine Jt 14 (.int .u64 (z3:Int)) rfl (yif_load1 rfl (by intro W hW;clear hW;go_simp)) hHeld ?_;try simp only [J])
 (refine Jt 15 (.int .i64 0) rfl (yif_load1 rfl (by intro W hW;clear hW;go_simp)) hHeld ?_;try simp only [J])
 (refine Jt 16 (.int .u64 (z3:Int)) rfl (yif_load1 rfl fun _ _=>rfl) hHeld ?_;try simp only [J])
 (refine Jt 17 (.int .i64 0) rfl (yif_load1 rfl fun _ _=>rfl) hHeld ?_;try simp only [J])
 refine wpAnyH_done (by kernel_rfl) ?_ _
 have HD14:=Lib.hid (HD11.out.ext hHeld)
 have HA14:=Lib.hid (HA11.out.ext hHeld)
 have HB14:=Lib.hid (HB11.out.ext hHeld)
 have HX14:=Lib.hid (HX11.out.trans hHeld)
 clear hHeld HD11 HA11 HB11 HX11
 have ga:=HA14.out.has 1 _ rfl
 have gb:=HB14.out.has 1 _ rfl
 go_upto_region 14 with (first | (go_at_call 34;refine (HR1.out _).mono ?_;rintro r w15 ⟨rfl,hx15⟩;clear HR1) | ((with_reducible show wpList _ _ _ (⟨_,Op.store 60 _ _,_,_,_,_⟩ :: _) _ _);refine wpList_store_new rfl 60 _ _ rfl rfl (by first | rfl | simp) rfl agg_Bits (rfl) rfl (rfl) ?_))
 have hx16:=ext_alloc w15 (.cells (Bt.cells ⟨a.w,z1⟩).toArray 60)
 have hb16:=Blk.new w15 (Bt.cells ⟨a.w,z1⟩).toArray 60
 obtain ⟨P,hP⟩ : ∃ G,w15.heap.size=G:=⟨_,rfl⟩
 rw [hP] at hb16 ⊢
 clear hP
 generalize w15.alloc _=w16 at *
 have HX16:=Lib.hid (HX14.out.trans (hx15.trans hx16))
 have HP16:=Lib.hid hb16
 have ga:=(HA14.out.ext (hx15.trans hx16)).has 1 _ rfl
 have gb:=(HB14.out.ext (hx15.trans hx16)).has 1 _ rfl
 clear hx15 hx16 hb16
 go_upto_region 15 with (first | (go_at_call 34;refine (HR2.out _).mono ?_;rintro r w17 ⟨rfl,hx17⟩) | ((with_reducible show wpList _ _ _ (⟨_,Op.store 60 _ _,_,_,_,_⟩ :: _) _ _);refine wpList_store_new rfl 60 _ _ rfl rfl (by first | rfl | simp) rfl agg_Bits (rfl) rfl (rfl) ?_))
 have hx18:=ext_alloc w17 (.cells (Bt.cells ⟨1,z2⟩).toArray 60)
 have hb18:=Blk.new w17 (Bt.cells ⟨1,z2⟩).toArray 60
 obtain ⟨R,hR⟩ : ∃ G,w17.heap.size=G:=⟨_,rfl⟩
 rw [hR] at hb18 ⊢
 clear hR
 generalize w17.alloc _=w18 at *
 have HX18:=Lib.hid (HX16.out.trans (hx17.trans hx18))
 have gp:=(HP16.out.ext (hx17.trans hx18)).has 1 _ rfl
 have gr:=hb18.has 1 _ rfl
 clear hx17 hx18 hb18 ga gb
 by_cases hq:z2=1
 ·have bq:((z2:Int) == 1)=true:=by rw [beq_iff_eq];omega
  obtain rfl:z3=xa:=by rw [← HZ3.out,if_pos hq]
  clear hq HZ3
  go_wp2_with fail
  go_ret
  exact ⟨rfl,HX18.out⟩
 ·have bq:((z2:Int) == 1)=false:=by rw [beq_eq_false_iff_ne];omega
  obtain rfl:z3=xb:=by rw [← HZ3.out,if_neg hq]
  clear hq HZ3
  go_wp2_with fail
  go_ret
  exact ⟨rfl,HX18.out⟩
end Go.Proofs.YtemabheegnngdaaGreat
