/- Laws and walks that a claim of this seat leans on: Expr, Eval1, EvalL, Eval2, Eval3. -/
import Derived.Test.YtpngepnfinbaoaaGreatC13
import Derived.Test.YtpngepnfinbaoaaGreatC14
import Derived.Test.YtpngepnfinbaoaaGreatC16
import Derived.Test.YtpngepnfinbaoaaGreatC18
import Derived.Test.YtpngepnfinbaoaaGreatC01
import Derived.Test.YtpngepnfinbaoaaGreatC00
set_option maxRecDepth 100000
set_option maxHeartbeats 8000000
set_option linter.all false
namespace Go.Proofs.YtpngepnfinbaoaaGreat
open Go.RowKit
def exprBad (ls:List Signal) (e:E) (want:Int):Bool:=!(sigsOk [[]] ls)||decide (want<0)||decide (64<want)||!(shape ls e)
def exprM (ls:List Signal) (e:E) (want:Int):Except Int E :=
 if exprBad ls e want=true then .error 1 else if (decide (nodes e<=65536)&&decide (deep e<=64))=false then .error 2 else sizeE e want
def checkEM (ls:List Signal) (e:E):Int:=match exprM ls e e.w with
 | .error f=>f
 | .ok x=>if e.w=0\/eqE x e=false then 90 else 0
def ExprP (w:World) (o:Except Int E) (r:Ending) (w':World):Prop :=
 (∃ g,o=.error g/\g≠0/\r=.returned (.tuple #[.agg zeroE.toArray,.int .i64 g])/\Ext w w') \/
 (∃ y cs,o=.ok y/\r=.returned (.tuple #[.agg cs.toArray,.int .i64 0])/\FE w.heap.size w' cs y/\Ext w w')
theorem Expr_calls (d:Flat) (v:Value) (e:E) (want:Int) (cs:List Value) (w:World) (hF:FlatV w v d) (hok:d.ok) (hV:VE w cs e) (hwf:e.wf) (hn:nodes e<=1048576) :
  Calls Tryz.prog 57 #[v,.agg cs.toArray,.int .i64 want] w (ExprP w (exprM d.signals e want)):=by
 obtain ⟨sv,pv,cv,rfl,hS,hP,hC⟩:=hF
 have hone:[sv,pv,cv].all (·.oneCell')=true:=by simp [hS.one,hP.one,hC.one]
 have h8:cs.length=8:=by obtain ⟨s,rfl,-⟩:=hV;rfl
 have x1:=ext_alloc w (.cells [sv,pv,cv].toArray 26)
 have x2:=ext_alloc (w.alloc (.cells [sv,pv,cv].toArray 26)) (.cells cs.toArray 31)
 have x3:=ext_alloc ((w.alloc (.cells [sv,pv,cv].toArray 26)).alloc (.cells cs.toArray 31)) (.cells zeroE.toArray 31)
 have hD:=((Blk.new w [sv,pv,cv].toArray 26).ext x2).ext x3
 have hE:=(Blk.new (w.alloc (.cells [sv,pv,cv].toArray 26)) cs.toArray 31).ext x3
 have hR:=Blk.new ((w.alloc (.cells [sv,pv,cv].toArray 26)).alloc (.cells cs.toArray 31)) zeroE.toArray 31
 have HX:=(x1.trans x2).trans x3
 simp only [World.size_alloc] at hE hR
 clear x1 x2 x3
 have HS:=Jh (hS.ext HX)
 have HV:=Jh (hV.ext HX)
 have HOK:=Jh hok
 have HWF:=Jh hwf
 have HN:=Jh hn
 have HSV:=Jh (fun W (h:Ext w W)=>signals_calls d.signals sv W (hS.ext h) hok.wf.signals hok.signals)
 have HSH:=Jh (fun W (h:Ext w W)=>shape_calls d.signals e hwf sv cs W (hS.ext h) (hV.ext h))
 have HCE:=Jh (fun W (h:Ext w W)=>countE_calls e cs W (hV.ext h) hn)
 have HVX:=Jh (fun W (h:Ext w W)=>hV.ext h)
 obtain ⟨a0,b0,o0,c0,rfl,-,-,-,-⟩:=hS.open
 obtain ⟨ap,bp,op,cp,rfl,-,-,-,-⟩:=hP.open
 obtain ⟨ac,bc,oc,cc,rfl,-,-,-,-⟩:=hC.open
 clear hS hP hC hV hok hwf hn HS HV
 obtain ⟨OUT,hout⟩:∃ o,exprM d.signals e want=o:=⟨_,rfl⟩
 have HOUT:=Jh hout
 rw [hout]
 clear hout
 go_enter Tryz.func57,Tryz.ntmps57
 go_upto_region 1 with fail
 generalize ((w.alloc _).alloc _).alloc _=w0 at *
 have HD:=Jh hD
 have HE:=Jh hE
 have HR:=Jh hR
 have HXX:=Jh HX
 have g0:=hD.has 0 _ rfl
 clear hD hE hR HX
 go_cut [8] from 9 to 28 (fun u wx=>u=.bool (exprBad d.signals e want)/\Ext w0 wx)
 case first =>
  obtain ⟨s,hs⟩:∃ s,sigsOk [[]] d.signals=s:=⟨_,rfl⟩
  obtain ⟨p,hp⟩:∃ p,shape d.signals e=p:=⟨_,rfl⟩
  have HEB:=Jh (show exprBad d.signals e want=(!s||decide (want<0)||decide (64<want)||!p) by unfold exprBad;rw [hs,hp])
  have HSV2:=Jh (HSV.out w0 HXX.out)
  rw [hs] at HSV2
  have HSH2:=Jh (fun W (h:Ext w W)=>by have:=HSH.out W h;rw [hp] at this;exact this)
  clear hs hp
  cases s
  ·go_wp2_with (first | (go_at_call 85;refine (HSV2.out).mono ?_;rintro r w1 ⟨rfl,hx1⟩))
   go_meet
   exact ⟨by rw [HEB.out];rfl,hx1⟩
  ·by_cases c1:want<0
   ·go_wp2_with (first | (go_at_call 85;refine (HSV2.out).mono ?_;rintro r w1 ⟨rfl,hx1⟩))
    go_meet
    exact ⟨by rw [HEB.out,decide_eq_true c1];rfl,hx1⟩
   ·by_cases c2:64<want
    ·go_wp2_with (first | (go_at_call 85;refine (HSV2.out).mono ?_;rintro r w1 ⟨rfl,hx1⟩))
     go_meet
     exact ⟨by rw [HEB.out,decide_eq_true c2];simp,hx1⟩
    ·have b1:decide (want<0)=false:=decide_eq_false c1
     have b2:decide (64<want)=false:=decide_eq_false c2
     cases p
     all_goals go_wp2_with (first | (go_at_call 85;refine HSV2.out.mono ?_;rintro r w1 ⟨rfl,hx1⟩;have g1:=(HD.out.ext hx1).has 0 _ rfl;have k1:=(HE.out.ext hx1).has) | ((with_reducible show Jl 31);refine Jm 31 (k1) agg_E h8 ?_) | (go_at_call 84;refine (HSH2.out _ (HXX.out.trans hx1)).mono ?_;rintro r w2 ⟨rfl,hx2⟩))
     all_goals go_meet
     all_goals exact ⟨by rw [HEB.out,show decide (want<0)=false from decide_eq_false (by omega),show decide (64<want)=false from decide_eq_false (by omega)];rfl,hx1.trans hx2⟩
 case rest =>
  obtain ⟨rfl,hx1⟩:=hcut
  have HX1:=Jh hx1
  clear hx1 g0
  obtain ⟨bad,hbad⟩:∃ b,exprBad d.signals e want=b:=⟨_,rfl⟩
  have HB:=Jh hbad
  rw [hbad]
  clear hbad
  have HR1:=Jh (HR.out.ext HX1.out)
  have HXA:=Jh (HXX.out.trans HX1.out)
  have k1:=(HE.out.ext HX1.out).has
  cases bad
  ·obtain ⟨ok,hok⟩:∃ b,(decide (nodes e<=65536)&&decide (deep e<=64))=b:=⟨_,rfl⟩
   have HFB:=Jh hok
   have HFT:=Jh (fun W=>cfits_calls (nodes e) (deep e) W)
   rw [hok] at HFT
   clear hok
   cases ok
   ·have ho:=HOUT.out
    unfold exprM at ho
    rw [HB.out,HFB.out] at ho
    simp at ho
    subst ho
    go_wp2_with (first | ((with_reducible show Jl 31);refine Jm 31 (k1) agg_E h8 ?_) | (go_at_call 77;refine (HCE.out _ HXA.out).mono ?_;rintro r w1 ⟨rfl,hx1⟩) | (go_at_call 78;refine (HFT.out _).mono ?_;rintro r w2 ⟨rfl,hx2⟩) | ((with_reducible show Js 31);refine wpList_store_blk rfl 31 _ _ rfl (HR1.out.ext (hx1.trans hx2)) rfl (cs:=zeroE) (rfl) agg_E (rfl) rfl (rfl) ?_;intro w4 hb4 hg4))
    refine post_ret_blk2 rfl rfl rfl hb4.has agg_E rfl rfl (.inl ⟨2,rfl,by decide,rfl,(HXA.out.trans (hx1.trans hx2)).grown hg4 (by omega)⟩)
   ·have ho:=HOUT.out
    unfold exprM at ho
    rw [HB.out,HFB.out] at ho
    simp at ho
    have HO:=Jh ho
    clear ho
    have hls:∀ x∈d.signals,x.w<=64:=by
     have h1:=HB.out
     unfold exprBad at h1
     simp only [Bool.or_eq_false_iff,Bool.not_eq_false'] at h1
     exact sigs_w _ _ h1.1.1.1
    have hsh:shape d.signals e=true:=by
     have h1:=HB.out
     unfold exprBad at h1
     simp only [Bool.or_eq_false_iff,Bool.not_eq_false'] at h1
     exact h1.2
    have HSZ:=Jh (fun W (h:Ext w W)=>size_calls e want cs W (HVX.out W h) HWF.out (ownOk_of_shape d.signals hls e hsh) HN.out)
    clear hls hsh
    go_wp2_with (first | ((with_reducible show Jl 31);refine Jm 31 (k1) agg_E h8 ?_) | (go_at_call 77;refine (HCE.out _ HXA.out).mono ?_;rintro r w1 ⟨rfl,hx1⟩;have k2:=((HE.out.ext HX1.out).ext hx1).has) | (go_at_call 78;refine (HFT.out _).mono ?_;rintro r w2 ⟨rfl,hx2⟩;have k3:=((HE.out.ext HX1.out).ext (hx1.trans hx2)).has) | ((with_reducible show Jl 31);refine Jm 31 (k3) agg_E h8 ?_) | (go_at_call 90;refine Hid.out ?_))
    refine Jh ?_
    have hsz:=HSZ.out w2 (HXA.out.trans (hx1.trans hx2))
    rw [HO.out] at hsz
    refine hsz.mono ?_
    intro r w3 hp
    obtain ⟨cs2,g,rfl,hl2,ho2,hx3,hq⟩:=hp.open2
    have HQ:=Jh hq
    have HR3:=Jh (HR1.out.ext ((hx1.trans hx2).trans hx3))
    have HX3:=Jh (HXA.out.trans ((hx1.trans hx2).trans hx3))
    have hs3:=HX3.out.size
    have HWS:=Jh ((HXA.out.trans (hx1.trans hx2)).size)
    have HLT:=Jh (HR1.out.ext (hx1.trans hx2)).lt
    clear hq hsz hx1 hx2 k1 k2 k3
    go_wp2_with ((with_reducible show Js 31);refine wpList_store_blk rfl 31 _ _ rfl HR3.out rfl (cs:=cs2) rfl agg_E hl2 rfl ho2 ?_;intro w4 hb4 hg4)
    have hlt:=HLT.out
    have hws:=HWS.out
    refine post_ret_blk2 rfl rfl rfl hb4.has agg_E hl2 rfl ?_
    rcases HQ.out with ⟨rfl,y,hy,hf⟩ | ⟨hg9,hy,rfl⟩
    ·exact .inr ⟨y,cs2,hy,rfl,(hf.since (Since.of_grown hg4 hlt)).mono hws,HX3.out.grown hg4 (by omega)⟩
    ·exact .inl ⟨g,hy,by omega,rfl,HX3.out.grown hg4 (by omega)⟩
  ·have ho:=HOUT.out
   unfold exprM at ho
   rw [HB.out,if_pos rfl] at ho
   subst ho
   go_wp2_with (first | ((with_reducible show Js 31);refine wpList_store_blk rfl 31 _ _ rfl (HR1.out) rfl (cs:=zeroE) (rfl) agg_E (rfl) rfl (rfl) ?_;intro w4 hb4 hg4))
   refine post_ret_blk2 rfl rfl rfl hb4.has agg_E rfl rfl (.inl ⟨1,rfl,by decide,rfl,HXA.out.grown hg4 (by omega)⟩)
theorem ExprP.open {w w':World} {o:Except Int E} {r:Ending} (h:ExprP w o r w'):∃ cs g,r=.returned (.tuple #[.agg cs.toArray,.int .i64 g])/\cs.length=8/\cs.all (·.oneCell')=true/\Ext w w' /\
  ((g=0/\∃ y,o=.ok y/\VE w' cs y)\/(g≠0/\o=.error g)):=by
 rcases h with ⟨g,ho,hg,rfl,hx⟩ | ⟨y,cs,ho,rfl,hf,hx⟩
 ·exact ⟨_,_,rfl,rfl,rfl,hx,.inr ⟨hg,ho⟩⟩
 ·exact ⟨_,_,rfl,(by obtain ⟨s,rfl,-⟩:=hf.ve;rfl),hf.ve.one,hx,.inl ⟨rfl,y,ho,hf.ve⟩⟩
theorem CheckE_calls (d:Flat) (v:Value) (e:E) (cs:List Value) (w:World) (hF:FlatV w v d) (hok:d.ok) (hV:VE w cs e) (hwf:e.wf) (hn:nodes e<=1048576) :
  Calls Tryz.prog 25 #[v,.agg cs.toArray] w fun r w'=>r=.returned (.int .i64 (checkEM d.signals e))/\Ext w w':=by
 have HF:=Jh (fun W (h:Ext w W)=>hF.ext h)
 have HEX:=Jh (fun W (h:Ext w W)=>Expr_calls d v e e.w cs W (hF.ext h) hok (hV.ext h) hwf hn)
 obtain ⟨sv,pv,cv,rfl,hS,hP,hC⟩:=hF
 have hone:[sv,pv,cv].all (·.oneCell')=true:=by simp [hS.one,hP.one,hC.one]
 obtain ⟨s0,rfl,hs0⟩:=hV
 have HVX:=Jh (fun W (h:Ext w W)=>show VE W (e.cells s0) e from ⟨s0,rfl,hs0.ext h⟩)
 have h8:(e.cells s0).length=8:=rfl
 have x1:=ext_alloc w (.cells [sv,pv,cv].toArray 26)
 have x2:=ext_alloc (w.alloc (.cells [sv,pv,cv].toArray 26)) (.cells (e.cells s0).toArray 31)
 have hD:=(Blk.new w [sv,pv,cv].toArray 26).ext x2
 have hE:=Blk.new (w.alloc (.cells [sv,pv,cv].toArray 26)) (e.cells s0).toArray 31
 have HX:=x1.trans x2
 simp only [World.size_alloc] at hE
 clear x1 x2
 obtain ⟨a0,b0,o0,c0,rfl,-,-,-,-⟩:=hS.open
 obtain ⟨ap,bp,op,cp,rfl,-,-,-,-⟩:=hP.open
 obtain ⟨ac,bc,oc,cc,rfl,-,-,-,-⟩:=hC.open
 clear hS hP hC hok hwf hn hs0
 obtain ⟨OUT,hout⟩:∃ o,checkEM d.signals e=o:=⟨_,rfl⟩
 have HOUT:=Jh hout
 rw [hout]
 clear hout
 go_enter Tryz.func25,Tryz.ntmps25
 go_upto_region 1 with fail
 generalize (w.alloc _).alloc _=w0 at *
 have HD:=Jh hD
 have HE:=Jh hE
 have HXX:=Jh HX
 have d0:=hD.has
 have e0:=hE.has
 have g1:=hE.has 1 _ rfl
 clear hD hE HX
 go_upto_region 2 with (first | ((with_reducible show Jl 26);refine Jm 26 (d0) agg_Flat rfl ?_) | ((with_reducible show Jl 31);refine Jm 31 (e0) agg_E rfl ?_) | (go_at_call 57;refine (HEX.out _ HXX.out).mono ?_;rintro r w1 hp;obtain ⟨cs2,g,rfl,hl2,ho2,hx1,hq⟩:=hp.open) | ((with_reducible show Js 31);refine wpList_store_new rfl 31 _ _ rfl rfl (by first | rfl | simp) rfl agg_E (hl2) rfl (ho2) ?_))
 have HQ:=Jh hq
 have hx2:=hx1.alloc (.cells cs2.toArray 31)
 have hb2:=Has.alloc w1 cs2 31
 have HV2:=Jh (fun y (h:VE w1 cs2 y)=>h.ext (ext_alloc w1 (.cells cs2.toArray 31)))
 have HE2:=Jh (HE.out.ext hx2)
 have HX2:=Jh (HXX.out.trans hx2)
 clear hq hx1 hx2 g1 d0 e0
 generalize w1.alloc _=w2 at *
 have e2:=HE2.out.has
 have g1:=HE2.out.has 1 _ rfl
 have ho:=HOUT.out
 unfold checkEM at ho
 rcases HQ.out with ⟨rfl,y,hy,hvy⟩ | ⟨hg9,hy⟩
 ·rw [hy] at ho
  simp only at ho
  have HVY:=Jh (HV2.out y hvy)
  have HO:=Jh ho
  clear ho hy hvy HQ
  by_cases hw:e.w=0
  ·have c1:(e.w==0)=true:=by rw [beq_iff_eq];exact hw
   obtain rfl:OUT=90:=by have:=HO.out;rw [if_pos (.inl hw)] at this;exact this.symm
   clear hw
   go_wp2_with fail
   go_ret
   exact ⟨rfl,HX2.out⟩
  ·have c1:(e.w==0)=false:=by rw [beq_eq_false_iff_ne];exact hw
   obtain ⟨q,hq⟩:∃ q,eqE y e=q:=⟨_,rfl⟩
   have HSM:=Jh (SameE_calls y e cs2 (e.cells s0) w2 HVY.out (HVX.out w2 HX2.out))
   rw [hq] at HSM
   have HW:=Jh hw
   have HQ:=Jh hq
   clear hw hq
   cases q
   ·obtain rfl:OUT=90:=by have:=HO.out;rw [HQ.out,if_pos (.inr rfl)] at this;exact this.symm
    go_wp2_with (first | ((with_reducible show Jl 31);refine Jm 31 (hb2) agg_E hl2 ?_) | ((with_reducible show Jl 31);refine Jm 31 (e2) agg_E rfl ?_) | (go_at_call 51;refine (HSM.out).mono ?_;rintro r w3 ⟨rfl,hx3⟩))
    go_ret
    exact ⟨rfl,HX2.out.trans hx3⟩
   ·obtain rfl:OUT=0:=by have:=HO.out;rw [HQ.out,if_neg (by rintro (h | h);exact HW.out h;cases h)] at this;exact this.symm
    go_wp2_with (first | ((with_reducible show Jl 31);refine Jm 31 (hb2) agg_E hl2 ?_) | ((with_reducible show Jl 31);refine Jm 31 (e2) agg_E rfl ?_) | (go_at_call 51;refine (HSM.out).mono ?_;rintro r w3 ⟨rfl,hx3⟩))
    go_ret
    exact ⟨rfl,HX2.out.trans hx3⟩
 ·rw [hy] at ho
  simp only at ho
  subst ho
  have c0:(g==0)=false:=by rw [beq_eq_false_iff_ne];exact hg9
  clear hg9 hy HQ
  go_wp2_with fail
  go_ret
  exact ⟨rfl,HX2.out⟩
theorem value2_calls {wb:World} {ls:List Signal} {vs:List Nat} {S:Nat} (hls:∀ x∈ls,1<=x.w/\x.w<=64) (hvals:Vals ls vs) (henv:ValEnv wb ls vs S) (e:E) (hws:WS ls e) (hwf:e.wf) (cs:List Value) (s:Value) (w:World) (hx:Ext wb w) (hV:VE w cs e)
  (hBt:Bts w s (e.l.map (evB vs))):Calls Tryz.prog 59 #[.agg cs.toArray,s,.pointer (some ⟨S,0,none⟩)] w fun r w'=>r=.returned (.agg (evB vs e).cells.toArray)/\Ext w w':=by
 obtain ⟨s0,rfl,hE0⟩:=hV
 have hls':∀ x∈ls,x.w<=64:=fun x hx=>(hls x hx).2
 obtain ⟨h0,hp⟩:=(WS_iff ls e).1 hws
 have hwfs:=(E.wf_iff e).1 hwf
 have hpo:∀ x∈e.l,(evB vs x).ok:=fun x hx=>evB_ok hls' (hp x hx) (hwfs.2.2.2.2.2.2.2 x hx)
 have hv0:=hwfs.2.2.1.1
 have he:evB vs e=⟨e.w,evNode vs e.op e.w e.v e.sig e.hi e.lo e.n (e.l.map (·.w)) (e.l.map (evM vs))⟩:=by unfold evB;rw [evM_eq]
 rw [he]
 clear he hwfs hp hws hwf
 obtain ⟨op,wd,v,sig,hi,lo,nn,l⟩:=e
 simp only at h0 hpo hv0 hE0 hBt ⊢
 unfold evNode
 rcases h0 with ⟨rfl,hk,-⟩ | ⟨rfl,hk,h1,h2,-⟩ | ⟨rfl,⟨k,hk⟩,h2,h3,rfl,-⟩ | ⟨rfl,⟨k,hk,h1⟩,-⟩ | ⟨rfl,⟨j,k,hk,h1⟩,-⟩ | ⟨rfl,hk,-⟩ | ⟨rfl,h1,h2,h3,-⟩ | ⟨rfl,⟨k,hk,h1⟩,h2,h3,-⟩
 ·obtain rfl:l=[]:=by simpa using hk
  obtain ⟨n,rfl⟩:=Int.eq_ofNat_of_zero_le hv0
  exact v2_num hls hvals henv s0 s w hx hE0 hBt
 ·obtain rfl:l=[]:=by simpa using hk
  obtain ⟨q1,q2,q3,q4,q5,-⟩:=slice_le ls hls' h1
  have:=v2_sig (wd:=wd) (v:=v) (nn:=nn) hls hvals henv q1 q2 q3 q4 q5 s0 s w hx hE0 hBt
  subst h2
  simpa using this
 ·obtain ⟨x,rfl,-⟩:=map1 hk
  have:=v2_idx (wd:=1) (v:=v) (hi:=hi) (lo:=lo) (nn:=nn) hls hvals henv h2 h3 s0 s w hx hE0 hBt
  simpa using this
 ·obtain ⟨x,rfl,rfl⟩:=map1 hk
  have hxo:=hpo x (by simp)
  have:=v2_un (wd:=wd) (v:=v) (sig:=sig) (hi:=hi) (lo:=lo) (nn:=nn) hls hvals henv hxo (by omega) (by omega) (by omega) s0 s w hx hE0 hBt
  rw [show unW nn x.w=wd by unfold unW;split<;>omega] at this
  simpa using this
 ·obtain ⟨x,y,rfl,rfl,rfl⟩:=map2 hk
  have hxo:=hpo x (by simp)
  have hyo:=hpo y (by simp)
  have:=v2_bin (wd:=wd) (v:=v) (sig:=sig) (hi:=hi) (lo:=lo) (nn:=nn) hls hvals henv hxo hyo (by omega) (by omega) (by omega) (by omega) s0 s w hx hE0 hBt
  rw [show binW nn x.w=wd by unfold binW;split<;>omega] at this
  simpa using this
 ·obtain ⟨c,x,y,rfl,hc,hxw,hyw⟩:=map3 hk
  have:=v2_cond (wd:=wd) (v:=v) (sig:=sig) (hi:=hi) (lo:=lo) (nn:=nn) hls hvals henv (hpo c (by simp)) (hpo x (by simp)) (hpo y (by simp)) hc (by omega) s0 s w hx hE0 hBt
  rw [hxw] at this
  simpa using this
 ·have hl0:l.map (evB vs)≠[]:=by
   intro h;apply h1;simpa using h
  have:=v2_cat (wd:=wd) (v:=v) (sig:=sig) (hi:=hi) (lo:=lo) (nn:=nn) hls hvals henv (fun b hb=>by obtain ⟨x,hx,rfl⟩:=List.mem_map.1 hb;exact hpo x hx) hl0 (by rw [catW_map];omega) s0 s w hx hE0 hBt
  rw [catW_map,<-h2,<-zip_cat] at this
  simpa using this
 ·obtain ⟨x,rfl,rfl⟩:=map1 hk
  have hxo:=hpo x (by simp)
  have:=v2_ext (wd:=wd) (v:=v) (sig:=sig) (hi:=hi) (lo:=lo) (nn:=nn) hls hvals henv hxo (by omega) (by omega) h2 h3 (by omega) (by omega) s0 s w hx hE0 hBt
  simpa using this
theorem value_calls (sv pv cv:Value) (kf:FuncId) (lb:Array Value) (h1:[sv,pv,cv].all (·.oneCell')=true) (w:World) :
  Calls Tryz.prog 27 #[.agg #[sv,pv,cv],.func (.func kf) #[] lb] w fun r w'=>∃ D L S,r=.returned (.func (.func 59) #[] #[.pointer (some ⟨S,0,none⟩)])/\Ext w w' /\
   Blk w' S #[.func (.func 58) #[] #[.pointer (some ⟨D,0,none⟩),.pointer (some ⟨L,0,none⟩)]] 113/\Blk w' D #[sv,pv,cv] 26/\Blk w' L #[.func (.func kf) #[] lb] 73:=by
 have x1:=ext_alloc w (.cells #[sv,pv,cv] 26)
 have x2:=ext_alloc (w.alloc (.cells #[sv,pv,cv] 26)) (.cells #[.func (.func kf) #[] lb] 73)
 have hD:=(Blk.new w #[sv,pv,cv] 26).ext x2
 have hL:=Blk.new (w.alloc (.cells #[sv,pv,cv] 26)) #[.func (.func kf) #[] lb] 73
 have hX:=x1.trans x2
 simp only [World.size_alloc] at hL
 clear x1 x2
 go_enter Tryz.func27,Tryz.ntmps27
 go_upto_region 1 with fail
 generalize (w.alloc _).alloc _=w0 at *
 have x3:=ext_alloc w0 (.cells #[.func (.func 58) #[] #[.pointer (some ⟨w.heap.size,0,none⟩),.pointer (some ⟨w.heap.size+1,0,none⟩)]] 113)
 have hS:=Blk.new w0 #[.func (.func 58) #[] #[.pointer (some ⟨w.heap.size,0,none⟩),.pointer (some ⟨w.heap.size+1,0,none⟩)]] 113
 have hb0:=Blk.new w0 #[.nilFunc] 113
 have hs:=run_store Tryz.prog (w0.alloc (.cells #[.nilFunc] 113)) ⟨w0.heap.size,0,none⟩ (.func (.func 58) #[] #[.pointer (some ⟨w.heap.size,0,none⟩),.pointer (some ⟨w.heap.size+1,0,none⟩)]) .plain rfl
 rw [hb0.cell 0,hb0.frozen 0] at hs
 simp only [List.getElem?_cons_zero,List.getElem?_toArray,Bool.false_eq_true,if_false] at hs
 clear hb0
 go_wp2_with fail
 go_ret
 exact ⟨_,_,_,rfl,hX.trans x3,hS,hD.ext x3,hL.ext x3⟩
theorem leads_e1:Leads Tryz.prog 28:=leads_of Tryz.func28 (by kernel_rfl) rfl
theorem look_eval {wb:World} {ls:List Signal} {vs:List Nat} {s:Value} {B:Nat} (hs:Us wb s vs) (hl:vs.length=ls.length) (hB:Blk wb B #[s] 27) :
  Looks wb ls vs (.func (.func 28) #[] #[.pointer (some ⟨B,0,none⟩)]):=by
 refine ⟨_,_,rfl,leads_e1,fun W hW sig h0 h1=>?_⟩
 show Calls Tryz.prog 28 #[.int .i64 sig,.pointer (some ⟨B,0,none⟩)] W _
 obtain ⟨a,b,o,cap,rfl,hc1,hc2,ha,hr⟩:=(hs.ext hW).open
 obtain ⟨k,rfl⟩:=Int.eq_ofNat_of_zero_le h0
 have hk:k<vs.length:=by omega
 obtain rfl:=ha (by omega)
 have g0:=(hB.ext hW).has 0 _ rfl
 have g1:=Us.get hr hk
 have e:vs.getD (k:Int).toNat 0=vs[k]:=by simp [List.getD_eq_getElem?_getD,List.getElem?_eq_getElem hk]
 rw [e]
 generalize vs[k]=v at *
 clear e ha hr hs
 go_enter Tryz.func28,Tryz.ntmps28
 go_wp2_with fail
 go_ret
 exact ⟨rfl,Below.refl _ _⟩
theorem ofInt_nat {a:Nat} (h:a<2^64):(BitVec.ofInt 64 (a:Int)).toNat=a:=by
 rw [BitVec.toNat_ofInt]
 omega
theorem bv_andNot {a w:Nat} (ha:a<2^64) (hw:w<=64):(BitVec.ofInt 64 (a:Int) &&& ~~~ BitVec.ofInt 64 ((2^w-1:Nat):Int)).toNat=0↔a<2^w:=by
 have hm:2^w-1<2^64:=by
  have:2^w<=2^64:=Nat.pow_le_pow_right (by decide) hw
  have:=Nat.two_pow_pos w
  omega
 rw [BitVec.toNat_and,BitVec.toNat_not,ofInt_nat ha,ofInt_nat hm]
 have hb:∀ i,(2^64-1-(2^w-1)).testBit i=(decide (i<64)&&!decide (i<w)):=fun i=>by
  have:=Nat.testBit_two_pow_sub_succ hm i
  rw [Nat.testBit_two_pow_sub_one] at this
  rw [<-this]
  congr 1
  omega
 constructor
 ·intro h
  refine Nat.lt_pow_two_of_testBit _ fun i hi=>?_
  cases ht:a.testBit i with
  | false=>rfl
  | true =>
   exfalso
   have h64:i<64:=by
    by_cases hc:i<64
    ·exact hc
    ·have:=Nat.testBit_lt_two_pow (x:=a) (i:=i) (Nat.lt_of_lt_of_le ha (Nat.pow_le_pow_right (by decide) (by omega)))
     rw [ht] at this;cases this
   have:=congrArg (fun n=>n.testBit i) h
   simp only [Nat.testBit_and,Nat.zero_testBit,hb,ht] at this
   simp [h64,show ¬ i<w by omega] at this
 ·intro h
  refine Nat.eq_of_testBit_eq fun i=>?_
  rw [Nat.testBit_and,hb,Nat.zero_testBit]
  by_cases hi:i<w
  ·simp [hi]
  ·have:=Nat.testBit_lt_two_pow (x:=a) (i:=i) (Nat.lt_of_lt_of_le h (Nat.pow_le_pow_right (by decide) (by omega)))
   rw [this];rfl
def valB (ls:List Signal) (vs:List Nat):Bool:=(List.range ls.length).all fun k=>decide (vs.getD k 0<2^(sigW ls (k:Int)).toNat)
def valsOk (d:Flat) (vs:List Nat):Bool:=decide (vs.length=d.signals.length)&&(decide (checkM d=0)&&valB d.signals vs)
theorem valB_vals {ls:List Signal} {vs:List Nat} (h:valB ls vs=true):Vals ls vs:=by
 intro sig h0 h1
 obtain ⟨k,rfl⟩:=Int.eq_ofNat_of_zero_le h0
 have:=List.all_eq_true.1 h k (List.mem_range.2 (by omega))
 simpa using this
theorem andNot_iff {x:Nat} (hx:x<18446744073709551616) {w:Int} (h0:0<=w) (h1:w<=64):bits .andNot .u64 (x:Int) ((maskB w).toNat:Int)=0↔x<2^w.toNat:=by
 rw [maskB_nat w h0 h1,<-bv_andNot (a:=x) (w:=w.toNat) hx (by omega)]
 unfold bits
 simp only [IntKind.bits]
 constructor
 ·intro h
  rw [u_wrap] at h
  exact_mod_cast h
 ·intro h
  rw [u_wrap]
  exact_mod_cast h
theorem Values_calls (d:Flat) (v:Value) (vs:List Nat) (s:Value) (w:World) (hF:FlatV w v d) (hok:d.ok) (hs:Us w s vs) (h64:us64 vs) :
  Calls Tryz.prog 22 #[v,s] w fun r w'=>r=.returned (.int .i64 (if valsOk d vs=true then 0 else 1))/\Ext w w':=by
 have HF:=Jh (fun W (h:Ext w W)=>hF.ext h)
 have HCK:=Jh (fun W (h:Ext w W)=>Check_calls d v W (hF.ext h) hok)
 have H64:=Jh h64
 obtain ⟨sv,pv,cv,rfl,hS,hP,hC⟩:=hF
 have x1:=ext_alloc w (.cells [sv,pv,cv].toArray 26)
 have hD:=Blk.new w [sv,pv,cv].toArray 26
 obtain ⟨a0,b0,o0,c0,rfl,hc1,hc2,ha0,hr0⟩:=hS.open
 obtain ⟨ap,bp,op,cp,rfl,-,-,-,-⟩:=hP.open
 obtain ⟨ac,bc,oc,cc,rfl,-,-,-,-⟩:=hC.open
 obtain ⟨av,bv,ov,capv,rfl,hv1,hv2,hav,hvr⟩:=hs.open
 have HSG:=Jh (fun W (h:Ext w W)=>(hr0.mono fun x _ b o hh=>SigAt.ext' h hh:Rows 4 (SigAt W) d.signals b0 o0))
 have HUS:=Jh (fun W (h:Ext w W)=>(hvr.mono fun x _ b o (hh:UAt w x b o)=>Has.ext hh h:Rows 1 (UAt W) vs bv ov))
 have HA:=Jh ha0
 have HAV:=Jh hav
 clear hS hP hC hs hr0 hvr ha0 hav h64 hok
 obtain ⟨t,ht⟩:∃ t,valsOk d vs=t:=⟨_,rfl⟩
 have HT:=Jh ht
 rw [ht]
 clear ht
 have hln1:vs.length<=9223372036854775807:=by omega
 go_enter Tryz.func22,Tryz.ntmps22
 go_upto_region 1 with fail
 generalize w.alloc _=w0 at *
 have HD:=Jh hD
 have HX:=Jh x1
 have d0:=hD.has
 have g0:=hD.has 0 _ rfl
 clear hD x1
 by_cases hlen:vs.length=d.signals.length
 ·have b1:((vs.length:Int) != (d.signals.length:Int))=false:=by rw [bne_eq_false_iff_eq];omega
  by_cases hck:checkM d=0
  ·have hww:=checkM_w hck
   have HCK2:=Jh (HCK.out w0 HX.out)
   rw [hck] at HCK2
   have HW:=Jh hww
   have HL:=Jh hlen
   have HVB:=Jh (show t=valB d.signals vs by rw [<-HT.out];unfold valsOk;rw [decide_eq_true hlen,decide_eq_true hck];rfl)
   clear hww hck hlen
   go_wp2_with (first | ((with_reducible show Jl 26);refine Jm 26 (d0) agg_Flat rfl ?_) | (go_at_call 8;refine HCK2.out.mono ?_;rintro r w1 ⟨rfl,hx1⟩;have g1:=(HD.out.ext hx1).has 0 _ rfl))
   have HX1:=Jh (HX.out.trans hx1)
   clear g1 hx1
   go_loopw [5,6,21] (fun _ _ i wr=>∃ k:Nat,k<=d.signals.length/\i=.int .i64 k/\(∀ j,j<k->vs.getD j 0<2^(sigW d.signals (j:Int)).toNat)/\Ext w wr) (fun _ _ i _=>d.signals.length-(intOf i).toNat)
   case atStart=>exact ⟨0,Nat.zero_le _,rfl,fun j hj=>absurd hj (by omega),HX1.out⟩
   case round =>
    obtain ⟨k,hk,rfl,hall,hB⟩:=hrel
    have HALL:=Jh hall
    have HB:=Jh hB
    clear hall hB
    by_cases hlt:k<d.signals.length
    ·obtain rfl:=HA.out (by omega)
     obtain rfl:=HAV.out (by have:=HL.out;omega)
     have hkv:k<vs.length:=by have:=HL.out;omega
     have he:=Sigs.get (HSG.out wr HB.out) hlt
     have hex:=ext_alloc wr (.cells d.signals[k].cells.toArray 50)
     have hbx:=Blk.new wr d.signals[k].cells.toArray 50
     have gv:=Us.get (HUS.out _ (HB.out.trans hex)) hkv
     have hx64:=H64.out _ (List.getElem_mem hkv)
     have hwk:=HW.out _ (List.getElem_mem hlt)
     have hsw:sigW d.signals (k:Int)=d.signals[k].w:=by simp [sigW,List.getElem?_eq_getElem hlt]
     have hgd:vs.getD k 0=vs[k]:=by simp [List.getD_eq_getElem?_getD,List.getElem?_eq_getElem hkv]
     have hai:=andNot_iff hx64 (show 0<=d.signals[k].w by omega) hwk.2
     rw [<-hsw] at hai
     rw [<-hgd] at hai
     rw [hsw] at hai
     have HAI:=Jh hai
     have HSW:=Jh hsw
     generalize hsx:d.signals[k]=x at *
     have HGD:=Jh hgd
     generalize vs[k]=y at *
     rw [HGD.out] at HAI
     clear hai hsw hgd hsx hwk hx64
     obtain ⟨c,hc⟩:∃ c,(bits .andNot .u64 (y:Int) ((maskB x.w).toNat:Int) != 0)=c:=⟨_,rfl⟩
     have HC:=Jh hc
     clear hc
     go_upto_region 6 with (first | ((with_reducible show Jl 50);refine Jm 50 (he) agg_Signal rfl ?_) | ((with_reducible show Js 50);refine wpList_store_new rfl 50 _ _ rfl rfl (by first | rfl | simp) rfl agg_Signal (rfl) rfl (rfl) ?_))
     generalize wr.alloc _=w2 at *
     have HX2:=Jh (HB.out.trans hex)
     have gw:=hbx.has 1 _ rfl
     have i1:(k:Int)<(vs.length:Int):=by omega
     clear hex he hbx
     have HMK:=Jh (fun W=>Mask_calls x.w W)
     go_quiet (first | (go_at_call 55;refine Calls.quiet_of_same (HMK.out _)))
     rw [HC.out]
     have hX3:=HX2.out.drewNB nq
     generalize w2.drewN nq=w3 at *
     cases c
     ·have hfit:vs.getD k 0<2^(sigW d.signals (k:Int)).toNat:=by
       have h1:=HC.out
       rw [bne_eq_false_iff_eq] at h1
       have h2:=HAI.out.1 h1
       rw [HSW.out,HGD.out];exact h2
      have HFIT:=Jh hfit
      clear hfit gw gv
      go_wp2_with fail
      go_roundw
      case rel=>exact ⟨k+1,by omega,by go_num,fun j hj=>by
       by_cases e:j=k
       ·subst e;exact HFIT.out
       ·exact HALL.out j (by omega),hX3⟩
      case measure=>simp [intOf];omega
     ·obtain rfl:t=false:=by
       rw [HVB.out]
       unfold valB
       rw [Bool.eq_false_iff]
       intro h1
       have h2:=of_decide_eq_true (List.all_eq_true.1 h1 k (List.mem_range.2 hlt))
       rw [HSW.out,HGD.out] at h2
       have h3:=HAI.out.2 h2
       have h4:=HC.out
       rw [bne_iff_ne] at h4
       exact h4 h3
      clear gw gv
      go_wp2_with fail
      go_ret
      exact ⟨rfl,hX3⟩
    ·obtain rfl:k=d.signals.length:=by omega
     obtain rfl:t=true:=by
      rw [HVB.out]
      unfold valB
      rw [List.all_eq_true]
      intro j hj
      exact decide_eq_true (HALL.out j (List.mem_range.1 hj))
     go_wp2_with fail
     go_ret
     exact ⟨rfl,HB.out⟩
  ·have c1:(checkM d != 0)=true:=by rw [bne_iff_ne];exact hck
   obtain rfl:t=false:=by rw [<-HT.out];unfold valsOk;rw [decide_eq_false hck];simp
   clear hck hlen
   go_wp2_with (first | ((with_reducible show Jl 26);refine Jm 26 (d0) agg_Flat rfl ?_) | (go_at_call 8;refine (HCK.out w0 HX.out).mono ?_;rintro r w1 ⟨rfl,hx1⟩))
   go_ret
   exact ⟨rfl,HX.out.trans hx1⟩
 ·have b1:((vs.length:Int) != (d.signals.length:Int))=true:=by rw [bne_iff_ne];omega
  obtain rfl:t=false:=by rw [<-HT.out];unfold valsOk;rw [decide_eq_false hlen];rfl
  clear hlen
  go_wp2_with fail
  go_ret
  exact ⟨rfl,HX.out⟩
theorem checkEM_ws {ls:List Signal} (hls:∀ x∈ls,x.w<=64) {e:E} (h:checkEM ls e=0):WS ls e/\nodes e<=65536/\deep e<=64:=by
 unfold checkEM exprM at h
 by_cases hb:exprBad ls e e.w=true
 ·rw [if_pos hb] at h;simp at h
 ·rw [if_neg hb] at h
  by_cases hf:(decide (nodes e<=65536)&&decide (deep e<=64))=false
  ·rw [if_pos hf] at h;simp at h
  ·rw [if_neg hf] at h
   cases hs:sizeE e e.w with
   | error g =>
    rw [hs] at h
    simp only at h
    subst h
    exfalso
    have hnz:∀ (l:List E) (ps:List Int) (f:Int),(∀ x∈l,∀ p f,sizeE x p=.error f->f≠0)->sizeE.sizeL l ps=.error f->f≠0:=by
     intro l
     induction l with
     | nil=>intro ps f _ h;cases h
     | cons x l ih =>
      intro ps f hx h
      rw [sizeE.sizeL] at h
      cases h1:sizeE x (ps.headD 0) with
      | error q=>rw [h1] at h;simp only at h;injection h with h;rw [<-h];exact hx x (by simp) _ _ h1
      | ok y =>
       rw [h1] at h
       simp only at h
       cases h2:sizeE.sizeL l ps.tail with
       | error q=>rw [h2] at h;simp only at h;injection h with h;rw [<-h];exact ih _ _ (fun x hx'=>hx x (by simp [hx'])) h2
       | ok r=>rw [h2] at h;cases h
    have hall:∀ e:E,∀ p f,sizeE e p=.error f->f≠0:=by
     intro e
     induction e using E.ind with
     | h e ih =>
      intro p f h
      rw [sizeE_eq] at h
      generalize told (if p = -1 then 1 else p) (told (own e) 32)=w2 at h
      split at h
      ·injection h with h;omega
      ·split at h
       ·split at h
        ·cases h
        ·injection h with h;omega
       ·split at h
        ·injection h with h;omega
        ·split at h
         ·rename_i hq
          injection h with h
          rw [<-h];exact hnz _ _ _ ih hq
         ·split at h
          ·injection h with h;omega
          ·cases h
    exact hall _ _ _ hs rfl
   | ok x =>
    rw [hs] at h
    simp only at h
    have hx:¬ (e.w=0\/eqE x e=false):=by
     intro hc;rw [if_pos hc] at h;omega
    have hxe:x=e:=by
     have:eqE x e=true:=by
      cases hq:eqE x e with
      | true=>rfl
      | false=>exact absurd (.inr hq) hx
     exact (eqE_iff x e).1 this
    subst hxe
    have hsh:shape ls x=true/\0<=x.w:=by
     unfold exprBad at hb
     simp only [Bool.not_eq_true,Bool.or_eq_false_iff,Bool.not_eq_false',decide_eq_false_iff_not] at hb
     exact ⟨hb.2,by omega⟩
    refine ⟨(ws_of_size hls x hsh.1 x.w (by omega) hs).1,?_⟩
    simp only [Bool.and_eq_false_iff,decide_eq_false_iff_not] at hf
    omega
def evalM (d:Flat) (vs:List Nat) (e:E):Nat × Int:=if valsOk d vs=true/\checkEM d.signals e=0 then (evM vs e,0) else (0,1)
theorem field_bits (b:Bt) (W:World):(Instr.field 69 (.agg b.cells.toArray) 1).run Tryz.prog W=.ok (.int .u64 (b.v:Int)) W:=by
 have hA:(isAgg 28).run Tryz.prog W=.ok false W:=by unfold isAgg;rw [Sem.run_bind,run_underlying Tryz.underlying28];rfl
 unfold Instr.field
 simp [Sem.run_bind,run_underlying Tryz.underlying69,part,hA,asAgg]
theorem Eval_calls (d:Flat) (v:Value) (vs:List Nat) (s:Value) (e:E) (cs:List Value) (w:World) (hF:FlatV w v d) (hok:d.ok) (hs:Us w s vs) (h64:us64 vs) (hV:VE w cs e) (hwf:e.wf) (hn:nodes e<=1048576) :
  Calls Tryz.prog 10 #[v,s,.agg cs.toArray] w fun r w'=>r=.returned (.tuple #[.int .u64 ((evalM d vs e).1:Nat),.int .i64 (evalM d vs e).2])/\Ext w w':=by
 have HF:=Jh (fun W (h:Ext w W)=>hF.ext h)
 have HVL:=Jh (fun W (h:Ext w W)=>Values_calls d v vs s W (hF.ext h) hok (hs.ext h) h64)
 have HCE:=Jh (fun W (h:Ext w W)=>CheckE_calls d v e cs W (hF.ext h) hok (hV.ext h) hwf hn)
 have HUS:=Jh (fun W (h:Ext w W)=>hs.ext h)
 have HVE:=Jh (fun W (h:Ext w W)=>hV.ext h)
 have HWF:=Jh hwf
 have HN:=Jh hn
 have h8:cs.length=8:=by obtain ⟨s,rfl,-⟩:=hV;rfl
 obtain ⟨sv,pv,cv,rfl,hS,hP,hC⟩:=hF
 have hone:[sv,pv,cv].all (·.oneCell')=true:=by simp [hS.one,hP.one,hC.one]
 have HSG:=Jh (fun W (h:Ext w W)=>hS.ext h)
 obtain ⟨a0,b0,o0,c0,rfl,-,-,-,-⟩:=hS.open
 obtain ⟨ap,bp,op,cp,rfl,-,-,-,-⟩:=hP.open
 obtain ⟨ac,bc,oc,cc,rfl,-,-,-,-⟩:=hC.open
 obtain ⟨av,bv,ov,capv,rfl,-,-,-,-⟩:=hs.open
 have x1:=ext_alloc w (.cells [Value.slice a0 d.signals.length c0,.slice ap d.procs.length cp,.slice ac d.checks.length cc].toArray 26)
 have x2:=ext_alloc (w.alloc (.cells [Value.slice a0 d.signals.length c0,.slice ap d.procs.length cp,.slice ac d.checks.length cc].toArray 26)) (.cells #[.slice av vs.length capv] 27)
 have x3:=ext_alloc ((w.alloc (.cells [Value.slice a0 d.signals.length c0,.slice ap d.procs.length cp,.slice ac d.checks.length cc].toArray 26)).alloc (.cells #[.slice av vs.length capv] 27)) (.cells cs.toArray 31)
 have hD:=((Blk.new w [Value.slice a0 d.signals.length c0,.slice ap d.procs.length cp,.slice ac d.checks.length cc].toArray 26).ext x2).ext x3
 have hU:=(Blk.new (w.alloc (.cells [Value.slice a0 d.signals.length c0,.slice ap d.procs.length cp,.slice ac d.checks.length cc].toArray 26)) #[.slice av vs.length capv] 27).ext x3
 have hE:=Blk.new ((w.alloc (.cells [Value.slice a0 d.signals.length c0,.slice ap d.procs.length cp,.slice ac d.checks.length cc].toArray 26)).alloc (.cells #[.slice av vs.length capv] 27)) cs.toArray 31
 have hX:=(x1.trans x2).trans x3
 simp only [World.size_alloc] at hU hE
 clear x1 x2 x3 hS hP hC hs hok h64 hV hwf hn
 obtain ⟨OUT,hout⟩:∃ o,evalM d vs e=o:=⟨_,rfl⟩
 have HOUT:=Jh hout
 rw [hout]
 clear hout
 obtain ⟨q,hq⟩:∃ q,valsOk d vs=q:=⟨_,rfl⟩
 have HQ:=Jh hq
 rw [hq] at HVL
 clear hq
 go_enter Tryz.func10,Tryz.ntmps10
 go_upto_region 1 with fail
 generalize ((w.alloc _).alloc _).alloc _=w0 at *
 have HD:=Jh hD
 have HU:=Jh hU
 have HE:=Jh hE
 have HX:=Jh hX
 have d0:=hD.has
 have u0:=hU.has 0 _ rfl
 clear hD hU hE hX
 cases q
 ·obtain rfl:OUT=(0,1):=by rw [<-HOUT.out];unfold evalM;rw [HQ.out];simp
  go_wp2_with (first | ((with_reducible show Jl 26);refine Jm 26 (d0) agg_Flat rfl ?_) | (go_at_call 22;refine (HVL.out w0 HX.out).mono ?_;rintro r w1 ⟨rfl,hx1⟩))
  refine bodyPost_ret (v:=.tuple #[.int .u64 ((0:Nat):Int),.int .i64 1]) (by simp [results,Tryz.results10,go_sem]) rfl ⟨rfl,HX.out.trans hx1⟩
 ·by_cases hce:checkEM d.signals e=0
  ·have hck:checkM d=0:=by
    have h1:=HQ.out
    unfold valsOk at h1
    simp only [Bool.and_eq_true,decide_eq_true_eq] at h1
    exact h1.2.1
   have hln:vs.length=d.signals.length:=by
    have h1:=HQ.out
    unfold valsOk at h1
    simp only [Bool.and_eq_true,decide_eq_true_eq] at h1
    exact h1.1
   have hvb:valB d.signals vs=true:=by
    have h1:=HQ.out
    unfold valsOk at h1
    simp only [Bool.and_eq_true,decide_eq_true_eq] at h1
    exact h1.2.2
   obtain rfl:OUT=(evM vs e,0):=by rw [<-HOUT.out];unfold evalM;rw [if_pos ⟨HQ.out,hce⟩]
   have hls:=checkM_w hck
   have hws:=(checkEM_ws (fun x hx=>(hls x hx).2) hce).1
   have HLS:=Jh hls
   have HWS:=Jh hws
   have HLN:=Jh hln
   have HVB:=Jh (valB_vals hvb)
   rw [hce] at HCE
   clear hck hln hvb hls hws hce
   go_upto_if 17 with (first | ((with_reducible show Jl 26);refine Jm 26 (d0) agg_Flat rfl ?_) | (go_at_call 22;refine (HVL.out w0 HX.out).mono ?_;rintro r w1 ⟨rfl,hx1⟩;have d1:=(HD.out.ext hx1).has;have e1:=(HE.out.ext hx1).has) | ((with_reducible show Jl 26);refine Jm 26 (d1) agg_Flat rfl ?_) | ((with_reducible show Jl 31);refine Jm 31 (e1) agg_E h8 ?_) | (go_at_call 25;refine (HCE.out w1 (HX.out.trans hx1)).mono ?_;rintro r w2 ⟨rfl,hx2⟩))
   have HX2:=Jh (hx1.trans hx2)
   have HD2:=Jh (HD.out.ext HX2.out)
   have HU2:=Jh (HU.out.ext HX2.out)
   have HE2:=Jh (HE.out.ext HX2.out)
   clear hx1 hx2 d1 e1 d0 u0
   go_wp2_with fail
   refine Jg w2 fun hH=>?_
   try simp only [J]
   (refine Jt 0 (.agg cs.toArray) rfl (yif_load rfl 31 _ rfl rfl (fun W hW=>(HE2.out.ext hW).has) agg_E h8) hH ?_;try simp only [J])
   (refine Jt 1 (.agg [Value.slice a0 d.signals.length c0,.slice ap d.procs.length cp,.slice ac d.checks.length cc].toArray) rfl (yif_load rfl 26 _ rfl rfl (fun W hW=>(HD2.out.ext hW).has) agg_Flat rfl) hH ?_;try simp only [J])
   (refine Jt 2 (.func (.func 28) #[] #[.pointer (some ⟨w.heap.size+1,0,none⟩)]) rfl (yif_load1 rfl (by intro W hW;clear hW;go_simp)) hH ?_;try simp only [J])
   (refine Jr 3 rfl fun K hK=>?_)
   go_simp
   refine (value_calls _ _ _ _ _ hone _).mono ?_
   rintro r w3 ⟨D3,L3,S3,rfl,hx3,hS3,hD3,hL3⟩
   refine hK.out _ _ (hH.trans hx3) (fun hH=>?_)
   clear hK K
   try simp only [J]
   have hX3:=(HX.out.trans HX2.out).trans hH
   have henv:ValEnv w3 d.signals vs S3:=⟨D3,L3,_,_,_,_,hS3,hD3,hL3,HSG.out w3 hX3,look_eval (HUS.out w3 hX3) HLN.out (HU2.out.ext hH)⟩
   have hup:=upB_calls 59 #[.pointer (some ⟨S3,0,none⟩)] leads_v2 (evB vs) w3 (fun e=>WS d.signals e/\e.wf) (fun e h x hx=>⟨((WS_iff _ e).1 h.1).2 x hx,((E.wf_iff e).1 h.2).2.2.2.2.2.2.2 x hx⟩)
    (fun e h cs s W hW hV hB=>value2_calls HLS.out HVB.out henv e h.1 h.2 cs s W hW hV hB) e ⟨HWS.out,HWF.out⟩ cs w3 (Below.refl _ _) (HVE.out w3 hX3) HN.out
   have HUP:=Jh hup
   clear hup henv hS3 hD3 hL3
   (refine Jr 4 rfl fun K hK=>?_)
   go_simp
   refine HUP.out.mono ?_
   rintro r w4 ⟨rfl,hx4⟩
   refine hK.out _ _ (hH.trans hx4) (fun hH=>?_)
   clear hK K
   try simp only [J]
   (refine Jt 5 (.int .u64 (evM vs e:Int)) rfl (yif_load1 rfl (by intro W hW;clear hW;simp only [evB];have hf:=field_bits ⟨e.w,evM vs e⟩ W;go_simp)) hH ?_;try simp only [J])
   (refine Jt 6 (.int .u64 (evM vs e:Int)) rfl (yif_load1 rfl fun _ _=>rfl) hH ?_;try simp only [J])
   (refine Jt 7 (.int .i64 0) rfl (yif_load1 rfl fun _ _=>rfl) hH ?_;try simp only [J])
   refine Jz ?_
   go_wp2_with ((with_reducible show bodyPost _ _ _ _ _ _);refine Hid.out ?_)
   refine Jh ?_
   refine bodyPost_ret (v:=.tuple #[.int .u64 (evM vs e:Int),.int .i64 0]) (by simp [results,Tryz.results10,go_sem]) rfl ⟨rfl,hX3.trans hx4⟩
  ·have c1:(checkEM d.signals e != 0)=true:=by rw [bne_iff_ne];exact hce
   obtain rfl:OUT=(0,1):=by rw [<-HOUT.out];unfold evalM;rw [if_neg (fun h=>hce h.2)]
   clear hce
   go_wp2_with (first | ((with_reducible show Jl 26);refine Jm 26 (d0) agg_Flat rfl ?_) | (go_at_call 22;refine (HVL.out w0 HX.out).mono ?_;rintro r w1 ⟨rfl,hx1⟩;have d1:=(HD.out.ext hx1).has;have e1:=(HE.out.ext hx1).has) | ((with_reducible show Jl 26);refine Jm 26 (d1) agg_Flat rfl ?_) | ((with_reducible show Jl 31);refine Jm 31 (e1) agg_E h8 ?_) | (go_at_call 25;refine (HCE.out w1 (HX.out.trans hx1)).mono ?_;rintro r w2 ⟨rfl,hx2⟩))
   refine bodyPost_ret (v:=.tuple #[.int .u64 ((0:Nat):Int),.int .i64 1]) (by simp [results,Tryz.results10,go_sem]) rfl ⟨rfl,HX.out.trans (hx1.trans hx2)⟩
end Go.Proofs.YtpngepnfinbaoaaGreat
