/- Laws and walks that a claim of this seat leans on: R10b, RefX, R10e, R11a, R11b. -/
import Derived.Test.YtbliplladmamoaaGreatS19
import Derived.Test.YtbliplladmamoaaGreatSRef17
import Derived.Test.YtbliplladmamoaaGreatS23
import Derived.Test.YtbliplladmamoaaGreatS27
import Derived.Test.YtbliplladmamoaaGreatS28
import Derived.Test.YtbliplladmamoaaGreatS24
import Derived.Test.YtbliplladmamoaaGreatS20
import Derived.Test.YtbliplladmamoaaGreatS21
import Derived.Test.YtbliplladmamoaaGreatS00
set_option maxRecDepth 100000
set_option maxHeartbeats 8000000
set_option linter.all false
namespace Go.Proofs.YtbliplladmamoaaGreat
open Go.RowKit
theorem Mv (d:Bb) (v:Value) (vs:List Nat) (s:Value) (w:World) (hF:Ck w v d) (a1:d.ok) (hs:Us w s vs) :
  Calls Tryz.prog 23 #[v,s] w fun r w'=>r=.returned (.int .i64 (if Cn d vs=true then 0 else 1))/\Ext w w':=by
 have ao:=Jh (fun W (h:Ext w W)=>Nw d v W (hF.ext h) a1)
 obtain ⟨sv,pv,cv,rfl,hS,hP,hC⟩:=hF
 have x1:=Ab w (.cells [sv,pv,cv].toArray 26)
 have hD:=Blk.new w [sv,pv,cv].toArray 26
 obtain ⟨a0,b0,o0,c0,rfl,bb,bc,ax,a2⟩:=hS.open
 obtain ⟨av,bv,ov,a9,rfl,bd,be,ay,a4⟩:=hs.open
 have a7:=Jh (fun W (h:Ext w W)=>(a2.mono fun x _ b o hh=>C6.ext' h hh:Rows 4 (C6 W) d.signals b0 o0))
 have a8:=Jh (fun W (h:Ext w W)=>(a4.mono fun x _ b o (hh:UAt w x b o)=>Has.ext hh h:Rows 1 (UAt W) vs bv ov))
 have HA:=Jh ax
 have a5:=Jh ay
 clear hS hP hC hs a2 a4 ax ay a1
 obtain ⟨t,ht⟩:∃ t,Cn d vs=t:=⟨_,rfl⟩
 have HT:=Jh ht
 rw [ht]
 clear ht
 have ba:vs.length<=9223372036854775807:=by omega
 go_enter Tryz.func23,Tryz.ntmps23
 go_upto_region 1 with fail
 generalize w.alloc _=w0 at *
 have HD:=Jh hD
 have HX:=Jh x1
 have d0:=hD.has
 clear hD x1
 by_cases aa:By d=0
 case neg =>
  have c1:(By d != 0)=true:=by rw [bne_iff_ne];exact aa
  obtain rfl:t=false:=by rw [<-HT.out];unfold Cn;rw [decide_eq_false aa];simp
  clear aa
  go_wp2_with (first | ((with_reducible show Jl 26);refine Aa rfl 26 _ rfl rfl (d0) Aj rfl ?_) | (go_at_call 39;refine (ao.out w0 HX.out).mono ?_;rintro r w1 ⟨rfl,u⟩))
  go_ret
  exact ⟨rfl,HX.out.trans u⟩
 have ac:=Jh (ao.out w0 HX.out)
 rw [aa] at ac
 have an:=Dv aa
 by_cases ab:vs.length=d.signals.length
 case neg =>
  have b1:((vs.length:Int) != (d.signals.length:Int))=true:=by rw [bne_iff_ne];omega
  obtain rfl:t=false:=by rw [<-HT.out];unfold Cn;rw [decide_eq_false ab];rfl
  clear ab aa an
  go_wp2_with (first | ((with_reducible show Jl 26);refine Aa rfl 26 _ rfl rfl (d0) Aj rfl ?_) | (go_at_call 39;refine ac.out.mono ?_;rintro r w1 ⟨rfl,u⟩;have g1:=(HD.out.ext u).has 0 _ rfl))
  go_ret
  exact ⟨rfl,HX.out.trans u⟩
 have b1:((vs.length:Int) != (d.signals.length:Int))=false:=by rw [bne_eq_false_iff_eq];omega
 have HW:=Jh an
 have HL:=Jh ab
 have aw:=Jh (show t=Su d.signals vs by rw [<-HT.out];unfold Cn;rw [decide_eq_true ab,decide_eq_true aa];rfl)
 clear an aa ab
 go_upto_region 3 with (first | ((with_reducible show Jl 26);refine Aa rfl 26 _ rfl rfl (d0) Aj rfl ?_) | (go_at_call 39;refine ac.out.mono ?_;rintro r w1 ⟨rfl,u⟩;have g1:=(HD.out.ext u).has 0 _ rfl))
 have ae:=Jh (HX.out.trans u)
 have a6:=Jh (HD.out.ext u)
 clear g1 u d0 HD HX
 go_wp2_with fail
 go_loopw [5] (fun i wr=>∃ k:Nat,k<=vs.length/\i=.int .i64 k/\(∀ j,j<k->vs.getD j 0<2^(Dn d.signals (j:Int)).toNat)/\Ext w1 wr) (fun i _=>vs.length-(intOf i).toNat)
 case atStart=>exact ⟨0,Nat.zero_le _,rfl,fun j hj=>absurd hj (by omega),Below.refl _ _⟩
 case round =>
  obtain ⟨k,hk,rfl,aj,hB⟩:=hrel
  have ai:=Jh aj
  have HB:=Jh hB
  clear aj hB
  by_cases ah:k<vs.length
  ·have af:k<d.signals.length:=by have:=HL.out;omega
   obtain rfl:=HA.out (by omega)
   obtain rfl:=a5.out (by omega)
   have he:=Cq.get (a7.out wr (ae.out.trans HB.out)) af
   have g1:=he 1 _ rfl
   have gv:=Us.get (a8.out wr (ae.out.trans HB.out)) ah
   have gd:=(a6.out.ext HB.out).has 0 _ rfl
   have am:=HW.out _ (List.getElem_mem af)
   have a3:Dn d.signals (k:Int)=d.signals[k].w:=by simp [Dn,List.getElem?_eq_getElem af]
   have az:vs.getD k 0=vs[k]:=by simp [List.getD_eq_getElem?_getD,List.getElem?_eq_getElem ah]
   have ak:=Jh (fun W=>Fo d.signals[k].w am.1 am.2 W)
   have au:=Jh a3
   have aq:=Jh az
   have hp:=Nat.two_pow_pos d.signals[k].w.toNat
   generalize d.signals[k]=x at *
   generalize vs[k]=y at *
   obtain ⟨M,hM⟩:∃ M,2^x.w.toNat-1=M:=⟨_,rfl⟩
   rw [hM] at ak
   have ar:=Jh (show ∀ z:Nat,z<2^x.w.toNat↔z<=M by intro z;omega)
   clear am a3 az he hM hp
   go_upto_region 6 with fail
   by_cases ag:M<y
   ·have c3:decide (M<y)=true:=decide_eq_true ag
    obtain rfl:t=false:=by
     rw [aw.out]
     unfold Su
     rw [Bool.eq_false_iff]
     intro h1
     have h2:=of_decide_eq_true (List.all_eq_true.1 h1 k (List.mem_range.2 af))
     rw [au.out,aq.out,ar.out] at h2
     omega
    clear ag
    go_quiet (first | (go_at_call 40;refine Calls.quiet_of_same (ak.out _)))
    have al:=(ae.out.trans HB.out).drewNB nq
    generalize wr.drewN nq=w3 at *
    clear g1 gv gd
    go_wp2_with fail
    go_ret
    exact ⟨rfl,al⟩
   ·have c3:decide (M<y)=false:=decide_eq_false ag
    have ap:=Jh (show vs.getD k 0<2^(Dn d.signals (k:Int)).toNat by rw [au.out,aq.out,ar.out];omega)
    clear ag
    go_quiet (first | (go_at_call 40;refine Calls.quiet_of_same (ak.out _)))
    have al:=HB.out.drewNB nq
    generalize wr.drewN nq=w3 at *
    clear g1 gv gd
    go_wp2_with fail
    go_roundw
    case rel=>exact ⟨k+1,by omega,by go_num,fun j hj=>by
     by_cases e:j=k
     ·subst e;exact ap.out
     ·exact ai.out j (by omega),al⟩
    case measure=>simp [intOf];omega
  ·obtain rfl:k=vs.length:=by omega
   obtain rfl:t=true:=by
    rw [aw.out]
    unfold Su
    rw [List.all_eq_true]
    intro j hj
    exact decide_eq_true (ai.out j (by have:=List.mem_range.1 hj;have:=HL.out;omega))
   go_wp2_with fail
   go_ret
   exact ⟨rfl,ae.out.trans HB.out⟩
theorem Xd (d:Bb) (v:Value) (e:E) (j:Int) (cs:List Value) (w:World) (hF:Ck w v d) (bd:d.ok) (hV:VE w cs e) (a5:e.wf) (hn:nodes e<=1048576) :
  Calls Tryz.prog 145 #[v,.agg cs.toArray,.int .i64 j] w (Aa0 w (I8 d.signals e j)):=by
 obtain ⟨sv,pv,cv,rfl,hS,hP,hC⟩:=hF
 obtain ⟨s,rfl,hs⟩:=hV
 have x1:=Ab w (.cells [sv,pv,cv].toArray 26)
 have x2:=Ab (w.alloc (.cells [sv,pv,cv].toArray 26)) (.cells (e.cells s).toArray 40)
 have x3:=Ab ((w.alloc (.cells [sv,pv,cv].toArray 26)).alloc (.cells (e.cells s).toArray 40)) (.cells A0.toArray 40)
 have hD:=((Blk.new w [sv,pv,cv].toArray 26).ext x2).ext x3
 have hE:=(Blk.new (w.alloc (.cells [sv,pv,cv].toArray 26)) (e.cells s).toArray 40).ext x3
 have hR:=Blk.new ((w.alloc (.cells [sv,pv,cv].toArray 26)).alloc (.cells (e.cells s).toArray 40)) A0.toArray 40
 have HX:=(x1.trans x2).trans x3
 simp only [World.size_alloc] at hE hR
 clear x1 x2 x3
 have ak:=Jh (fun W (h:Ext w W)=>Lk d.signals sv W (hS.ext h) bd.signals)
 have a1:=Jh (fun W (h:Ext w W)=>Hj d.signals e sv (e.cells s) W (hS.ext h) ⟨s,rfl,hs.ext h⟩ a5)
 have ah:=Jh (fun W (h:Ext w W)=>Li e s W (hs.ext h) hn)
 have a6:=Jh (fun W (h:Ext w W)=>M7 e s W (hs.ext h) (Nat.le_trans (G6 e) hn))
 have bl:=Jh (fun W (h:Ext w W)=>show VE W (e.cells s) e from ⟨s,rfl,hs.ext h⟩)
 have bm:=Jh a5
 have HN:=Jh hn
 obtain ⟨a0,b0,o0,c0,rfl,-,-,-,-⟩:=hS.open
 obtain ⟨ap,bp,op,cp,rfl,-,-,-,-⟩:=hP.open
 obtain ⟨ac,bc,oc,cc,rfl,-,-,-,-⟩:=hC.open
 clear hS hP hC hs bd a5 hn
 obtain ⟨a3,ao⟩:∃ o,I8 d.signals e j=o:=⟨_,rfl⟩
 have am:=Jh ao
 rw [ao]
 clear ao
 obtain ⟨sg,av⟩:∃ s,Cp [[]] d.signals=s:=⟨_,rfl⟩
 obtain ⟨p,hp⟩:∃ p,A7 d.signals e=p:=⟨_,rfl⟩
 have al:=Jh (show Fa d.signals e j=(!sg||decide (j<0)||decide (64<j)||!p) by unfold Fa;rw [av,hp])
 have bj:=Jh av
 have bi:=Jh hp
 rw [av] at ak
 rw [hp] at a1
 clear av hp
 go_enter Tryz.func145,Tryz.ntmps145
 go_upto_region 1 with fail
 generalize ((w.alloc _).alloc _).alloc _=w0 at *
 have HD:=Jh hD
 have HE:=Jh hE
 have HR:=Jh hR
 have ab:=Jh HX
 have g0:=hD.has 0 _ rfl
 clear hD hE hR HX
 have ax:Fa d.signals e j=true->a3=.error 1:=fun h=>by
  have ho:=am.out
  unfold I8 at ho
  rw [h,if_pos rfl] at ho
  exact ho.symm
 have aj:=Jh ax
 clear ax
 cases sg
 ·obtain rfl:=aj.out (by rw [al.out];rfl)
  go_wp2_with (first | (go_at_call 140;refine (ak.out w0 ab.out).mono ?_;rintro r w1 ⟨rfl,u⟩) | ((with_reducible show Js 40);refine Ac rfl 40 _ _ rfl (HR.out.ext u) rfl (cs:=A0) (rfl) Ah (rfl) rfl (rfl) ?_;intro w4 af ag) | ((with_reducible show bodyPost _ _ _ _ _ _);refine Hid.out ?_))
  refine Jh ?_
  refine Ak rfl rfl rfl af.has Ah rfl rfl (.inl ⟨1,rfl,by decide,rfl,(ab.out.trans u).grown ag (by omega)⟩)
 by_cases c1:j<0
 ·obtain rfl:=aj.out (by rw [al.out,decide_eq_true c1];rfl)
  go_wp2_with (first | (go_at_call 140;refine (ak.out w0 ab.out).mono ?_;rintro r w1 ⟨rfl,u⟩) | ((with_reducible show Js 40);refine Ac rfl 40 _ _ rfl (HR.out.ext u) rfl (cs:=A0) (rfl) Ah (rfl) rfl (rfl) ?_;intro w4 af ag) | ((with_reducible show bodyPost _ _ _ _ _ _);refine Hid.out ?_))
  refine Jh ?_
  refine Ak rfl rfl rfl af.has Ah rfl rfl (.inl ⟨1,rfl,by decide,rfl,(ab.out.trans u).grown ag (by omega)⟩)
 by_cases c2:64<j
 ·obtain rfl:=aj.out (by rw [al.out,decide_eq_true c2];simp)
  go_wp2_with (first | (go_at_call 140;refine (ak.out w0 ab.out).mono ?_;rintro r w1 ⟨rfl,u⟩) | ((with_reducible show Js 40);refine Ac rfl 40 _ _ rfl (HR.out.ext u) rfl (cs:=A0) (rfl) Ah (rfl) rfl (rfl) ?_;intro w4 af ag) | ((with_reducible show bodyPost _ _ _ _ _ _);refine Hid.out ?_))
  refine Jh ?_
  refine Ak rfl rfl rfl af.has Ah rfl rfl (.inl ⟨1,rfl,by decide,rfl,(ab.out.trans u).grown ag (by omega)⟩)
 have b1:decide (j<0)=false:=decide_eq_false c1
 have b2:decide (64<j)=false:=decide_eq_false c2
 have a8:=Jh (show 0<=j/\j<=64 by omega)
 clear c1 c2
 cases p
 ·obtain rfl:=aj.out (by rw [al.out,b1,b2];rfl)
  go_wp2_with (first | (go_at_call 140;refine (ak.out w0 ab.out).mono ?_;rintro r w1 ⟨rfl,u⟩;have g1:=(HD.out.ext u).has 0 _ rfl;have k1:=(HE.out.ext u).has) | ((with_reducible show Jl 40);refine Aa rfl 40 _ rfl rfl (k1) Ah rfl ?_) | (go_at_call 139;refine (a1.out _ (ab.out.trans u)).mono ?_;rintro r w2 ⟨rfl,aq⟩) | ((with_reducible show Js 40);refine Ac rfl 40 _ _ rfl (HR.out.ext (u.trans aq)) rfl (cs:=A0) (rfl) Ah (rfl) rfl (rfl) ?_;intro w4 af ag) | ((with_reducible show bodyPost _ _ _ _ _ _);refine Hid.out ?_))
  refine Jh ?_
  refine Ak rfl rfl rfl af.has Ah rfl rfl (.inl ⟨1,rfl,by decide,rfl,(ab.out.trans (u.trans aq)).grown ag (by omega)⟩)
 have a7:=Jh (show Fa d.signals e j=false by rw [al.out,b1,b2];rfl)
 go_upto_region 3 with (first | (go_at_call 140;refine (ak.out w0 ab.out).mono ?_;rintro r w1 ⟨rfl,u⟩;have g1:=(HD.out.ext u).has 0 _ rfl;have k1:=(HE.out.ext u).has) | ((with_reducible show Jl 40);refine Aa rfl 40 _ rfl rfl (k1) Ah rfl ?_) | (go_at_call 139;refine (a1.out _ (ab.out.trans u)).mono ?_;rintro r w2 ⟨rfl,aq⟩))
 have a2:=Jh (u.trans aq)
 have ar:=Jh (HE.out.ext a2.out)
 have au:=Jh (HR.out.ext a2.out)
 have ae:=Jh (ab.out.trans a2.out)
 clear u aq g0 g1 k1
 have k2:=ar.out.has
 have ay:(decide (nodes e<=65536)&&decide (Cu e<=64))=false->a3=.error 2:=fun h=>by
  have ho:=am.out
  unfold I8 at ho
  rw [a7.out,if_neg (by simp),if_pos h] at ho
  exact ho.symm
 have an:nodes e<=65536->Cu e<=64->a3=Ao e j:=fun h h'=>by
  have ho:=am.out
  unfold I8 at ho
  rw [a7.out,if_neg (by simp),decide_eq_true h,decide_eq_true h',if_neg (by simp)] at ho
  exact ho.symm
 have aw:=Jh ay
 have az:=Jh an
 clear ay an
 by_cases n1:(65536:Int)<(nodes e:Int)
 ·obtain rfl:=aw.out (by rw [decide_eq_false (by omega)];rfl)
  have b3:decide ((65536:Int)<(nodes e:Int))=true:=decide_eq_true n1
  clear n1
  go_wp2_with (first | ((with_reducible show Jl 40);refine Aa rfl 40 _ rfl rfl (k2) Ah rfl ?_) | (go_at_call 51;refine (ah.out _ ae.out).mono ?_;rintro r w3 ⟨rfl,aa⟩) | ((with_reducible show Js 40);refine Ac rfl 40 _ _ rfl (au.out.ext aa) rfl (cs:=A0) (rfl) Ah (rfl) rfl (rfl) ?_;intro w4 af ag) | ((with_reducible show bodyPost _ _ _ _ _ _);refine Hid.out ?_))
  refine Jh ?_
  refine Ak rfl rfl rfl af.has Ah rfl rfl (.inl ⟨2,rfl,by decide,rfl,(ae.out.trans aa).grown ag (by omega)⟩)
 have b3:decide ((65536:Int)<(nodes e:Int))=false:=decide_eq_false n1
 by_cases n2:(64:Int)<(Cu e:Int)
 ·obtain rfl:=aw.out (by rw [decide_eq_false (show ¬ Cu e<=64 by omega)];simp)
  have b4:decide ((64:Int)<(Cu e:Int))=true:=decide_eq_true n2
  clear n1 n2
  go_wp2_with (first | ((with_reducible show Jl 40);refine Aa rfl 40 _ rfl rfl (k2) Ah rfl ?_) | (go_at_call 51;refine (ah.out _ ae.out).mono ?_;rintro r w3 ⟨rfl,aa⟩;have k3:=(ar.out.ext aa).has) | ((with_reducible show Jl 40);refine Aa rfl 40 _ rfl rfl (k3) Ah rfl ?_) | (go_at_call 52;refine (a6.out _ (ae.out.trans aa)).mono ?_;rintro r w5 ⟨rfl,ai⟩) | ((with_reducible show Js 40);refine Ac rfl 40 _ _ rfl (au.out.ext (aa.trans ai)) rfl (cs:=A0) (rfl) Ah (rfl) rfl (rfl) ?_;intro w4 af ag) | ((with_reducible show bodyPost _ _ _ _ _ _);refine Hid.out ?_))
  refine Jh ?_
  refine Ak rfl rfl rfl af.has Ah rfl rfl (.inl ⟨2,rfl,by decide,rfl,(ae.out.trans (aa.trans ai)).grown ag (by omega)⟩)
 have b4:decide ((64:Int)<(Cu e:Int))=false:=decide_eq_false n2
 obtain rfl:=az.out (by omega) (by omega)
 have bb:∀ x∈d.signals,x.w<=64:=Vy _ _ bj.out
 have bk:=Jh (fun W (h:Ext w W)=>Hq bb e bi.out bm.out HN.out j (e.cells s) W (bl.out W h) a8.out.1 (by have:=a8.out.2;omega))
 clear n1 n2 bb
 go_wp2_with (first | ((with_reducible show Jl 40);refine Aa rfl 40 _ rfl rfl (k2) Ah rfl ?_) | (go_at_call 51;refine (ah.out _ ae.out).mono ?_;rintro r w3 ⟨rfl,aa⟩;have k3:=(ar.out.ext aa).has) | ((with_reducible show Jl 40);refine Aa rfl 40 _ rfl rfl (k3) Ah rfl ?_) | (go_at_call 52;refine (a6.out _ (ae.out.trans aa)).mono ?_;rintro r w5 ⟨rfl,ai⟩;have k5:=(ar.out.ext (aa.trans ai)).has) | ((with_reducible show Jl 40);refine Aa rfl 40 _ rfl rfl (k5) Ah rfl ?_) | (go_at_call 144;refine (bk.out _ (ae.out.trans (aa.trans ai))).mono ?_;intro r w6 a4;obtain ⟨bo,g,rfl,a9,be,bf,-⟩:=a4.open;have bg:=Jh a4;clear a4;have bs:=au.out.ext ((aa.trans ai).trans bf)) | ((with_reducible show Js 40);refine Ac rfl 40 _ _ rfl bs rfl (cs:=bo) rfl Ah a9 rfl be ?_;intro w9 br ba) | ((with_reducible show bodyPost _ _ _ _ _ _);refine Hid.out ?_))
 refine Jh ?_
 have bu:=ae.out.size
 have bv:=aa.size
 have bw:=ai.size
 have bt:=au.out.lt
 refine Ak rfl rfl rfl br.has Ah a9 rfl ?_
 rcases bg.out.again (ae.out.trans (aa.trans ai)) ((ae.out.trans ((aa.trans ai).trans bf)).grown ba (by omega)) (Al.of_grown ba (by omega)) with ⟨g9,h1,h2,h3,h4⟩ | ⟨y,bq,h1,h2,h3,h4⟩
 ·exact .inl ⟨g9,h1,by omega,h3,h4⟩
 ·exact .inr ⟨y,bq,h1,h2,h3,h4⟩
theorem Rz (d:Bb) (v:Value) (e:E) (cs:List Value) (w:World) (hF:Ck w v d) (ao:d.ok) (hV:VE w cs e) (au:e.wf) (hn:nodes e<=1048576) :
  Calls Tryz.prog 109 #[v,.agg cs.toArray] w fun r w'=>r=.returned (.int .i64 (D9 d.signals e))/\Ext w w':=by
 have HF:=Jh (fun W (h:Ext w W)=>hF.ext h)
 have aw:=Jh (fun W (h:Ext w W)=>Xd d v e e.w cs W (hF.ext h) ao (hV.ext h) au hn)
 obtain ⟨sv,pv,cv,rfl,hS,hP,hC⟩:=hF
 have a1:[sv,pv,cv].all (·.oneCell')=true:=by simp [hS.one,hP.one,hC.one]
 obtain ⟨s0,rfl,aq⟩:=hV
 have ay:=Jh (fun W (h:Ext w W)=>show VE W (e.cells s0) e from ⟨s0,rfl,aq.ext h⟩)
 have h8:(e.cells s0).length=8:=rfl
 have x1:=Ab w (.cells [sv,pv,cv].toArray 26)
 have x2:=Ab (w.alloc (.cells [sv,pv,cv].toArray 26)) (.cells (e.cells s0).toArray 40)
 have hD:=(Blk.new w [sv,pv,cv].toArray 26).ext x2
 have hE:=Blk.new (w.alloc (.cells [sv,pv,cv].toArray 26)) (e.cells s0).toArray 40
 have HX:=x1.trans x2
 simp only [World.size_alloc] at hE
 clear x1 x2
 obtain ⟨a0,b0,o0,c0,rfl,-,-,-,-⟩:=hS.open
 obtain ⟨ap,bp,op,cp,rfl,-,-,-,-⟩:=hP.open
 obtain ⟨ac,bc,oc,cc,rfl,-,-,-,-⟩:=hC.open
 clear hS hP hC ao au hn aq
 obtain ⟨ae,aa⟩:∃ o,D9 d.signals e=o:=⟨_,rfl⟩
 have ak:=Jh aa
 rw [aa]
 clear aa
 go_enter Tryz.func109,Tryz.ntmps109
 go_upto_region 1 with fail
 generalize (w.alloc _).alloc _=w0 at *
 have HD:=Jh hD
 have HE:=Jh hE
 have al:=Jh HX
 have d0:=hD.has
 have e0:=hE.has
 have g1:=hE.has 1 _ rfl
 clear hD hE HX
 go_upto_region 2 with (first | ((with_reducible show Jl 26);refine Aa rfl 26 _ rfl rfl (d0) Aj rfl ?_) | ((with_reducible show Jl 40);refine Aa rfl 40 _ rfl rfl (e0) Ah rfl ?_) | (go_at_call 145;refine (aw.out _ al.out).mono ?_;rintro r w1 hp;obtain ⟨u,g,rfl,af,ah,av,hq⟩:=hp.open) | ((with_reducible show Js 40);refine Ad rfl 40 _ _ rfl rfl (by first | rfl | simp) rfl Ah (af) rfl (ah) ?_))
 have HQ:=Jh hq
 have ag:=av.alloc (.cells u.toArray 40)
 have am:=Has.alloc w1 u 40
 have ax:=Jh (fun y (h:VE w1 u y)=>h.ext (Ab w1 (.cells u.toArray 40)))
 have aj:=Jh (HE.out.ext ag)
 have j:=Jh (al.out.trans ag)
 clear hq av ag g1 d0 e0
 generalize w1.alloc _=w2 at *
 have e2:=aj.out.has
 have g1:=aj.out.has 1 _ rfl
 have ho:=ak.out
 unfold D9 at ho
 rcases HQ.out with ⟨rfl,y,hy,ar⟩ | ⟨an,hy⟩
 ·rw [hy] at ho
  simp only at ho
  have az:=Jh (ax.out y ar)
  have HO:=Jh ho
  clear ho hy ar HQ
  by_cases hw:e.w=0
  ·have c1:(e.w==0)=true:=by rw [beq_iff_eq];exact hw
   obtain rfl:ae=90:=by have:=HO.out;rw [if_pos (.inl hw)] at this;exact this.symm
   clear hw
   go_wp2_with fail
   go_ret
   exact ⟨rfl,j.out⟩
  ·have c1:(e.w==0)=false:=by rw [beq_eq_false_iff_ne];exact hw
   obtain ⟨q,hq⟩:∃ q,eqE y e=q:=⟨_,rfl⟩
   have ab:=Jh (Kg y e u (e.cells s0) w2 az.out (ay.out w2 j.out))
   rw [hq] at ab
   have HW:=Jh hw
   have HQ:=Jh hq
   clear hw hq
   cases q
   ·obtain rfl:ae=90:=by have:=HO.out;rw [HQ.out,if_pos (.inr rfl)] at this;exact this.symm
    go_wp2_with (first | ((with_reducible show Jl 40);refine Aa rfl 40 _ rfl rfl (am) Ah af ?_) | ((with_reducible show Jl 40);refine Aa rfl 40 _ rfl rfl (e2) Ah rfl ?_) | (go_at_call 108;refine (ab.out).mono ?_;rintro r w3 ⟨rfl,ai⟩))
    go_ret
    exact ⟨rfl,j.out.trans ai⟩
   ·obtain rfl:ae=0:=by have:=HO.out;rw [HQ.out,if_neg (by rintro (h | h);exact HW.out h;cases h)] at this;exact this.symm
    go_wp2_with (first | ((with_reducible show Jl 40);refine Aa rfl 40 _ rfl rfl (am) Ah af ?_) | ((with_reducible show Jl 40);refine Aa rfl 40 _ rfl rfl (e2) Ah rfl ?_) | (go_at_call 108;refine (ab.out).mono ?_;rintro r w3 ⟨rfl,ai⟩))
    go_ret
    exact ⟨rfl,j.out.trans ai⟩
 ·rw [hy] at ho
  simp only at ho
  subst ho
  have c0:(g==0)=false:=by rw [beq_eq_false_iff_ne];exact an
  clear an hy HQ
  go_wp2_with fail
  go_ret
  exact ⟨rfl,j.out⟩
theorem Aax {d:Bb} {vs:List Nat} (h:Cn d vs=true):vs.length=d.signals.length/\By d=0/\Nc d.signals vs:=by
 unfold Cn at h
 simp only [Bool.and_eq_true,decide_eq_true_eq] at h
 exact ⟨h.1,h.2.1,Pd h.2.2⟩
theorem Xc (d:Bb) (v:Value) (vs:List Nat) (s:Value) (e:E) (cs:List Value) (w:World) (hF:Ck w v d) (aj:d.ok) (hs:Us w s vs) (hV:VE w cs e) (ak:e.wf) (hn:nodes e<=1048576) :
  Calls Tryz.prog 77 #[v,s,.agg cs.toArray] w fun r w'=>r=.returned (.tuple #[.int .u64 ((Hh d vs e).1:Nat),.int .i64 (Hh d vs e).2])/\Ext w w':=by
 have an:=Jh (fun W (h:Ext w W)=>hF.ext h)
 have ao:=Jh (fun W (h:Ext w W)=>hs.ext h)
 have ap:=Jh (fun W (h:Ext w W)=>hV.ext h)
 have ae:=Jh (fun W (h:Ext w W)=>Mv d v vs s W (hF.ext h) aj (hs.ext h))
 have af:=Jh (fun W (h:Ext w W)=>Rz d v e cs W (hF.ext h) aj (hV.ext h) ak hn)
 have HN:=Jh hn
 have aq:=Jh ak
 have h8:cs.length=8:=by obtain ⟨s,rfl,-⟩:=hV;rfl
 obtain ⟨sv,pv,cv,rfl,hS,hP,hC⟩:=hF
 obtain ⟨av,bv,ov,au,rfl,-,-,-,-⟩:=hs.open
 have x1:=Ab w (.cells [sv,pv,cv].toArray 26)
 have x2:=Ab (w.alloc (.cells [sv,pv,cv].toArray 26)) (.cells cs.toArray 40)
 have hD:=(Blk.new w [sv,pv,cv].toArray 26).ext x2
 have hE:=Blk.new (w.alloc (.cells [sv,pv,cv].toArray 26)) cs.toArray 40
 have hX:=x1.trans x2
 simp only [World.size_alloc] at hE
 clear x1 x2 hS hP hC hs aj hV ak hn
 obtain ⟨ag,ac⟩:∃ o,Hh d vs e=o:=⟨_,rfl⟩
 have ab:=Jh ac
 rw [ac]
 clear ac
 obtain ⟨q,hq⟩:∃ q,Cn d vs=q:=⟨_,rfl⟩
 have HQ:=Jh hq
 rw [hq] at ae
 clear hq
 go_enter Tryz.func77,Tryz.ntmps77
 go_upto_region 1 with fail
 generalize (w.alloc _).alloc _=w0 at *
 have HD:=Jh hD
 have HE:=Jh hE
 have HX:=Jh hX
 have d0:=hD.has
 clear hD hE hX
 cases q
 ·obtain rfl:ag=(0,1):=by rw [<-ab.out];unfold Hh;rw [HQ.out];simp
  go_wp2_with (first | ((with_reducible show Jl 26);refine Aa rfl 26 _ rfl rfl (d0) Aj rfl ?_) | (go_at_call 23;refine (ae.out w0 HX.out).mono ?_;rintro r w1 ⟨rfl,j⟩))
  refine bodyPost_ret (v:=.tuple #[.int .u64 ((0:Nat):Int),.int .i64 1]) (by simp [results,Tryz.results77,go_sem]) rfl ⟨rfl,HX.out.trans j⟩
 by_cases u:D9 d.signals e=0
 case neg =>
  have c1:(D9 d.signals e != 0)=true:=by rw [bne_iff_ne];exact u
  obtain rfl:ag=(0,1):=by rw [<-ab.out];unfold Hh;rw [if_neg (fun h=>u h.2)]
  clear u
  go_wp2_with (first | ((with_reducible show Jl 26);refine Aa rfl 26 _ rfl rfl (d0) Aj rfl ?_) | (go_at_call 23;refine (ae.out w0 HX.out).mono ?_;rintro r w1 ⟨rfl,j⟩;have d1:=(HD.out.ext j).has;have e1:=(HE.out.ext j).has) | ((with_reducible show Jl 26);refine Aa rfl 26 _ rfl rfl (d1) Aj rfl ?_) | ((with_reducible show Jl 40);refine Aa rfl 40 _ rfl rfl (e1) Ah h8 ?_) | (go_at_call 109;refine (af.out w1 (HX.out.trans j)).mono ?_;rintro r w2 ⟨rfl,aa⟩))
  refine bodyPost_ret (v:=.tuple #[.int .u64 ((0:Nat):Int),.int .i64 1]) (by simp [results,Tryz.results77,go_sem]) rfl ⟨rfl,HX.out.trans (j.trans aa)⟩
 obtain ⟨h4,h5,h6⟩:=Aax HQ.out
 have ai:=Dv h5
 have am:=(Qz (fun x hx=>(ai x hx).2) u).1
 have al:=Jh (fun W (h:Ext w W)=>R3 d vs ai h6 e am aq.out (.inl h4) _ _ cs W (an.out W h) (ao.out W h) (ap.out W h) HN.out)
 obtain rfl:ag=(evM vs e,0):=by rw [<-ab.out];unfold Hh;rw [if_pos ⟨HQ.out,u⟩]
 rw [u] at af
 unfold evB at al
 clear h4 h5 h6 ai am u
 go_wp2_with (first | (go_at_call 23;refine (ae.out w0 HX.out).mono ?_;rintro r w1 ⟨rfl,j⟩;have d1:=(HD.out.ext j).has;have e1:=(HE.out.ext j).has;clear d0) | ((with_reducible show Jl 26);refine Aa rfl 26 _ rfl rfl (d0) Aj rfl ?_) | (go_at_call 109;refine (af.out w1 (HX.out.trans j)).mono ?_;rintro r w2 ⟨rfl,aa⟩;have d2:=(HD.out.ext (j.trans aa)).has;have e2:=(HE.out.ext (j.trans aa)).has;clear d1 e1) | ((with_reducible show Jl 26);refine Aa rfl 26 _ rfl rfl (d1) Aj rfl ?_) | ((with_reducible show Jl 40);refine Aa rfl 40 _ rfl rfl (e1) Ah h8 ?_) | ((with_reducible show Jl 26);refine Aa rfl 26 _ rfl rfl (d2) Aj rfl ?_) | ((with_reducible show Jl 40);refine Aa rfl 40 _ rfl rfl (e2) Ah h8 ?_) | (go_at_call 110;refine (al.out w2 (HX.out.trans (j.trans aa))).mono ?_;rintro r w3 ⟨rfl,ar⟩;have hf:=Re ⟨e.w,evM vs e⟩ w3))
 refine bodyPost_ret (v:=.tuple #[.int .u64 (evM vs e:Int),.int .i64 0]) (by simp [results,Tryz.results77,go_sem]) rfl ⟨rfl,HX.out.trans ((j.trans aa).trans ar)⟩
theorem Z9 {k:Nat} (h:k<=63):IntKind.u64.wrap (IntKind.u64.wrap (2^k)-1)=((2^k-1:Nat):Int):=by
 revert k
 decide +kernel
theorem Vh (k:Nat) (h2:k<=64) (w:World):Calls Tryz.prog 76 #[.int .i64 k] w fun r w'=>r=.returned (.int .u64 ((2^k-1:Nat):Int))/\w'=w:=by
 go_enter Tryz.func76,Tryz.ntmps76
 by_cases h3:(64:Int)<=(k:Int)
 ·have c2:decide ((64:Int)<=(k:Int))=true:=decide_eq_true h3
  obtain rfl:k=64:=by omega
  clear h3
  go_wp2_with fail
  go_ret
  exact ⟨rfl,rfl⟩
 ·have c2:decide ((64:Int)<=(k:Int))=false:=decide_eq_false h3
  have HM:=Jh (Z9 (show k<=63 by omega))
  clear h3
  go_wp2_with fail
  go_ret
  refine ⟨?_,rfl⟩
  rw [<-HM.out]
  first | rfl | (trace_state;simp)
theorem Z8 {hi lo:Nat} (h:lo<=hi) (j:hi<64):IntKind.u64.wrap (((2^(hi+1-lo)-1:Nat):Int)*2^lo)=((Gg hi lo:Nat):Int):=by
 have e:((2^(hi+1-lo)-1:Nat):Int)*2^lo=((Gg hi lo:Nat):Int):=by unfold Gg;push_cast;rfl
 rw [e,Qi (Od h j)]
theorem Aan {a hi lo x:Nat} (h:lo<=hi) (u:hi<64) (ha:a<18446744073709551616) (hx:x<2^(hi+1-lo)) :
  bits .or .u64 (bits .andNot .u64 (a:Int) ((Gg hi lo:Nat):Int)) (bits .and .u64 (IntKind.u64.wrap ((x:Int)*2^lo)) ((Gg hi lo:Nat):Int))=((Dm a hi lo x:Nat):Int):=by
 have hm:=Od h u
 have j:2^lo*x<18446744073709551616:=by
  have h1:2^lo*x<2^lo*2^(hi+1-lo):=(Nat.mul_lt_mul_left (Nat.two_pow_pos _)).2 hx
  rw [<-Nat.pow_add] at h1
  have h2:2^(lo+(hi+1-lo))<=2^64:=Nat.pow_le_pow_right (by decide) (by omega)
  have:(2:Nat)^64=18446744073709551616:=by decide
  omega
 have hw:IntKind.u64.wrap ((x:Int)*2^lo)=((2^lo*x:Nat):Int):=by
  have:(x:Int)*2^lo=((2^lo*x:Nat):Int):=by push_cast;rw [Int.mul_comm]
  rw [this,Qi j]
 rw [hw,Aes ha hm,Gr j hm,Lc (Nat.lt_of_le_of_lt Nat.and_le_left ha) (Nat.lt_of_le_of_lt Nat.and_le_left j),Ad9 a hi lo x h u ha hx]
theorem Y3 (v:List Nat) (vv op se sl:Value) (sg hi lo x:Nat) (w:World) (hv:Us w vv v) (bg:v.length<=1048576) (am:sg<v.length) (ay:lo<=hi) (ar:hi<64) (hx:x<2^(hi+1-lo)) (ha:v[sg]<18446744073709551616) :
  Calls Tryz.prog 41 #[vv,.agg #[op,.int .i64 sg,.int .i64 hi,.int .i64 lo,se,sl],.int .u64 x] w fun r w'=>∃ u,r=.returned u/\Ax w.heap.size u (v.set sg (Dm v[sg] hi lo x)) w'/\Ext w w':=by
 have HV:=Jh hv
 obtain ⟨av,bv,ov,bb,rfl,be,bf,az,an⟩:=hv.open
 obtain rfl:=az (by omega)
 have bd:=Jh an
 have HM:=Jh (Vh (hi+1-lo) (by omega))
 have a3:=Jh (Z8 ay ar)
 have aq:=Jh (Aan ay ar ha hx)
 have x1:=Ab w (.cells #[op,.int .i64 sg,.int .i64 hi,.int .i64 lo,se,sl] 44)
 have hT:=Blk.new w #[op,.int .i64 sg,.int .i64 hi,.int .i64 lo,se,sl] 44
 have ah:=Jh (fun W (h:Ext w W)=>Us.get (k:=sg) (an.mono fun x _ b o (hh:UAt w x b o)=>Has.ext hh h) am)
 clear hv az an ha hx
 generalize hy:v[sg]=y at *
 have HY:=Jh hy
 clear hy
 obtain ⟨Z,hZ⟩:∃ Z,Dm y hi lo x=Z:=⟨_,rfl⟩
 rw [hZ] at aq ⊢
 clear hZ
 generalize Gg hi lo=M at *
 go_enter Tryz.func41,Tryz.ntmps41
 go_upto_region 1 with fail
 generalize w.alloc _=w0 at *
 obtain ⟨j,ak⟩:∃ B,w.heap.size=B:=⟨_,rfl⟩
 have bc:=Jh ak
 rw [ak] at hT ⊢
 clear ak
 have HT:=Jh hT
 have HX:=Jh x1
 clear hT x1
 have ae:=Jh (Ab w0 (.cells #[] 35))
 have ag:=Jh (Ax.bs0 w0 (N:=w0.heap.size) (Nat.le_refl _))
 have ao:=Jh (HV.out.ext (HX.out.trans ae.out))
 go_upto_region 2 with (first | ((with_reducible show Jw (Op.buildSlice _ _ _));refine Hz rfl _ rfl Kn ?_) | ((with_reducible show Jw (Op.call { callee:=.builtin .append,args:=_,argTypes:=_ }));refine P5 rfl _ _ rfl rfl ag.out rfl ao.out (by simp;omega) (by simp) ?_;intro v7 w7 aa aw))
 rw [List.nil_append] at aa
 have ai:=Jh (Below.grown ae.out aw ae.out.size (fun k hk=>by cases hk;exact Nat.le_refl _):Ext w0 w7)
 obtain ⟨g,c7,a9,ax,-⟩:=aa.open1 (by omega)
 subst a9
 have a0:=Jh aa
 have HG:=Jh ax
 have ac:=Jh (HT.out.ext ai.out)
 have a5:=Jh (HX.out.trans ai.out)
 have a7:j≠g:=by have:=HT.out.lt;omega
 clear aa aw ae ag ao ax
 have au:∀ W,Blk W j #[op,.int .i64 sg,.int .i64 hi,.int .i64 lo,se,sl] 44->W.cell? ⟨j,1,none⟩=some (.int .i64 sg)/\W.cell? ⟨j,2,none⟩=some (.int .i64 hi)/\W.cell? ⟨j,3,none⟩=some (.int .i64 lo):=fun W h=>⟨by have:=h.cell 1;simpa using this,by have:=h.cell 2;simpa using this,by have:=h.cell 3;simpa using this⟩
 have ab:=Jh au
 clear au
 refine Jg w7 fun hH=>?_
 try simp only [J]
 (refine Jk 0 (.pointer (some ⟨j,2,none⟩)) rfl hH ?_;try simp only [J])
 (refine Jt 1 (.int .i64 (hi:Int)) rfl (yif_load1 rfl (by intro W hW;have y:=(ab.out W (ac.out.ext hW)).2.1;clear hW;go_simp)) hH ?_;try simp only [J])
 (refine Jk 2 (.pointer (some ⟨j,3,none⟩)) rfl hH ?_;try simp only [J])
 (refine Jt 3 (.int .i64 (lo:Int)) rfl (yif_load1 rfl (by intro W hW;have y:=(ab.out W (ac.out.ext hW)).2.2;clear hW;go_simp)) hH ?_;try simp only [J])
 (refine Jt 4 (.int .i64 ((hi-lo:Nat):Int)) rfl (yif_load1 rfl (by intro W hW;clear hW;go_simp;rw [IntKind.wrap_i64]<;>omega)) hH ?_;try simp only [J])
 (refine Jt 5 (.int .i64 ((hi+1-lo:Nat):Int)) rfl (yif_load1 rfl (by intro W hW;clear hW;go_simp;rw [IntKind.wrap_i64]<;>omega)) hH ?_;try simp only [J])
 (refine Jk 7 (.pointer (some ⟨j,3,none⟩)) rfl hH ?_;try simp only [J])
 (refine Jt 8 (.int .i64 (lo:Int)) rfl (yif_load1 rfl (by intro W hW;have y:=(ab.out W (ac.out.ext hW)).2.2;clear hW;go_simp)) hH ?_;try simp only [J])
 (refine Jt 9 (.int .u64 (lo:Int)) rfl (yif_load1 rfl (by intro W hW;clear hW;go_simp;exact Qi (by omega))) hH ?_;try simp only [J])
 (refine Jr 6 rfl fun K hK=>?_)
 go_simp
 refine (HM.out _).mono ?_
 rintro r w8 ⟨rfl,rfl⟩
 refine hK.out _ _ hH (fun hH=>?_)
 clear hK K
 try simp only [J]
 (refine Jt 10 (.int .u64 (M:Int)) rfl (yif_load1 rfl (by intro W hW;clear hW;go_simp;exact a3.out)) hH ?_;try simp only [J])
 (refine Ji 11 (.int .u64 (M:Int)) rfl hH ?_;try simp only [J])
 refine Jz ?_
 have aj:=Jh hH
 clear hH
 generalize w7.drew=w8 at *
 have a4:=Jh (ac.out.ext aj.out)
 have a1:=Jh (a0.out.ext aj.out)
 go_upto_region 3 with fail
 refine wp_region_held_drew (S:=fun W=>Ext w W/\Blk W j #[op,.int .i64 sg,.int .i64 hi,.int .i64 lo,se,sl] 44) (by kernel_rfl) ⟨(a5.out.trans aj.out).drew,a4.out.drew⟩ (fun hH=>?_)
 try simp only [J]
 (refine Ji 0 _ rfl hH ?_;try simp only [J])
 (refine Jk 1 (.pointer (some ⟨j,1,none⟩)) rfl hH ?_;try simp only [J])
 (refine Jk 4 (.pointer (some ⟨j,1,none⟩)) rfl hH ?_;try simp only [J])
 (refine Jt 2 (.int .i64 (sg:Int)) rfl (yif_load1 rfl (by intro W hW;have y:=(ab.out W hW.2).1;clear hW;go_simp)) hH ?_;try simp only [J])
 (refine Jt 5 (.int .i64 (sg:Int)) rfl (yif_load1 rfl (by intro W hW;have y:=(ab.out W hW.2).1;clear hW;go_simp)) hH ?_;try simp only [J])
 (refine Ji 3 _ rfl hH ?_;try simp only [J])
 (refine Jp 6 (.pointer (some ⟨bv,ov+sg,none⟩)) rfl hH ?_;try simp only [J])
 (refine Jt 7 (.int .u64 (y:Int)) rfl (yif_load1 rfl (by intro W hW;have z:=ah.out W hW.1;clear hW;go_simp)) hH ?_;try simp only [J])
 (refine Ji 8 _ rfl hH ?_;try simp only [J])
 (refine Jk 9 (.int .u64 (bits .andNot .u64 (y:Int) (M:Int))) rfl hH ?_;try simp only [J])
 (refine Ji 10 _ rfl hH ?_;try simp only [J])
 (refine Jk 11 (.pointer (some ⟨j,3,none⟩)) rfl hH ?_;try simp only [J])
 (refine Jt 12 (.int .i64 (lo:Int)) rfl (yif_load1 rfl (by intro W hW;have y:=(ab.out W hW.2).2.2;clear hW;go_simp)) hH ?_;try simp only [J])
 (refine Jt 13 (.int .u64 (lo:Int)) rfl (yif_load1 rfl (by intro W hW;clear hW;go_simp;exact Qi (by omega))) hH ?_;try simp only [J])
 (refine Jk 14 (.int .u64 (IntKind.u64.wrap ((x:Int)*2^lo))) rfl hH ?_;try simp only [J])
 (refine Ji 15 _ rfl hH ?_;try simp only [J])
 (refine Jt 16 (.int .u64 (bits .and .u64 (IntKind.u64.wrap ((x:Int)*2^lo)) (M:Int))) rfl (yif_load1 rfl (by intro W hW;clear hW;go_simp)) hH ?_;try simp only [J])
 (refine Jt 17 (.int .u64 (Z:Int)) rfl (yif_load1 rfl (by intro W hW;clear hW;go_simp;exact aq.out)) hH ?_;try simp only [J])
 (refine Jp 18 (.pointer (some ⟨g,sg,none⟩)) rfl hH ?_;try simp only [J])
 have ap:=Jh (a1.out.ext (Below.drew (Below.refl _ w8)))
 have af:=ap.out.cellf am
 rw [HY.out] at af
 have c1:=af.1
 have f1:=af.2
 clear af
 have a2:=Jh (ap.out.set sg am Z)
 (refine Jr 19 rfl fun K hK=>?_)
 go_simp
 have al:=Ay w8.drew g sg (W64 Z)
 have a8:w.heap.size<=g:=Nat.le_trans HX.out.size HG.out
 refine hK.out _ _ ⟨hH.1.grown al a8,hH.2.grown al a7⟩ (fun hH=>?_)
 clear hK K c1 f1
 refine Jz ?_
 have a6:=Jh hH.1
 clear hH al
 have ba:=HX.out.size
 go_wp2_with ((with_reducible show bodyPost _ _ _ _ _ _);refine Hid.out ?_)
 refine Jh ?_
 refine bodyPost_ret (v:=.slice (some ⟨g,0,none⟩) v.length c7) (by simp [results,Tryz.results41,go_sem]) rfl ⟨_,rfl,a2.out.less ba,a6.out⟩
/-! value -/
theorem Sv (d:Bb) (v:Value) (vs:List Nat) (s:Value) (e:E) (cs:List Value) (w:World) (hF:Ck w v d) (aa:d.ok) (hs:Us w s vs) (hV:VE w cs e) (ab:e.wf) (hn:nodes e<=1048576) :
  Calls Tryz.prog 42 #[v,s,.agg cs.toArray] w fun r w'=>r=.returned (.int .u64 ((Hh d vs e).1:Nat))/\Ext w w':=by
 have HE:=Jh (fun W (h:Ext w W)=>Xc d v vs s e cs W (hF.ext h) aa (hs.ext h) (hV.ext h) ab hn)
 obtain ⟨sv,pv,cv,rfl,hS,hP,hC⟩:=hF
 obtain ⟨sa,-,-,sc,rfl,-,-,-,-⟩:=hs.open
 obtain ⟨s0,rfl,he⟩:=hV
 have ae:=he.one
 have hX:=(Ab w (.cells [sv,pv,cv].toArray 26)).trans (Ab _ (.cells (e.cells s0).toArray 40))
 have hD:=(Blk.new w [sv,pv,cv].toArray 26).alloc (.cells (e.cells s0).toArray 40)
 have u:Blk ((w.alloc (.cells [sv,pv,cv].toArray 26)).alloc (.cells (e.cells s0).toArray 40)) (w.heap.size+1) (e.cells s0).toArray 40:=by have:=Blk.new (w.alloc (.cells [sv,pv,cv].toArray 26)) (e.cells s0).toArray 40;rwa [World.size_alloc] at this
 obtain ⟨⟨y,f⟩,hy⟩:∃ x,Hh d vs e=x:=⟨_,rfl⟩
 rw [hy] at HE ⊢
 clear hS hP hC hs he ab hn hy aa
 go_enter Tryz.func42,Tryz.ntmps42
 go_upto_region 1 with fail
 generalize (w.alloc _).alloc _=w0 at *
 obtain ⟨Bd,j⟩:∃ B,w.heap.size=B:=⟨_,rfl⟩
 rw [j] at hD u ⊢
 clear j
 have dD:=hD.has
 have dE:=u.has
 have hc:=HE.out w0 hX
 go_wp2_with (first | ((with_reducible show Jl 26);refine Aa rfl 26 _ rfl rfl (dD) Aj rfl ?_) | ((with_reducible show Jl 40);refine Aa rfl 40 _ rfl rfl (dE) Ah rfl ?_) | (go_at_call 77;refine hc.mono ?_;rintro r w1 ⟨rfl,ac⟩))
 go_ret
 exact ⟨rfl,hX.trans ac⟩
theorem Af1 {l:List T} {x:Int} {i k:Nat} (hi:i+1<l.length) (hk:k<l[i].e.length) (he:l[i].e[k].v=x) (u:∀ j (h:j<l.length),j<i->(l[j].e.any fun e=>decide (e.v=x))=false):Lo l x=i:=by
 have hx:(l[i].e.any fun e=>decide (e.v=x))=true:=List.any_eq_true.2 ⟨_,List.getElem_mem hk,by rw [he];simp⟩
 have:l.findIdx (fun a=>a.e.any fun e=>decide (e.v=x))=i:=by
  rw [List.findIdx_eq (by omega)]
  exact ⟨hx,fun j hj=>u j (by omega) hj⟩
 unfold Lo
 rw [this];omega
theorem Add {l:List T} {x:Int} (u:∀ j (h:j<l.length),j<l.length-1->(l[j].e.any fun e=>decide (e.v=x))=false):Lo l x=l.length-1:=by
 unfold Lo
 have:l.length-1<=l.findIdx (fun a=>a.e.any fun e=>decide (e.v=x)):=by
  rcases Nat.lt_or_ge (l.findIdx (fun a=>a.e.any fun e=>decide (e.v=x))) (l.length-1) with h | h
  ·have h1:l.findIdx (fun a=>a.e.any fun e=>decide (e.v=x))<l.length:=by omega
   have h2:=List.findIdx_getElem (w:=h1)
   rw [u _ h1 h] at h2
   cases h2
  ·exact h
 omega
theorem Xr (l:List T) (sl:Value) (x:Int) (w:World) (hL:Ts w sl l) (h0:0<l.length) :
  Calls Tryz.prog 43 #[sl,.int .u64 x] w fun r w'=>r=.returned (.int .i64 (Lo l x:Nat))/\Ext w w':=by
 obtain ⟨a,b,o,cap,rfl,a3,a4,ha,hr⟩:=hL.open
 obtain rfl:=ha h0
 have HR:=Jh hr
 clear hL ha hr
 have a2:l.length<=9223372036854775807:=by omega
 go_enter Tryz.func43,Tryz.ntmps43
 go_wp2_with fail
 go_loopw [5,6] (fun i _ wr=>∃ k:Nat,k<=l.length-1/\i=.int .i64 k/\(∀ j (h:j<l.length),j<k->(l[j].e.any fun e=>decide (e.v=x))=false)/\Ext w wr) (fun i _ _=>l.length-(intOf i).toNat)
 case atStart=>exact ⟨0,Nat.zero_le _,rfl,fun j _ hj=>absurd hj (by omega),Below.refl _ _⟩
 case round =>
  obtain ⟨k,hk,rfl,af,aw⟩:=hrel
  have u:=Jh af
  have ai:=Jh aw
  clear af aw
  by_cases ar:k<l.length-1
  ·have a0:k<l.length:=by omega
   have bt:decide ((k:Int)<(l.length:Int)-1)=true:=decide_eq_true (by omega)
   obtain ⟨se,a5,av,ao,-⟩:=Ts.get HR.out a0
   obtain ⟨ae,be,oe,ce,rfl,am,a1,al,an⟩:=ao.open
   have ax:=Jh al
   have ay:=Jh an
   have ag:=Jh (fun W (h:Ext w W)=>(show W.cell? ⟨b,o+k*6+4,none⟩=some (.slice ae l[k].e.length ce) from (Has.ext av h) 4 _ rfl))
   obtain ⟨n,hn⟩:∃ n,l[k].e.length=n:=⟨_,rfl⟩
   have HN:=Jh hn
   rw [hn] at ag am
   clear av ao al an hn
   have y4:=ag.out wr ai.out
   go_wp2_with fail
   clear y4
   obtain ⟨wo,rfl⟩:∃ wo,wo=wr:=⟨_,rfl⟩
   go_loopw [6] (fun i wr=>∃ q:Nat,q<=n/\i=.int .i64 q/\(∀ j (h:j<l[k].e.length),j<q->l[k].e[j].v≠x)/\Ext w wr) (fun i _=>n-(intOf i).toNat)
   case atStart=>exact ⟨0,Nat.zero_le _,rfl,fun j _ hj=>absurd hj (by omega),ai.out⟩
   case round =>
    obtain ⟨q,hq,rfl,ac,aj⟩:=hrel
    have ab:=Jh ac
    have aa:=Jh aj
    have y4:=ag.out wr aj
    clear ac aj
    by_cases aq:q<n
    ·have au:q<l[k].e.length:=by rw [HN.out];exact aq
     obtain rfl:=ax.out (by omega)
     obtain ⟨s1,hh,-⟩:=Es.get ay.out au
     have yv:wr.cell? ⟨be,oe+q*8+2,none⟩=some (.int .u64 l[k].e[q].v):=(Has.ext hh aa.out) 2 _ rfl
     clear hh
     by_cases he:l[k].e[q].v=x
     ·have HE:=Jh he
      rw [he] at yv
      clear he
      go_wp2_with fail
      go_ret
      rw [Af1 (show k+1<l.length by omega) au HE.out u.out]
      exact ⟨rfl,aa.out⟩
     ·have HE:=Jh he
      have bv:(l[k].e[q].v==x)=false:=by rw [beq_eq_false_iff_ne];exact he
      clear he
      have ah:=Jh (show l[k].e[q].v≠x from HE.out)
      go_wp2_with fail
      go_roundw
      case rel=>exact ⟨q+1,aq,by go_num,fun j hj h=>by
       by_cases e:j=q
       ·subst e;exact ah.out
       ·exact ab.out j hj (by omega),aa.out⟩
      case measure=>simp [intOf];omega
    ·obtain rfl:q=n:=by omega
     go_wp2_with fail
     go_roundw
     case rel=>exact ⟨k+1,ar,by go_num,fun j hj h=>by
      by_cases e:j=k
      ·subst e
       rw [List.any_eq_false]
       intro z hz
       obtain ⟨i2,ap,e2⟩:=List.getElem_of_mem hz
       have:=ab.out i2 ap (by rw [<-HN.out];exact ap)
       rw [e2] at this
       simpa using this
      ·exact u.out j hj (by omega),aa.out⟩
     case measure=>simp [intOf];omega
  ·have az:=Jh (show k=l.length-1 by omega)
   have bt:decide ((k:Int)<(l.length:Int)-1)=false:=decide_eq_false (by omega)
   have ak:=Jh (Add (l:=l) (x:=x) (by have:=u.out;rwa [az.out] at this))
   clear ar
   go_wp2_with fail
   go_ret
   rw [ak.out,show ((l.length-1:Nat):Int)=(l.length:Int)-1 by omega]
   refine ⟨?_,ai.out⟩
   first | rfl | (trace_state;simp)
end Go.Proofs.YtbliplladmamoaaGreat
