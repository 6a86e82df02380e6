/- Laws and walks that a claim of this seat leans on: Expr, Eval1, EvalL, Eval2, Eval3, EvLawK. -/
import Derived.Test.YtbliplladmamoaaGreatS13
import Derived.Test.YtbliplladmamoaaGreatS14
import Derived.Test.YtbliplladmamoaaGreatS16
import Derived.Test.YtbliplladmamoaaGreatS18
import Derived.Test.YtbliplladmamoaaGreatS01
import Derived.Test.YtbliplladmamoaaGreatS00
set_option maxRecDepth 100000
set_option maxHeartbeats 8000000
set_option linter.all false
namespace Go.Proofs.YtbliplladmamoaaGreat
open Go.RowKit
def Fa (ls:List Ai) (e:E) (want:Int):Bool:=!(Cp [[]] ls)||decide (want<0)||decide (64<want)||!(A7 ls e)
def I8 (ls:List Ai) (e:E) (want:Int):Except Int E :=
 if Fa ls e want=true then .error 1 else if (decide (nodes e<=65536)&&decide (Cu e<=64))=false then .error 2 else Ao e want
def D9 (ls:List Ai) (e:E):Int:=match I8 ls e e.w with
 | .error f=>f
 | .ok x=>if e.w=0\/eqE x e=false then 90 else 0
def Aa0 (w:World) (o:Except Int E) (r:Ending) (w':World):Prop :=
 (∃ g,o=.error g/\g≠0/\r=.returned (.tuple #[.agg A0.toArray,.int .i64 g])/\Ext w w') \/
 (∃ y cs,o=.ok y/\r=.returned (.tuple #[.agg cs.toArray,.int .i64 0])/\FE w.heap.size w' cs y/\Ext w w')
theorem Zh (d:Bb) (v:Value) (e:E) (aa:Int) (cs:List Value) (w:World) (hF:Ck w v d) (af:d.ok) (hV:VE w cs e) (ax:e.wf) (hn:nodes e<=1048576) :
  Calls Tryz.prog 162 #[v,.agg cs.toArray,.int .i64 aa] w (Aa0 w (I8 d.signals e aa)):=by
 obtain ⟨sv,pv,cv,rfl,hS,hP,hC⟩:=hF
 have bk:[sv,pv,cv].all (·.oneCell')=true:=by simp [hS.one,hP.one,hC.one]
 have h8:cs.length=8:=by obtain ⟨s,rfl,-⟩:=hV;rfl
 have x1:=Ab w (.cells [sv,pv,cv].toArray 26)
 have x2:=Ab (w.alloc (.cells [sv,pv,cv].toArray 26)) (.cells cs.toArray 40)
 have x3:=Ab ((w.alloc (.cells [sv,pv,cv].toArray 26)).alloc (.cells cs.toArray 40)) (.cells A0.toArray 40)
 have hD:=((Blk.new w [sv,pv,cv].toArray 26).ext x2).ext x3
 have hE:=(Blk.new (w.alloc (.cells [sv,pv,cv].toArray 26)) cs.toArray 40).ext x3
 have hR:=Blk.new ((w.alloc (.cells [sv,pv,cv].toArray 26)).alloc (.cells cs.toArray 40)) A0.toArray 40
 have HX:=(x1.trans x2).trans x3
 simp only [World.size_alloc] at hE hR
 clear x1 x2 x3
 have HS:=Jh (hS.ext HX)
 have HV:=Jh (hV.ext HX)
 have bl:=Jh af
 have bd:=Jh ax
 have HN:=Jh hn
 have a9:=Jh (fun W (h:Ext w W)=>M4 d.signals sv W (hS.ext h) af.wf.signals af.signals)
 have a8:=Jh (fun W (h:Ext w W)=>Ii d.signals e ax sv cs W (hS.ext h) (hV.ext h))
 have ay:=Jh (fun W (h:Ext w W)=>Kp e cs W (hV.ext h) hn)
 have bb:=Jh (fun W (h:Ext w W)=>hV.ext h)
 obtain ⟨a0,b0,o0,c0,rfl,-,-,-,-⟩:=hS.open
 obtain ⟨ap,bp,op,cp,rfl,-,-,-,-⟩:=hP.open
 obtain ⟨ac,bc,oc,cc,rfl,-,-,-,-⟩:=hC.open
 clear hS hP hC hV af ax hn HS HV
 obtain ⟨bm,an⟩:∃ o,I8 d.signals e aa=o:=⟨_,rfl⟩
 have aj:=Jh an
 rw [an]
 clear an
 go_enter Tryz.func162,Tryz.ntmps162
 go_upto_region 1 with fail
 generalize ((w.alloc _).alloc _).alloc _=w0 at *
 have HD:=Jh hD
 have HE:=Jh hE
 have HR:=Jh hR
 have av:=Jh HX
 have g0:=hD.has 0 _ rfl
 clear hD hE hR HX
 go_cut [8] from 9 to 28 (fun u wx=>u=.bool (Fa d.signals e aa)/\Ext w0 wx)
 case first =>
  obtain ⟨s,hs⟩:∃ s,Cp [[]] d.signals=s:=⟨_,rfl⟩
  obtain ⟨p,hp⟩:∃ p,A7 d.signals e=p:=⟨_,rfl⟩
  have ao:=Jh (show Fa d.signals e aa=(!s||decide (aa<0)||decide (64<aa)||!p) by unfold Fa;rw [hs,hp])
  have ae:=Jh (a9.out w0 av.out)
  rw [hs] at ae
  have ah:=Jh (fun W (h:Ext w W)=>by have:=a8.out W h;rw [hp] at this;exact this)
  clear hs hp
  cases s
  ·go_wp2_with (first | (go_at_call 93;refine (ae.out).mono ?_;rintro r w1 ⟨rfl,j⟩))
   go_meet
   exact ⟨by rw [ao.out];rfl,j⟩
  ·by_cases c1:aa<0
   ·go_wp2_with (first | (go_at_call 93;refine (ae.out).mono ?_;rintro r w1 ⟨rfl,j⟩))
    go_meet
    exact ⟨by rw [ao.out,decide_eq_true c1];rfl,j⟩
   ·by_cases c2:64<aa
    ·go_wp2_with (first | (go_at_call 93;refine (ae.out).mono ?_;rintro r w1 ⟨rfl,j⟩))
     go_meet
     exact ⟨by rw [ao.out,decide_eq_true c2];simp,j⟩
    ·have b1:decide (aa<0)=false:=decide_eq_false c1
     have b2:decide (64<aa)=false:=decide_eq_false c2
     cases p
     all_goals go_wp2_with (first | (go_at_call 93;refine ae.out.mono ?_;rintro r w1 ⟨rfl,j⟩;have g1:=(HD.out.ext j).has 0 _ rfl;have k1:=(HE.out.ext j).has) | ((with_reducible show Jl 40);refine Aa rfl 40 _ rfl rfl (k1) Ah h8 ?_) | (go_at_call 92;refine (ah.out _ (av.out.trans j)).mono ?_;rintro r w2 ⟨rfl,ab⟩))
     all_goals go_meet
     all_goals exact ⟨by rw [ao.out,show decide (aa<0)=false from decide_eq_false (by omega),show decide (64<aa)=false from decide_eq_false (by omega)];rfl,j.trans ab⟩
 case rest =>
  obtain ⟨rfl,j⟩:=hcut
  have ak:=Jh j
  clear j g0
  obtain ⟨bf,am⟩:∃ b,Fa d.signals e aa=b:=⟨_,rfl⟩
  have HB:=Jh am
  rw [am]
  clear am
  have aq:=Jh (HR.out.ext ak.out)
  have ag:=Jh (av.out.trans ak.out)
  have k1:=(HE.out.ext ak.out).has
  cases bf
  ·obtain ⟨ok,af⟩:∃ b,(decide (nodes e<=65536)&&decide (Cu e<=64))=b:=⟨_,rfl⟩
   have az:=Jh af
   have ar:=Jh (fun W=>Po (nodes e) (Cu e) W)
   rw [af] at ar
   clear af
   cases ok
   ·have ho:=aj.out
    unfold I8 at ho
    rw [HB.out,az.out] at ho
    simp at ho
    subst ho
    go_wp2_with (first | ((with_reducible show Jl 40);refine Aa rfl 40 _ rfl rfl (k1) Ah h8 ?_) | (go_at_call 85;refine (ay.out _ ag.out).mono ?_;rintro r w1 ⟨rfl,j⟩) | (go_at_call 86;refine (ar.out _).mono ?_;rintro r w2 ⟨rfl,ab⟩) | ((with_reducible show Js 40);refine Ac rfl 40 _ _ rfl (aq.out.ext (j.trans ab)) rfl (cs:=A0) (rfl) Ah (rfl) rfl (rfl) ?_;intro w4 al ai))
    refine Ak rfl rfl rfl al.has Ah rfl rfl (.inl ⟨2,rfl,by decide,rfl,(ag.out.trans (j.trans ab)).grown ai (by omega)⟩)
   ·have ho:=aj.out
    unfold I8 at ho
    rw [HB.out,az.out] at ho
    simp at ho
    have HO:=Jh ho
    clear ho
    have a3:∀ x∈d.signals,x.w<=64:=by
     have h1:=HB.out
     unfold Fa at h1
     simp only [Bool.or_eq_false_iff,Bool.not_eq_false'] at h1
     exact Vy _ _ h1.1.1.1
    have a4:A7 d.signals e=true:=by
     have h1:=HB.out
     unfold Fa at h1
     simp only [Bool.or_eq_false_iff,Bool.not_eq_false'] at h1
     exact h1.2
    have ba:=Jh (fun W (h:Ext w W)=>Rs e aa cs W (bb.out W h) bd.out (C8 d.signals a3 e a4) HN.out)
    clear a3 a4
    go_wp2_with (first | ((with_reducible show Jl 40);refine Aa rfl 40 _ rfl rfl (k1) Ah h8 ?_) | (go_at_call 85;refine (ay.out _ ag.out).mono ?_;rintro r w1 ⟨rfl,j⟩;have k2:=((HE.out.ext ak.out).ext j).has) | (go_at_call 86;refine (ar.out _).mono ?_;rintro r w2 ⟨rfl,ab⟩;have k3:=((HE.out.ext ak.out).ext (j.trans ab)).has) | ((with_reducible show Jl 40);refine Aa rfl 40 _ rfl rfl (k3) Ah h8 ?_) | (go_at_call 98;refine Hid.out ?_))
    refine Jh ?_
    have aw:=ba.out w2 (ag.out.trans (j.trans ab))
    rw [HO.out] at aw
    refine aw.mono ?_
    intro r w3 hp
    obtain ⟨a1,g,rfl,a2,bi,a5,hq⟩:=hp.open2
    have HQ:=Jh hq
    have a7:=Jh (aq.out.ext ((j.trans ab).trans a5))
    have au:=Jh (ag.out.trans ((j.trans ab).trans a5))
    have bq:=au.out.size
    have be:=Jh ((ag.out.trans (j.trans ab)).size)
    have a6:=Jh (aq.out.ext (j.trans ab)).lt
    clear hq aw j ab k1 k2 k3
    go_wp2_with ((with_reducible show Js 40);refine Ac rfl 40 _ _ rfl a7.out rfl (cs:=a1) rfl Ah a2 rfl bi ?_;intro w4 al ai)
    have bg:=a6.out
    have bj:=be.out
    refine Ak rfl rfl rfl al.has Ah a2 rfl ?_
    rcases HQ.out with ⟨rfl,y,hy,hf⟩ | ⟨bo,hy,rfl⟩
    ·exact .inr ⟨y,a1,hy,rfl,(hf.since (Al.of_grown ai bg)).mono bj,au.out.grown ai (by omega)⟩
    ·exact .inl ⟨g,hy,by omega,rfl,au.out.grown ai (by omega)⟩
  ·have ho:=aj.out
   unfold I8 at ho
   rw [HB.out,if_pos rfl] at ho
   subst ho
   go_wp2_with (first | ((with_reducible show Js 40);refine Ac rfl 40 _ _ rfl (aq.out) rfl (cs:=A0) (rfl) Ah (rfl) rfl (rfl) ?_;intro w4 al ai))
   refine Ak rfl rfl rfl al.has Ah rfl rfl (.inl ⟨1,rfl,by decide,rfl,ag.out.grown ai (by omega)⟩)
theorem Aa0.open {w w':World} {o:Except Int E} {r:Ending} (h:Aa0 w o r w'):∃ cs g,r=.returned (.tuple #[.agg cs.toArray,.int .i64 g])/\cs.length=8/\cs.all (·.oneCell')=true/\Ext w w' /\
  ((g=0/\∃ y,o=.ok y/\VE w' cs y)\/(g≠0/\o=.error g)):=by
 rcases h with ⟨g,ho,hg,rfl,hx⟩ | ⟨y,cs,ho,rfl,hf,hx⟩
 ·exact ⟨_,_,rfl,rfl,rfl,hx,.inr ⟨hg,ho⟩⟩
 ·exact ⟨_,_,rfl,(by obtain ⟨s,rfl,-⟩:=hf.ve;rfl),hf.ve.one,hx,.inl ⟨rfl,y,ho,hf.ve⟩⟩
theorem Uq (d:Bb) (v:Value) (e:E) (cs:List Value) (w:World) (hF:Ck w v d) (ao:d.ok) (hV:VE w cs e) (au:e.wf) (hn:nodes e<=1048576) :
  Calls Tryz.prog 134 #[v,.agg cs.toArray] w fun r w'=>r=.returned (.int .i64 (D9 d.signals e))/\Ext w w':=by
 have HF:=Jh (fun W (h:Ext w W)=>hF.ext h)
 have aw:=Jh (fun W (h:Ext w W)=>Zh d v e e.w cs W (hF.ext h) ao (hV.ext h) au hn)
 obtain ⟨sv,pv,cv,rfl,hS,hP,hC⟩:=hF
 have a1:[sv,pv,cv].all (·.oneCell')=true:=by simp [hS.one,hP.one,hC.one]
 obtain ⟨s0,rfl,aq⟩:=hV
 have ay:=Jh (fun W (h:Ext w W)=>show VE W (e.cells s0) e from ⟨s0,rfl,aq.ext h⟩)
 have h8:(e.cells s0).length=8:=rfl
 have x1:=Ab w (.cells [sv,pv,cv].toArray 26)
 have x2:=Ab (w.alloc (.cells [sv,pv,cv].toArray 26)) (.cells (e.cells s0).toArray 40)
 have hD:=(Blk.new w [sv,pv,cv].toArray 26).ext x2
 have hE:=Blk.new (w.alloc (.cells [sv,pv,cv].toArray 26)) (e.cells s0).toArray 40
 have HX:=x1.trans x2
 simp only [World.size_alloc] at hE
 clear x1 x2
 obtain ⟨a0,b0,o0,c0,rfl,-,-,-,-⟩:=hS.open
 obtain ⟨ap,bp,op,cp,rfl,-,-,-,-⟩:=hP.open
 obtain ⟨ac,bc,oc,cc,rfl,-,-,-,-⟩:=hC.open
 clear hS hP hC ao au hn aq
 obtain ⟨ae,aa⟩:∃ o,D9 d.signals e=o:=⟨_,rfl⟩
 have ak:=Jh aa
 rw [aa]
 clear aa
 go_enter Tryz.func134,Tryz.ntmps134
 go_upto_region 1 with fail
 generalize (w.alloc _).alloc _=w0 at *
 have HD:=Jh hD
 have HE:=Jh hE
 have al:=Jh HX
 have d0:=hD.has
 have e0:=hE.has
 have g1:=hE.has 1 _ rfl
 clear hD hE HX
 go_upto_region 2 with (first | ((with_reducible show Jl 26);refine Aa rfl 26 _ rfl rfl (d0) Aj rfl ?_) | ((with_reducible show Jl 40);refine Aa rfl 40 _ rfl rfl (e0) Ah rfl ?_) | (go_at_call 162;refine (aw.out _ al.out).mono ?_;rintro r w1 hp;obtain ⟨u,g,rfl,af,ah,av,hq⟩:=hp.open) | ((with_reducible show Js 40);refine Ad rfl 40 _ _ rfl rfl (by first | rfl | simp) rfl Ah (af) rfl (ah) ?_))
 have HQ:=Jh hq
 have ag:=av.alloc (.cells u.toArray 40)
 have am:=Has.alloc w1 u 40
 have ax:=Jh (fun y (h:VE w1 u y)=>h.ext (Ab w1 (.cells u.toArray 40)))
 have aj:=Jh (HE.out.ext ag)
 have j:=Jh (al.out.trans ag)
 clear hq av ag g1 d0 e0
 generalize w1.alloc _=w2 at *
 have e2:=aj.out.has
 have g1:=aj.out.has 1 _ rfl
 have ho:=ak.out
 unfold D9 at ho
 rcases HQ.out with ⟨rfl,y,hy,ar⟩ | ⟨an,hy⟩
 ·rw [hy] at ho
  simp only at ho
  have az:=Jh (ax.out y ar)
  have HO:=Jh ho
  clear ho hy ar HQ
  by_cases hw:e.w=0
  ·have c1:(e.w==0)=true:=by rw [beq_iff_eq];exact hw
   obtain rfl:ae=90:=by have:=HO.out;rw [if_pos (.inl hw)] at this;exact this.symm
   clear hw
   go_wp2_with fail
   go_ret
   exact ⟨rfl,j.out⟩
  ·have c1:(e.w==0)=false:=by rw [beq_eq_false_iff_ne];exact hw
   obtain ⟨q,hq⟩:∃ q,eqE y e=q:=⟨_,rfl⟩
   have ab:=Jh (Ia y e u (e.cells s0) w2 az.out (ay.out w2 j.out))
   rw [hq] at ab
   have HW:=Jh hw
   have HQ:=Jh hq
   clear hw hq
   cases q
   ·obtain rfl:ae=90:=by have:=HO.out;rw [HQ.out,if_pos (.inr rfl)] at this;exact this.symm
    go_wp2_with (first | ((with_reducible show Jl 40);refine Aa rfl 40 _ rfl rfl (am) Ah af ?_) | ((with_reducible show Jl 40);refine Aa rfl 40 _ rfl rfl (e2) Ah rfl ?_) | (go_at_call 65;refine (ab.out).mono ?_;rintro r w3 ⟨rfl,ai⟩))
    go_ret
    exact ⟨rfl,j.out.trans ai⟩
   ·obtain rfl:ae=0:=by have:=HO.out;rw [HQ.out,if_neg (by rintro (h | h);exact HW.out h;cases h)] at this;exact this.symm
    go_wp2_with (first | ((with_reducible show Jl 40);refine Aa rfl 40 _ rfl rfl (am) Ah af ?_) | ((with_reducible show Jl 40);refine Aa rfl 40 _ rfl rfl (e2) Ah rfl ?_) | (go_at_call 65;refine (ab.out).mono ?_;rintro r w3 ⟨rfl,ai⟩))
    go_ret
    exact ⟨rfl,j.out.trans ai⟩
 ·rw [hy] at ho
  simp only at ho
  subst ho
  have c0:(g==0)=false:=by rw [beq_eq_false_iff_ne];exact an
  clear an hy HQ
  go_wp2_with fail
  go_ret
  exact ⟨rfl,j.out⟩
theorem V5 {wb:World} {ls:List Ai} {vs:List Nat} {S:Nat} (ae:∀ x∈ls,1<=x.w/\x.w<=64) (u:Nc ls vs) (aa:Io wb ls vs S) (e:E) (am:WS ls e) (al:e.wf) (cs:List Value) (s:Value) (w:World) (hx:Ext wb w) (hV:VE w cs e)
  (ab:Bts w s (e.l.map (evB vs))):Calls Tryz.prog 164 #[.agg cs.toArray,s,.pointer (some ⟨S,0,none⟩)] w fun r w'=>r=.returned (.agg (evB vs e).cells.toArray)/\Ext w w':=by
 obtain ⟨s0,rfl,ac⟩:=hV
 have aj:∀ x∈ls,x.w<=64:=fun x hx=>(ae x hx).2
 obtain ⟨h0,hp⟩:=(Hv ls e).1 am
 have ag:=(E.wf_iff e).1 al
 have af:∀ x∈e.l,(evB vs x).ok:=fun x hx=>Adw aj (hp x hx) (ag.2.2.2.2.2.2.2 x hx)
 have ak:=ag.2.2.1.1
 have he:evB vs e=⟨e.w,Gn vs e.op e.w e.v e.sig e.hi e.lo e.n (e.l.map (·.w)) (e.l.map (evM vs))⟩:=by unfold evB;rw [Z2]
 rw [he]
 clear he ag hp am al
 obtain ⟨op,wd,v,sig,hi,lo,nn,l⟩:=e
 simp only at h0 af ak ac ab ⊢
 unfold Gn
 rcases h0 with ⟨rfl,hk,-⟩ | ⟨rfl,hk,h1,h2,-⟩ | ⟨rfl,⟨k,hk⟩,h2,h3,rfl,-⟩ | ⟨rfl,⟨k,hk,h1⟩,-⟩ | ⟨rfl,⟨j,k,hk,h1⟩,-⟩ | ⟨rfl,hk,-⟩ | ⟨rfl,h1,h2,h3,-⟩ | ⟨rfl,⟨k,hk,h1⟩,h2,h3,-⟩
 ·obtain rfl:l=[]:=by simpa using hk
  obtain ⟨n,rfl⟩:=Int.eq_ofNat_of_zero_le ak
  exact Ahu ae u aa s0 s w hx ac ab
 ·obtain rfl:l=[]:=by simpa using hk
  obtain ⟨q1,q2,q3,q4,q5,-⟩:=Gw ls aj h1
  have:=Ahv (wd:=wd) (v:=v) (nn:=nn) ae u aa q1 q2 q3 q4 q5 s0 s w hx ac ab
  subst h2
  simpa using this
 ·obtain ⟨x,rfl,-⟩:=P8 hk
  have:=Aht (wd:=1) (v:=v) (hi:=hi) (lo:=lo) (nn:=nn) ae u aa h2 h3 s0 s w hx ac ab
  simpa using this
 ·obtain ⟨x,rfl,rfl⟩:=P8 hk
  have ai:=af x (by simp)
  have:=Aih (wd:=wd) (v:=v) (sig:=sig) (hi:=hi) (lo:=lo) (nn:=nn) ae u aa ai (by omega) (by omega) (by omega) s0 s w hx ac ab
  rw [show unW nn x.w=wd by unfold unW;split<;>omega] at this
  simpa using this
 ·obtain ⟨x,y,rfl,rfl,rfl⟩:=Aca hk
  have ai:=af x (by simp)
  have ap:=af y (by simp)
  have:=Ahq (wd:=wd) (v:=v) (sig:=sig) (hi:=hi) (lo:=lo) (nn:=nn) ae u aa ai ap (by omega) (by omega) (by omega) (by omega) s0 s w hx ac ab
  rw [show Fm nn x.w=wd by unfold Fm;split<;>omega] at this
  simpa using this
 ·obtain ⟨c,x,y,rfl,hc,ao,aq⟩:=Aeo hk
  have:=Ag0 (wd:=wd) (v:=v) (sig:=sig) (hi:=hi) (lo:=lo) (nn:=nn) ae u aa (af c (by simp)) (af x (by simp)) (af y (by simp)) hc (by omega) s0 s w hx ac ab
  rw [ao] at this
  simpa using this
 ·have an:l.map (evB vs)≠[]:=by
   intro h;apply h1;simpa using h
  have:=Ahr (wd:=wd) (v:=v) (sig:=sig) (hi:=hi) (lo:=lo) (nn:=nn) ae u aa (fun b hb=>by obtain ⟨x,hx,rfl⟩:=List.mem_map.1 hb;exact af x hx) an (by rw [Lq];omega) s0 s w hx ac ab
  rw [Lq,<-h2,<-V8] at this
  simpa using this
 ·obtain ⟨x,rfl,rfl⟩:=P8 hk
  have ai:=af x (by simp)
  have:=Ahs (wd:=wd) (v:=v) (sig:=sig) (hi:=hi) (lo:=lo) (nn:=nn) ae u aa ai (by omega) (by omega) h2 h3 (by omega) (by omega) s0 s w hx ac ab
  simpa using this
theorem Zd (sv pv cv:Value) (kf:FuncId) (lb:Array Value) (h1:[sv,pv,cv].all (·.oneCell')=true) (w:World) :
  Calls Tryz.prog 136 #[.agg #[sv,pv,cv],.func (.func kf) #[] lb] w fun r w'=>∃ D L S,r=.returned (.func (.func 164) #[] #[.pointer (some ⟨S,0,none⟩)])/\Ext w w' /\
   Blk w' S #[.func (.func 163) #[] #[.pointer (some ⟨D,0,none⟩),.pointer (some ⟨L,0,none⟩)]] 198/\Blk w' D #[sv,pv,cv] 26/\Blk w' L #[.func (.func kf) #[] lb] 82:=by
 have x1:=Ab w (.cells #[sv,pv,cv] 26)
 have x2:=Ab (w.alloc (.cells #[sv,pv,cv] 26)) (.cells #[.func (.func kf) #[] lb] 82)
 have hD:=(Blk.new w #[sv,pv,cv] 26).ext x2
 have hL:=Blk.new (w.alloc (.cells #[sv,pv,cv] 26)) #[.func (.func kf) #[] lb] 82
 have hX:=x1.trans x2
 simp only [World.size_alloc] at hL
 clear x1 x2
 go_enter Tryz.func136,Tryz.ntmps136
 go_upto_region 1 with fail
 generalize (w.alloc _).alloc _=w0 at *
 have x3:=Ab w0 (.cells #[.func (.func 163) #[] #[.pointer (some ⟨w.heap.size,0,none⟩),.pointer (some ⟨w.heap.size+1,0,none⟩)]] 198)
 have hS:=Blk.new w0 #[.func (.func 163) #[] #[.pointer (some ⟨w.heap.size,0,none⟩),.pointer (some ⟨w.heap.size+1,0,none⟩)]] 198
 have j:=Blk.new w0 #[.nilFunc] 198
 have hs:=run_store Tryz.prog (w0.alloc (.cells #[.nilFunc] 198)) ⟨w0.heap.size,0,none⟩ (.func (.func 163) #[] #[.pointer (some ⟨w.heap.size,0,none⟩),.pointer (some ⟨w.heap.size+1,0,none⟩)]) .plain rfl
 rw [j.cell 0,j.frozen 0] at hs
 simp only [List.getElem?_cons_zero,List.getElem?_toArray,Bool.false_eq_true,if_false] at hs
 clear j
 go_wp2_with fail
 go_ret
 exact ⟨_,_,_,rfl,hX.trans x3,hS,hD.ext x3,hL.ext x3⟩
theorem Aea:Bj Tryz.prog 137:=A9 Tryz.func137 (by kernel_rfl) rfl
theorem Ab9 {wb:World} {ls:List Ai} {vs:List Nat} {s:Value} {B:Nat} (hs:Us wb s vs) (hl:vs.length=ls.length) (hB:Blk wb B #[s] 27) :
  Ac6 wb ls vs (.func (.func 137) #[] #[.pointer (some ⟨B,0,none⟩)]):=by
 refine ⟨_,_,rfl,Aea,fun W hW sig h0 h1=>?_⟩
 show Calls Tryz.prog 137 #[.int .i64 sig,.pointer (some ⟨B,0,none⟩)] W _
 obtain ⟨a,b,o,cap,rfl,j,u,ha,hr⟩:=(hs.ext hW).open
 obtain ⟨k,rfl⟩:=Int.eq_ofNat_of_zero_le h0
 have hk:k<vs.length:=by omega
 obtain rfl:=ha (by omega)
 have g0:=(hB.ext hW).has 0 _ rfl
 have g1:=Us.get hr hk
 have e:vs.getD (k:Int).toNat 0=vs[k]:=by simp [List.getD_eq_getElem?_getD,List.getElem?_eq_getElem hk]
 rw [e]
 generalize vs[k]=v at *
 clear e ha hr hs
 go_enter Tryz.func137,Tryz.ntmps137
 go_wp2_with fail
 go_ret
 exact ⟨rfl,Below.refl _ _⟩
theorem Ud {a:Nat} (h:a<2^64):(BitVec.ofInt 64 (a:Int)).toNat=a:=by
 rw [BitVec.toNat_ofInt]
 omega
theorem Abo {a w:Nat} (ha:a<2^64) (hw:w<=64):(BitVec.ofInt 64 (a:Int) &&& ~~~ BitVec.ofInt 64 ((2^w-1:Nat):Int)).toNat=0↔a<2^w:=by
 have hm:2^w-1<2^64:=by
  have:2^w<=2^64:=Nat.pow_le_pow_right (by decide) hw
  have:=Nat.two_pow_pos w
  omega
 rw [BitVec.toNat_and,BitVec.toNat_not,Ud ha,Ud hm]
 have hb:∀ i,(2^64-1-(2^w-1)).testBit i=(decide (i<64)&&!decide (i<w)):=fun i=>by
  have:=Nat.testBit_two_pow_sub_succ hm i
  rw [Nat.testBit_two_pow_sub_one] at this
  rw [<-this]
  congr 1
  omega
 constructor
 ·intro h
  refine Nat.lt_pow_two_of_testBit _ fun i hi=>?_
  cases ht:a.testBit i with
  | false=>rfl
  | true =>
   exfalso
   have j:i<64:=by
    by_cases hc:i<64
    ·exact hc
    ·have:=Nat.testBit_lt_two_pow (x:=a) (i:=i) (Nat.lt_of_lt_of_le ha (Nat.pow_le_pow_right (by decide) (by omega)))
     rw [ht] at this;cases this
   have:=congrArg (fun n=>n.testBit i) h
   simp only [Nat.testBit_and,Nat.zero_testBit,hb,ht] at this
   simp [j,show ¬ i<w by omega] at this
 ·intro h
  refine Nat.eq_of_testBit_eq fun i=>?_
  rw [Nat.testBit_and,hb,Nat.zero_testBit]
  by_cases hi:i<w
  ·simp [hi]
  ·have:=Nat.testBit_lt_two_pow (x:=a) (i:=i) (Nat.lt_of_lt_of_le h (Nat.pow_le_pow_right (by decide) (by omega)))
   rw [this];rfl
def Su (ls:List Ai) (vs:List Nat):Bool:=(List.range ls.length).all fun k=>decide (vs.getD k 0<2^(Dn ls (k:Int)).toNat)
def Cn (d:Bb) (vs:List Nat):Bool:=decide (vs.length=d.signals.length)&&(decide (By d=0)&&Su d.signals vs)
theorem Pd {ls:List Ai} {vs:List Nat} (h:Su ls vs=true):Nc ls vs:=by
 intro sig h0 h1
 obtain ⟨k,rfl⟩:=Int.eq_ofNat_of_zero_le h0
 have:=List.all_eq_true.1 h k (List.mem_range.2 (by omega))
 simpa using this
theorem Zn {x:Nat} (hx:x<18446744073709551616) {w:Int} (h0:0<=w) (h1:w<=64):bits .andNot .u64 (x:Int) ((I9 w).toNat:Int)=0↔x<2^w.toNat:=by
 rw [Ub w h0 h1,<-Abo (a:=x) (w:=w.toNat) hx (by omega)]
 unfold bits
 simp only [IntKind.bits]
 constructor
 ·intro h
  rw [Ma] at h
  exact_mod_cast h
 ·intro h
  rw [Ma]
  exact_mod_cast h
theorem N6 (d:Bb) (v:Value) (vs:List Nat) (s:Value) (w:World) (hF:Ck w v d) (a4:d.ok) (hs:Us w s vs) (az:Zc vs) :
  Calls Tryz.prog 19 #[v,s] w fun r w'=>r=.returned (.int .i64 (if Cn d vs=true then 0 else 1))/\Ext w w':=by
 have HF:=Jh (fun W (h:Ext w W)=>hF.ext h)
 have au:=Jh (fun W (h:Ext w W)=>Le d v W (hF.ext h) a4)
 have a9:=Jh az
 obtain ⟨sv,pv,cv,rfl,hS,hP,hC⟩:=hF
 have x1:=Ab w (.cells [sv,pv,cv].toArray 26)
 have hD:=Blk.new w [sv,pv,cv].toArray 26
 obtain ⟨a0,b0,o0,c0,rfl,bk,bl,a1,a5⟩:=hS.open
 obtain ⟨ap,bp,op,cp,rfl,-,-,-,-⟩:=hP.open
 obtain ⟨ac,bc,oc,cc,rfl,-,-,-,-⟩:=hC.open
 obtain ⟨av,bv,ov,bi,rfl,bm,bo,a2,a6⟩:=hs.open
 have bd:=Jh (fun W (h:Ext w W)=>(a5.mono fun x _ b o hh=>C6.ext' h hh:Rows 4 (C6 W) d.signals b0 o0))
 have be:=Jh (fun W (h:Ext w W)=>(a6.mono fun x _ b o (hh:UAt w x b o)=>Has.ext hh h:Rows 1 (UAt W) vs bv ov))
 have HA:=Jh a1
 have ba:=Jh a2
 clear hS hP hC hs a5 a6 a1 a2 az a4
 obtain ⟨t,ht⟩:∃ t,Cn d vs=t:=⟨_,rfl⟩
 have HT:=Jh ht
 rw [ht]
 clear ht
 have bj:vs.length<=9223372036854775807:=by omega
 go_enter Tryz.func19,Tryz.ntmps19
 go_upto_region 1 with fail
 generalize w.alloc _=w0 at *
 have HD:=Jh hD
 have HX:=Jh x1
 have d0:=hD.has
 have g0:=hD.has 0 _ rfl
 clear hD x1
 by_cases u:vs.length=d.signals.length
 ·have b1:((vs.length:Int) != (d.signals.length:Int))=false:=by rw [bne_eq_false_iff_eq];omega
  by_cases aa:By d=0
  ·have a8:=Dv aa
   have aj:=Jh (au.out w0 HX.out)
   rw [aa] at aj
   have HW:=Jh a8
   have HL:=Jh u
   have ay:=Jh (show t=Su d.signals vs by rw [<-HT.out];unfold Cn;rw [decide_eq_true u,decide_eq_true aa];rfl)
   clear a8 aa u
   go_wp2_with (first | ((with_reducible show Jl 26);refine Aa rfl 26 _ rfl rfl (d0) Aj rfl ?_) | (go_at_call 18;refine aj.out.mono ?_;rintro r w1 ⟨rfl,ae⟩;have g1:=(HD.out.ext ae).has 0 _ rfl))
   have bf:=Jh (HX.out.trans ae)
   clear g1 ae
   go_loopw [5,6,21] (fun _ _ i wr=>∃ k:Nat,k<=d.signals.length/\i=.int .i64 k/\(∀ j,j<k->vs.getD j 0<2^(Dn d.signals (j:Int)).toNat)/\Ext w wr) (fun _ _ i _=>d.signals.length-(intOf i).toNat)
   case atStart=>exact ⟨0,Nat.zero_le _,rfl,fun j hj=>absurd hj (by omega),bf.out⟩
   case round =>
    obtain ⟨k,hk,rfl,ak,hB⟩:=hrel
    have ai:=Jh ak
    have HB:=Jh hB
    clear ak hB
    by_cases af:k<d.signals.length
    ·obtain rfl:=HA.out (by omega)
     obtain rfl:=ba.out (by have:=HL.out;omega)
     have ar:k<vs.length:=by have:=HL.out;omega
     have he:=Cq.get (bd.out wr HB.out) af
     have hex:=Ab wr (.cells d.signals[k].cells.toArray 37)
     have a3:=Blk.new wr d.signals[k].cells.toArray 37
     have gv:=Us.get (be.out _ (HB.out.trans hex)) ar
     have am:=a9.out _ (List.getElem_mem ar)
     have a7:=HW.out _ (List.getElem_mem af)
     have ag:Dn d.signals (k:Int)=d.signals[k].w:=by simp [Dn,List.getElem?_eq_getElem af]
     have aq:vs.getD k 0=vs[k]:=by simp [List.getD_eq_getElem?_getD,List.getElem?_eq_getElem ar]
     have ab:=Zn am (show 0<=d.signals[k].w by omega) a7.2
     rw [<-ag] at ab
     rw [<-aq] at ab
     rw [ag] at ab
     have an:=Jh ab
     have ax:=Jh ag
     generalize hsx:d.signals[k]=x at *
     have ao:=Jh aq
     generalize vs[k]=y at *
     rw [ao.out] at an
     clear ab ag aq hsx a7 am
     obtain ⟨c,hc⟩:∃ c,(bits .andNot .u64 (y:Int) ((I9 x.w).toNat:Int) != 0)=c:=⟨_,rfl⟩
     have HC:=Jh hc
     clear hc
     go_upto_region 6 with (first | ((with_reducible show Jl 37);refine Aa rfl 37 _ rfl rfl (he) Br rfl ?_) | ((with_reducible show Js 37);refine Ad rfl 37 _ _ rfl rfl (by first | rfl | simp) rfl Br (rfl) rfl (rfl) ?_))
     generalize wr.alloc _=w2 at *
     have bg:=Jh (HB.out.trans hex)
     have gw:=a3.has 1 _ rfl
     have i1:(k:Int)<(vs.length:Int):=by omega
     clear hex he a3
     have bb:=Jh (fun W=>M8 x.w W)
     go_quiet (first | (go_at_call 37;refine Calls.quiet_of_same (bb.out _)))
     rw [HC.out]
     have ah:=bg.out.drewNB nq
     generalize w2.drewN nq=w3 at *
     cases c
     ·have al:vs.getD k 0<2^(Dn d.signals (k:Int)).toNat:=by
       have h1:=HC.out
       rw [bne_eq_false_iff_eq] at h1
       have h2:=an.out.1 h1
       rw [ax.out,ao.out];exact h2
      have aw:=Jh al
      clear al gw gv
      go_wp2_with fail
      go_roundw
      case rel=>exact ⟨k+1,by omega,by go_num,fun j hj=>by
       by_cases e:j=k
       ·subst e;exact aw.out
       ·exact ai.out j (by omega),ah⟩
      case measure=>simp [intOf];omega
     ·obtain rfl:t=false:=by
       rw [ay.out]
       unfold Su
       rw [Bool.eq_false_iff]
       intro h1
       have h2:=of_decide_eq_true (List.all_eq_true.1 h1 k (List.mem_range.2 af))
       rw [ax.out,ao.out] at h2
       have h3:=an.out.2 h2
       have h4:=HC.out
       rw [bne_iff_ne] at h4
       exact h4 h3
      clear gw gv
      go_wp2_with fail
      go_ret
      exact ⟨rfl,ah⟩
    ·obtain rfl:k=d.signals.length:=by omega
     obtain rfl:t=true:=by
      rw [ay.out]
      unfold Su
      rw [List.all_eq_true]
      intro j hj
      exact decide_eq_true (ai.out j (List.mem_range.1 hj))
     go_wp2_with fail
     go_ret
     exact ⟨rfl,HB.out⟩
  ·have c1:(By d != 0)=true:=by rw [bne_iff_ne];exact aa
   obtain rfl:t=false:=by rw [<-HT.out];unfold Cn;rw [decide_eq_false aa];simp
   clear aa u
   go_wp2_with (first | ((with_reducible show Jl 26);refine Aa rfl 26 _ rfl rfl (d0) Aj rfl ?_) | (go_at_call 18;refine (au.out w0 HX.out).mono ?_;rintro r w1 ⟨rfl,ae⟩))
   go_ret
   exact ⟨rfl,HX.out.trans ae⟩
 ·have b1:((vs.length:Int) != (d.signals.length:Int))=true:=by rw [bne_iff_ne];omega
  obtain rfl:t=false:=by rw [<-HT.out];unfold Cn;rw [decide_eq_false u];rfl
  clear u
  go_wp2_with fail
  go_ret
  exact ⟨rfl,HX.out⟩
theorem Qz {ls:List Ai} (u:∀ x∈ls,x.w<=64) {e:E} (h:D9 ls e=0):WS ls e/\nodes e<=65536/\Cu e<=64:=by
 unfold D9 I8 at h
 by_cases hb:Fa ls e e.w=true
 ·rw [if_pos hb] at h;simp at h
 ·rw [if_neg hb] at h
  by_cases hf:(decide (nodes e<=65536)&&decide (Cu e<=64))=false
  ·rw [if_pos hf] at h;simp at h
  ·rw [if_neg hf] at h
   cases hs:Ao e e.w with
   | error g =>
    rw [hs] at h
    simp only at h
    subst h
    exfalso
    have aa:∀ (l:List E) (ps:List Int) (f:Int),(∀ x∈l,∀ p f,Ao x p=.error f->f≠0)->Ao.sizeL l ps=.error f->f≠0:=by
     intro l
     induction l with
     | nil=>intro ps f _ h;cases h
     | cons x l ih =>
      intro ps f hx h
      rw [Ao.sizeL] at h
      cases h1:Ao x (ps.headD 0) with
      | error q=>rw [h1] at h;simp only at h;injection h with h;rw [<-h];exact hx x (by simp) _ _ h1
      | ok y =>
       rw [h1] at h
       simp only at h
       cases h2:Ao.sizeL l ps.tail with
       | error q=>rw [h2] at h;simp only at h;injection h with h;rw [<-h];exact ih _ _ (fun x ac=>hx x (by simp [ac])) h2
       | ok r=>rw [h2] at h;cases h
    have j:∀ e:E,∀ p f,Ao e p=.error f->f≠0:=by
     intro e
     induction e using E.ind with
     | h e ih =>
      intro p f h
      rw [Gv] at h
      generalize Bw (if p = -1 then 1 else p) (Bw (own e) 32)=w2 at h
      split at h
      ·injection h with h;omega
      ·split at h
       ·split at h
        ·cases h
        ·injection h with h;omega
       ·split at h
        ·injection h with h;omega
        ·split at h
         ·rename_i hq
          injection h with h
          rw [<-h];exact aa _ _ _ ih hq
         ·split at h
          ·injection h with h;omega
          ·cases h
    exact j _ _ _ hs rfl
   | ok x =>
    rw [hs] at h
    simp only at h
    have hx:¬ (e.w=0\/eqE x e=false):=by
     intro hc;rw [if_pos hc] at h;omega
    have ae:x=e:=by
     have:eqE x e=true:=by
      cases hq:eqE x e with
      | true=>rfl
      | false=>exact absurd (.inr hq) hx
     exact (Kq x e).1 this
    subst ae
    have ab:A7 ls x=true/\0<=x.w:=by
     unfold Fa at hb
     simp only [Bool.not_eq_true,Bool.or_eq_false_iff,Bool.not_eq_false',decide_eq_false_iff_not] at hb
     exact ⟨hb.2,by omega⟩
    refine ⟨(H5 u x ab.1 x.w (by omega) hs).1,?_⟩
    simp only [Bool.and_eq_false_iff,decide_eq_false_iff_not] at hf
    omega
def Hh (d:Bb) (vs:List Nat) (e:E):Nat × Int:=if Cn d vs=true/\D9 d.signals e=0 then (evM vs e,0) else (0,1)
theorem Re (b:Bt) (W:World):(Instr.field 151 (.agg b.cells.toArray) 1).run Tryz.prog W=.ok (.int .u64 (b.v:Int)) W:=by
 have hA:(isAgg 35).run Tryz.prog W=.ok false W:=by unfold isAgg;rw [Sem.run_bind,run_underlying Tryz.underlying35];rfl
 unfold Instr.field
 simp [Sem.run_bind,run_underlying Tryz.underlying151,part,hA,asAgg]
theorem Ql (d:Bb) (v:Value) (vs:List Nat) (s:Value) (e:E) (cs:List Value) (w:World) (hF:Ck w v d) (ao:d.ok) (hs:Us w s vs) (ar:Zc vs) (hV:VE w cs e) (aq:e.wf) (hn:nodes e<=1048576) :
  Calls Tryz.prog 100 #[v,s,.agg cs.toArray] w fun r w'=>r=.returned (.tuple #[.int .u64 ((Hh d vs e).1:Nat),.int .i64 (Hh d vs e).2])/\Ext w w':=by
 have HF:=Jh (fun W (h:Ext w W)=>hF.ext h)
 have af:=Jh (fun W (h:Ext w W)=>N6 d v vs s W (hF.ext h) ao (hs.ext h) ar)
 have al:=Jh (fun W (h:Ext w W)=>Uq d v e cs W (hF.ext h) ao (hV.ext h) aq hn)
 have bd:=Jh (fun W (h:Ext w W)=>hs.ext h)
 have bf:=Jh (fun W (h:Ext w W)=>hV.ext h)
 have bg:=Jh aq
 have HN:=Jh hn
 have h8:cs.length=8:=by obtain ⟨s,rfl,-⟩:=hV;rfl
 obtain ⟨sv,pv,cv,rfl,hS,hP,hC⟩:=hF
 have ah:[sv,pv,cv].all (·.oneCell')=true:=by simp [hS.one,hP.one,hC.one]
 have a9:=Jh (fun W (h:Ext w W)=>hS.ext h)
 obtain ⟨a0,b0,o0,c0,rfl,-,-,-,-⟩:=hS.open
 obtain ⟨ap,bp,op,cp,rfl,-,-,-,-⟩:=hP.open
 obtain ⟨ac,bc,oc,cc,rfl,-,-,-,-⟩:=hC.open
 obtain ⟨av,bv,ov,aa,rfl,-,-,-,-⟩:=hs.open
 have x1:=Ab w (.cells [Value.slice a0 d.signals.length c0,.slice ap d.procs.length cp,.slice ac d.checks.length cc].toArray 26)
 have x2:=Ab (w.alloc (.cells [Value.slice a0 d.signals.length c0,.slice ap d.procs.length cp,.slice ac d.checks.length cc].toArray 26)) (.cells #[.slice av vs.length aa] 27)
 have x3:=Ab ((w.alloc (.cells [Value.slice a0 d.signals.length c0,.slice ap d.procs.length cp,.slice ac d.checks.length cc].toArray 26)).alloc (.cells #[.slice av vs.length aa] 27)) (.cells cs.toArray 40)
 have hD:=((Blk.new w [Value.slice a0 d.signals.length c0,.slice ap d.procs.length cp,.slice ac d.checks.length cc].toArray 26).ext x2).ext x3
 have hU:=(Blk.new (w.alloc (.cells [Value.slice a0 d.signals.length c0,.slice ap d.procs.length cp,.slice ac d.checks.length cc].toArray 26)) #[.slice av vs.length aa] 27).ext x3
 have hE:=Blk.new ((w.alloc (.cells [Value.slice a0 d.signals.length c0,.slice ap d.procs.length cp,.slice ac d.checks.length cc].toArray 26)).alloc (.cells #[.slice av vs.length aa] 27)) cs.toArray 40
 have hX:=(x1.trans x2).trans x3
 simp only [World.size_alloc] at hU hE
 clear x1 x2 x3 hS hP hC hs ao ar hV aq hn
 obtain ⟨am,ae⟩:∃ o,Hh d vs e=o:=⟨_,rfl⟩
 have ab:=Jh ae
 rw [ae]
 clear ae
 obtain ⟨q,hq⟩:∃ q,Cn d vs=q:=⟨_,rfl⟩
 have HQ:=Jh hq
 rw [hq] at af
 clear hq
 go_enter Tryz.func100,Tryz.ntmps100
 go_upto_region 1 with fail
 generalize ((w.alloc _).alloc _).alloc _=w0 at *
 have HD:=Jh hD
 have HU:=Jh hU
 have HE:=Jh hE
 have HX:=Jh hX
 have d0:=hD.has
 have u0:=hU.has 0 _ rfl
 clear hD hU hE hX
 cases q
 ·obtain rfl:am=(0,1):=by rw [<-ab.out];unfold Hh;rw [HQ.out];simp
  go_wp2_with (first | ((with_reducible show Jl 26);refine Aa rfl 26 _ rfl rfl (d0) Aj rfl ?_) | (go_at_call 19;refine (af.out w0 HX.out).mono ?_;rintro r w1 ⟨rfl,j⟩))
  refine bodyPost_ret (v:=.tuple #[.int .u64 ((0:Nat):Int),.int .i64 1]) (by simp [results,Tryz.results100,go_sem]) rfl ⟨rfl,HX.out.trans j⟩
 ·by_cases u:D9 d.signals e=0
  ·have ay:By d=0:=by
    have h1:=HQ.out
    unfold Cn at h1
    simp only [Bool.and_eq_true,decide_eq_true_eq] at h1
    exact h1.2.1
   have az:vs.length=d.signals.length:=by
    have h1:=HQ.out
    unfold Cn at h1
    simp only [Bool.and_eq_true,decide_eq_true_eq] at h1
    exact h1.1
   have a2:Su d.signals vs=true:=by
    have h1:=HQ.out
    unfold Cn at h1
    simp only [Bool.and_eq_true,decide_eq_true_eq] at h1
    exact h1.2.2
   obtain rfl:am=(evM vs e,0):=by rw [<-ab.out];unfold Hh;rw [if_pos ⟨HQ.out,u⟩]
   have an:=Dv ay
   have a3:=(Qz (fun x hx=>(an x hx).2) u).1
   have a8:=Jh an
   have bi:=Jh a3
   have a7:=Jh az
   have be:=Jh (Pd a2)
   rw [u] at al
   clear ay az a2 an a3 u
   go_upto_if 17 with (first | ((with_reducible show Jl 26);refine Aa rfl 26 _ rfl rfl (d0) Aj rfl ?_) | (go_at_call 19;refine (af.out w0 HX.out).mono ?_;rintro r w1 ⟨rfl,j⟩;have d1:=(HD.out.ext j).has;have e1:=(HE.out.ext j).has) | ((with_reducible show Jl 26);refine Aa rfl 26 _ rfl rfl (d1) Aj rfl ?_) | ((with_reducible show Jl 40);refine Aa rfl 40 _ rfl rfl (e1) Ah h8 ?_) | (go_at_call 134;refine (al.out w1 (HX.out.trans j)).mono ?_;rintro r w2 ⟨rfl,aj⟩))
   have ag:=Jh (j.trans aj)
   have a5:=Jh (HD.out.ext ag.out)
   have ba:=Jh (HU.out.ext ag.out)
   have a6:=Jh (HE.out.ext ag.out)
   clear j aj d1 e1 d0 u0
   go_wp2_with fail
   refine Jg w2 fun hH=>?_
   try simp only [J]
   (refine Jt 0 (.agg cs.toArray) rfl (Ar rfl 40 _ rfl rfl (fun W hW=>(a6.out.ext hW).has) Ah h8) hH ?_;try simp only [J])
   (refine Jt 1 (.agg [Value.slice a0 d.signals.length c0,.slice ap d.procs.length cp,.slice ac d.checks.length cc].toArray) rfl (Ar rfl 26 _ rfl rfl (fun W hW=>(a5.out.ext hW).has) Aj rfl) hH ?_;try simp only [J])
   (refine Jk 2 (.func (.func 137) #[] #[.pointer (some ⟨w.heap.size+1,0,none⟩)]) rfl hH ?_;try simp only [J])
   (refine Jr 3 rfl fun K hK=>?_)
   go_simp
   refine (Zd _ _ _ _ _ ah _).mono ?_
   rintro r w3 ⟨D3,L3,S3,rfl,bj,ax,au,aw⟩
   refine hK.out _ _ (hH.trans bj) (fun hH=>?_)
   clear hK K
   try simp only [J]
   have ai:=(HX.out.trans ag.out).trans hH
   have ak:Io w3 d.signals vs S3:=⟨D3,L3,_,_,_,_,ax,au,aw,a9.out w3 ai,Ab9 (bd.out w3 ai) a7.out (ba.out.ext hH)⟩
   have a1:=Ac3 164 #[.pointer (some ⟨S3,0,none⟩)] Aej (evB vs) w3 (fun e=>WS d.signals e/\e.wf) (fun e h x hx=>⟨((Hv _ e).1 h.1).2 x hx,((E.wf_iff e).1 h.2).2.2.2.2.2.2.2 x hx⟩)
    (fun e h cs s W hW hV hB=>V5 a8.out be.out ak e h.1 h.2 cs s W hW hV hB) e ⟨bi.out,bg.out⟩ cs w3 (Below.refl _ _) (bf.out w3 ai) HN.out
   have bb:=Jh a1
   clear a1 ak ax au aw
   (refine Jr 4 rfl fun K hK=>?_)
   go_simp
   refine bb.out.mono ?_
   rintro r w4 ⟨rfl,a4⟩
   refine hK.out _ _ (hH.trans a4) (fun hH=>?_)
   clear hK K
   try simp only [J]
   (refine Jt 5 (.int .u64 (evM vs e:Int)) rfl (yif_load1 rfl (by intro W hW;clear hW;simp only [evB];have hf:=Re ⟨e.w,evM vs e⟩ W;go_simp)) hH ?_;try simp only [J])
   (refine Ji 6 (.int .u64 (evM vs e:Int)) rfl hH ?_;try simp only [J])
   (refine Ji 7 (.int .i64 0) rfl hH ?_;try simp only [J])
   refine Jz ?_
   go_wp2_with ((with_reducible show bodyPost _ _ _ _ _ _);refine Hid.out ?_)
   refine Jh ?_
   refine bodyPost_ret (v:=.tuple #[.int .u64 (evM vs e:Int),.int .i64 0]) (by simp [results,Tryz.results100,go_sem]) rfl ⟨rfl,ai.trans a4⟩
  ·have c1:(D9 d.signals e != 0)=true:=by rw [bne_iff_ne];exact u
   obtain rfl:am=(0,1):=by rw [<-ab.out];unfold Hh;rw [if_neg (fun h=>u h.2)]
   clear u
   go_wp2_with (first | ((with_reducible show Jl 26);refine Aa rfl 26 _ rfl rfl (d0) Aj rfl ?_) | (go_at_call 19;refine (af.out w0 HX.out).mono ?_;rintro r w1 ⟨rfl,j⟩;have d1:=(HD.out.ext j).has;have e1:=(HE.out.ext j).has) | ((with_reducible show Jl 26);refine Aa rfl 26 _ rfl rfl (d1) Aj rfl ?_) | ((with_reducible show Jl 40);refine Aa rfl 40 _ rfl rfl (e1) Ah h8 ?_) | (go_at_call 134;refine (al.out w1 (HX.out.trans j)).mono ?_;rintro r w2 ⟨rfl,aj⟩))
   refine bodyPost_ret (v:=.tuple #[.int .u64 ((0:Nat):Int),.int .i64 1]) (by simp [results,Tryz.results100,go_sem]) rfl ⟨rfl,HX.out.trans (j.trans aj)⟩
def Ai5 (wd v:Int):E:=⟨1,wd,v,0,0,0,0,[]⟩
def Hp (wd n hi lo:Int):E:=⟨2,wd,0,n,hi,lo,0,[]⟩
def Ai2 (wd n:Int) (a b:E):E:=⟨5,wd,0,0,0,0,n,[a,b]⟩
theorem Afw {ls:List Ai} (aa:∀ x∈ls,x.w<=64) (e:E):WS ls e->A7 ls e=true:=by
 induction e using E.ind with
 | h e ih =>
  intro h
  obtain ⟨h0,hp⟩:=(Hv ls e).1 h
  have ab:=I0 aa e h
  rw [Fu,Bool.and_eq_true,List.all_eq_true]
  refine ⟨?_,fun x hx=>ih x hx (hp x hx)⟩
  have u:(e.l.map (·.w)).length=e.l.length:=List.length_map ..
  generalize e.l.map (·.w)=ws at *
  clear ih hp h
  unfold wsN at h0
  unfold Bl
  rcases h0 with ⟨ho,rfl,h1,h2,h3,h4,h5,h6,h7⟩ | ⟨ho,rfl,h1,h2,h3,h4⟩ | ⟨ho,⟨k,rfl⟩,h1,h2,h3,h4,h5,h6,h7⟩ | ⟨ho,⟨k,rfl,h1⟩,h2,h3,h4,h5⟩ | ⟨ho,⟨j,k,rfl,h1⟩,h2,h3,h4,h5⟩ | ⟨ho,rfl,h1,h2,h3,h4,h5⟩ | ⟨ho,h1,h2,h3,h4,h5,h6,h7,h8⟩ | ⟨ho,⟨k,rfl,h1⟩,h2,h3,h4,h5,h6,h7⟩
  case inr.inr.inr.inr.inr.inr.inl =>
   have:0<e.l.length:=by
    rw [<-u]
    cases ws with
    | nil=>exact absurd rfl h1
    | cons=>simp
   simp [ho,this,h4,h5,h6,h7,h8]
  all_goals (simp only [List.length_nil,List.length_cons] at u)
  ·simp [ho,<-u,h3,h4,h5,h6,h7];omega
  ·simp [ho,<-u,h1,h3,h4]
  ·simp [ho,<-u,h1,h2,h4,h5,h6,h7]
  ·simp [ho,<-u,h2,h3,h4,h5];omega
  ·simp [ho,<-u,h2,h3,h4,h5];omega
  ·simp [ho,<-u,h1,h2,h3,h4,h5]
  ·simp [ho,<-u,h2,h3,h4,h5,h6,h7];omega
theorem X8 {d:Bb} (h:By d=0):Cp [[]] d.signals=true:=by
 have h1:=Ip h
 unfold C4 at h1
 simp only [Bool.and_eq_true] at h1
 exact h1.1.1
theorem Zv {ls:List Ai} (j:∀ x∈ls,x.w<=64) (aa:Cp [[]] ls=true) {x:E} (hx:WS ls x) (hn:nodes x<=65536) (hd:Cu x<=64):D9 ls x=0:=by
 obtain ⟨-,o1,o2⟩:=I0 j x hx
 have u:¬ Fa ls x x.w=true:=by
  unfold Fa
  rw [aa,Afw j x hx]
  simp
  omega
 unfold D9 I8
 rw [if_neg u,if_neg (by simp;omega),Ag2 j x hx x.w (.inr (.inl rfl))]
 simp only
 rw [if_neg (by
  rintro (h1 | h1)
  ·omega
  ·rw [(Kq x x).2 rfl] at h1;cases h1)]
theorem Ms {d:Bb} {vs:List Nat} (h:Cn d vs=true):vs.length=d.signals.length/\By d=0/\Nc d.signals vs:=by
 unfold Cn at h
 simp only [Bool.and_eq_true,decide_eq_true_eq] at h
 exact ⟨h.1,h.2.1,Pd h.2.2⟩
end Go.Proofs.YtbliplladmamoaaGreat
