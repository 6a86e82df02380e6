/- Laws and walks that a claim of this seat leans on: R11c, Mark1, Mark2, Mark3, Mark4, Next, Order, LookM, Mark5, Mark6, R11d. -/
import Derived.Test.YtbliplladmamoaaGreatS31
import Derived.Test.YtbliplladmamoaaGreatS21
import Derived.Test.YtbliplladmamoaaGreatS22
import Derived.Test.YtbliplladmamoaaGreatS14
import Derived.Test.YtbliplladmamoaaGreatS06
import Derived.WalkMore
import Derived.Deep.LoopGhost
import Derived.Test.YtbliplladmamoaaGreatS13
import Derived.Test.YtbliplladmamoaaGreatSRef17
import Derived.Test.YtbliplladmamoaaGreatS00
set_option maxRecDepth 100000
set_option maxHeartbeats 8000000
set_option linter.all false
namespace Go.Proofs.YtbliplladmamoaaGreat
open Go.RowKit
def Lf (d:Bb) (dv wasv:Value) (was:List Nat) (ck:Bool) (w0:World) (l:List T):Prop :=
 ∀ (vv:List Nat) (v' sl:Value) (w:World),Ext w0 w->Us w v' vv->Fl d.signals vv->Ts w sl l->(∀ t∈l,Gc d.signals ck t) ->
  Calls Tryz.prog 24 #[dv,wasv,v',.bool ck,sl] w fun r w'=>∃ u,r=.returned u/\Us w' u (allM ck was l vv)/\Fl d.signals (allM ck was l vv)/\Ext w w'
theorem Aa5 {d:Bb} {dv a5:Value} {j:List Nat} {ck:Bool} {w0:World} (c4:d.ok) (hc:By d=0) (hF:Ck w0 dv d) (bv:Us w0 a5 j) (df:Fl d.signals j) (l:List T)
  (ih:∀ s∈l,Lf d dv a5 j ck w0 s.l/\∀ r∈s.l,Lf d dv a5 j ck w0 r.l):Lf d dv a5 j ck w0 l:=by
 intro vv v' sl w bg hv db hL c8
 have cx:=Jh ih
 have dm:=Jh c8
 have HF:=Jh (fun W (h:Ext w W)=>(hF.ext bg).ext h)
 have bx:=Jh bg
 obtain ⟨sv,pv,cv,rfl,hS,hP,hC⟩:=hF
 obtain ⟨wa,-,-,a6,rfl,-,-,-,-⟩:=bv.open
 obtain ⟨va,-,-,vc,rfl,-,-,-,-⟩:=hv.open
 obtain ⟨a,b,o,cap,rfl,d4,d5,ha,hr⟩:=hL.open
 have HA:=Jh ha
 have HR:=Jh hr
 have hX:=Ab w (.cells [sv,pv,cv].toArray 26)
 have hD:=Blk.new w [sv,pv,cv].toArray 26
 have dq:=Jh db
 have HV:=Jh hv
 obtain ⟨bm,hT⟩:∃ x,allM ck j l vv=x:=⟨_,rfl⟩
 have cz:=Jh hT
 rw [hT]
 clear ih c8 bg hS hP hC hv hL ha hr db hT
 go_enter Tryz.func24,Tryz.ntmps24
 go_upto_region 1 with fail
 generalize w.alloc _=w1 at *
 obtain ⟨Bd,c1⟩:∃ B,w.heap.size=B:=⟨_,rfl⟩
 rw [c1] at hD ⊢
 clear c1
 have HD:=Jh hD
 have HX:=Jh hX
 clear hD hX
 go_wp2_with fail
 go_loopw [2,11,12,13,14] (fun u i _ _ _ wr=>∃ (k:Nat) (x:List Nat),k<=l.length/\i=.int .i64 k/\Us wr u x/\Fl d.signals x/\allM ck j (l.drop k) x=bm/\Ext w1 wr) (fun _ i _ _ _ _=>l.length-(intOf i).toNat)
 case atStart=>exact ⟨0,vv,Nat.zero_le _,rfl,HV.out.ext HX.out,dq.out,cz.out,Below.refl _ _⟩
 case round =>
  obtain ⟨k,x,hk,rfl,cr,dc,ar,dg⟩:=hrel
  have ba:=Jh cr
  have a0:=Jh dc
  have a9:=Jh ar
  have aj:=Jh dg
  obtain ⟨xa,-,-,xc,rfl,-,-,-,-⟩:=cr.open
  clear cr dc ar dg
  by_cases aw:k<l.length
  ·obtain rfl:=HA.out (by omega)
   obtain ⟨se,dj,av,b4,ak⟩:=Ts.get (HR.out.mono fun y _ b o hh=>TAt.ext' (HX.out.trans aj.out) hh) aw
   have bq:=b4.one
   have br:=ak.one
   have c9:=dm.out _ (List.getElem_mem aw)
   have c3:=cx.out _ (List.getElem_mem aw)
   have cq:=a9.out
   rw [List.drop_eq_getElem_cons aw,Hr] at cq
   have ae:=Jh cq
   have bj:=Jh c9
   have ay:=Jh c3
   have cw:=Jh b4
   have bw:=Jh ak
   have ct:=Ab wr (.cells (l[k].cells se dj).toArray 44)
   have bh:=Blk.new wr (l[k].cells se dj).toArray 44
   obtain ⟨ea,-,-,ec,rfl,-,-,-,-⟩:=b4.open
   obtain ⟨la,-,-,lc,rfl,-,-,-,-⟩:=ak.open
   obtain ⟨t,ht⟩:∃ t,l[k]=t:=⟨_,rfl⟩
   rw [ht] at ae bj ay cw bw ct bh av
   clear b4 ak c9 c3 cq ht cx
   go_upto_region 5 with (first | ((with_reducible show Jl 44);refine Aa rfl 44 _ rfl rfl (av) Aw rfl ?_) | ((with_reducible show Js 44);refine Ad rfl 44 _ _ rfl rfl (by first | rfl | simp) rfl Aw (rfl) rfl (by simp [bq,br,T.cells,Value.oneCell']) ?_))
   obtain ⟨a7,c2⟩:∃ B,wr.heap.size=B:=⟨_,rfl⟩
   rw [c2] at bh ⊢
   clear c2 av bq br
   generalize wr.alloc _=w2 at *
   have ag:=Jh bh
   have aa:=Jh ct
   clear bh ct
   have y0:=ag.out.has 0 _ rfl
   have y5:=ag.out.has 5 _ rfl
   rw [Nat.zero_add] at y0 y5
   have dd:=(HD.out.ext (aj.out.trans aa.out)).has
   by_cases al:t.op=4\/t.op=5
   case pos =>
    have ab:=Aex ck j (t:=t) x al
    have b1:(t.op==1)=false:=by rw [beq_eq_false_iff_ne];omega
    have b2:(t.op==2)=false:=by rw [beq_eq_false_iff_ne];omega
    have b3:(t.op==3)=false:=by rw [beq_eq_false_iff_ne];omega
    have ai:=Jh (ay.out.1 x _ _ w2 (bx.out.trans (HX.out.trans (aj.out.trans aa.out))) (ba.out.ext aa.out) a0.out (bw.out.ext aa.out) (((Fe _ _ t).1 bj.out).2.2))
    have HE:=Jh (show allM ck j (l.drop (k+1)) (allM ck j t.l x)=bm by rw [<-ab];exact ae.out)
    clear ab al ay a9 ae
    cases ck
    all_goals (
     go_wp2_with (first | ((with_reducible show Jl 26);refine Aa rfl 26 _ rfl rfl (dd) Aj rfl ?_) | (go_at_call 24;refine ai.out.mono ?_;rintro r w3 ⟨u3,rfl,dy,dz,aq⟩))
     go_roundw
     case rel=>exact ⟨k+1,_,aw,by go_num,dy,dz,HE.out,aj.out.trans (aa.out.trans aq)⟩
     case measure=>simp [intOf];omega)
   obtain ⟨h1,h2,-⟩:=(Fe _ _ t).1 bj.out
   have ak:∀ x∈d.signals,x.w<=64:=fun x hx=>(Dv hc x hx).2
   obtain ⟨rd,am⟩:∃ r,(if ck then j else x)=r:=⟨_,rfl⟩
   have cn:Fl d.signals rd:=by
    rw [<-am]
    split
    ·exact df
    ·exact a0.out
   obtain ⟨E1,af⟩:∃ E1,t.e=[E1]:=by
    rcases h2 with ⟨-,-,-,⟨z,hz,-⟩,-⟩ | ⟨-,⟨z,hz,-⟩,-⟩ | ⟨-,⟨z,hz⟩,-⟩ | o | o
    ·exact ⟨z,hz⟩
    ·exact ⟨z,hz⟩
    ·exact ⟨z,hz⟩
    ·exact absurd (.inl o) al
    ·exact absurd (.inr o) al
   have ap:=h1 E1 (by simp [af])
   have a2:=Aa7 (vs:=rd) ak E1 ap.1 ap.2.1
   have dl:=Jh (Rb hc cn ap.1 ap.2.2.1 ap.2.2.2)
   obtain ⟨d2,eb,eo,d3,du,-,-,b0,cl⟩:=cw.out.open
   injection du with e1 e2 e3
   subst e1 e3
   clear e2
   obtain rfl:=b0 (by rw [af];simp)
   rw [af] at cl
   obtain ⟨s1,bd,bf⟩:=Es.get cl (k:=0) (by simp)
   have bd:Has wr eb eo (E1.cells s1):=by simpa using bd
   have bf:Es wr s1 E1.l:=by simpa using bf
   have cd:=Jh (fun W (h:Ext w2 W)=>Has.ext bd (aa.out.trans h))
   have bb:=Jh (fun W rv (h:Ext w2 W) (hu:Us W rv rd)=>Sv d _ rd rv E1 (E1.cells s1) W (HF.out W (HX.out.trans (aj.out.trans (aa.out.trans h)))) c4 hu ⟨s1,rfl,bf.ext (aa.out.trans h)⟩ ap.2.1 (Nat.le_trans ap.2.2.1 (by decide)))
   rw [dl.out] at bb
   have y4:=ag.out.has 4 _ rfl
   rw [Nat.zero_add] at y4
   by_cases ho:t.op=1
   case pos =>
    obtain ⟨da,di⟩:slice d.signals t.sig t.hi t.lo=true/\E1.w=t.hi-t.lo+1:=by
     rcases h2 with ⟨-,p1,-,⟨z,hz,cu⟩,-⟩ | ⟨o,-⟩ | ⟨o,-⟩ | o | o
     ·have:E1=z:=by rw [af] at hz;simpa using hz
      exact ⟨p1,by rw [this];exact cu⟩
     all_goals omega
    obtain ⟨q1,q2,q3,q4,q5,-⟩:=Gw d.signals ak da
    have q6:=Ol d.signals ak t.sig
    have ab:Fz ck j t x=P9 x t.sig t.hi t.lo (evM rd E1):=by rw [Aeu ck j x ho,af,am];rfl
    rw [di] at a2
    obtain ⟨sg,co⟩:=Int.eq_ofNat_of_zero_le q1
    obtain ⟨lo,b6⟩:=Int.eq_ofNat_of_zero_le q3
    obtain ⟨hi,b5⟩:=Int.eq_ofNat_of_zero_le (Int.le_trans q3 q4)
    have dh:=a0.out.1
    have cp:sg<x.length:=by omega
    have ca:=Mr ak a0.out _ (List.getElem_mem cp)
    rw [b6,b5,show ((hi:Int)-lo+1).toNat=hi+1-lo by omega] at a2
    have bs:P9 x t.sig t.hi t.lo (evM rd E1)=x.set sg (Dm x[sg] hi lo (evM rd E1)):=by
     unfold P9
     rw [co,b6,b5,Int.toNat_natCast,Int.toNat_natCast,Int.toNat_natCast,List.getD_eq_getElem?_getD,List.getElem?_eq_getElem cp,Option.getD_some]
    have dn:=Jh (fun W op se sl (h:Ext w2 W)=>Y3 x _ op se sl sg hi lo (evM rd E1) W (ba.out.ext (aa.out.trans h)) (by have:=c4.signals;omega) cp (by omega) (by omega) a2 ca)
    have ch:=Jh (show Fl d.signals (Fz ck j t x) from (Vl (ck:=ck) ak df t bj.out).1 x a0.out)
    rw [ab,bs] at ch
    have ar:=ae.out
    rw [ab,bs] at ar
    have dp:=Jh ar
    have ax:t.cells (.slice (some ⟨eb,eo,none⟩) t.e.length ec) (.slice la t.l.length lc)=[.int .i64 1,.int .i64 (sg:Int),.int .i64 (hi:Int),.int .i64 (lo:Int),.slice (some ⟨eb,eo,none⟩) 1 ec,.slice la t.l.length lc]:=by
     unfold T.cells;rw [ho,co,b5,b6,af];rfl
    rw [ax] at ag
    rw [ho] at y0
    have cg:=Jh (show ∃ ra rc,(if ck then Value.slice wa j.length a6 else .slice xa x.length xc)=.slice ra rd.length rc/\Us w2 (.slice ra rd.length rc) rd from by
     cases ck
     ·obtain rfl:x=rd:=by simpa using am
      exact ⟨xa,xc,rfl,ba.out.ext aa.out⟩
     ·obtain rfl:j=rd:=by simpa using am
      exact ⟨wa,a6,rfl,bv.ext (bx.out.trans (HX.out.trans (aj.out.trans aa.out)))⟩)
    obtain ⟨ra,rc,ac,be⟩:=cg.out
    have ah:=Jh be
    have az:=Jh ac
    have a8:=Jh (HD.out.ext (aj.out.trans aa.out))
    have bz:=Jh (aj.out.trans aa.out)
    clear ab bs ar a2 ca dh co b6 b5 q1 q2 q3 q4 q5 q6 da di ho al h1 h2 ap af b0 cl bd bf a9 ae ay be ac am y4 y5 dd ax
    cases ck
    all_goals (
     have ac:=az.out
     simp only [Bool.false_eq_true,if_false,if_true] at ac
     injection ac with r1 r2 r3
     subst r1 r3
     have cy:=Jh r2
     rw [<-r2] at ah
     clear r2 az
     go_upto_region 11 with fail
     refine Jg w2 fun hH=>?_
     try simp only [J]
     (refine Ji 0 _ rfl hH ?_;try simp only [J])
     (refine Jt 1 (.agg [.int .i64 1,.int .i64 (sg:Int),.int .i64 (hi:Int),.int .i64 (lo:Int),.slice (some ⟨eb,eo,none⟩) 1 ec,.slice la t.l.length lc].toArray) rfl (Ar rfl 44 _ rfl rfl (fun W hW=>(ag.out.ext hW).has) Aw rfl) hH ?_;try simp only [J])
     (refine Jt 2 (.agg [sv,pv,cv].toArray) rfl (Ar rfl 26 _ rfl rfl (fun W hW=>(a8.out.ext hW).has) Aj rfl) hH ?_;try simp only [J])
     (refine Ji 3 _ rfl hH ?_;try simp only [J])
     (refine Jk 4 (.pointer (some ⟨a7,4,none⟩)) rfl hH ?_;try simp only [J])
     (refine Jt 5 (.slice (some ⟨eb,eo,none⟩) 1 ec) rfl (yif_load1 rfl (by intro W hW;have y:=(ag.out.ext hW).has 4 _ rfl;rw [Nat.zero_add] at y;clear hW;go_simp)) hH ?_;try simp only [J])
     (refine Jp 6 (.pointer (some ⟨eb,eo,none⟩)) rfl hH ?_;try simp only [J])
     (refine Jt 7 (.agg (E1.cells s1).toArray) rfl (Ar rfl 40 _ rfl rfl (fun W hW=>cd.out W hW) Ah rfl) hH ?_;try simp only [J])
     (refine Jr 8 rfl fun K hK=>?_)
     go_simp
     refine (bb.out _ _ hH (ah.out.ext hH)).mono ?_
     rintro r w3 ⟨rfl,aq⟩
     refine hK.out _ _ (hH.trans aq) (fun hH=>?_)
     clear hK K aq
     try simp only [J]
     (refine Jr 9 rfl fun K hK=>?_)
     go_simp
     refine (dn.out _ _ _ _ hH).mono ?_
     rintro r w4 ⟨u4,rfl,c7,an⟩
     have bk:=Jh c7.cells
     refine hK.out _ _ (hH.trans an) (fun hH=>?_)
     clear hK K c7 an
     try simp only [J]
     (refine Ji 10 (u4) rfl hH ?_;try simp only [J])
     refine Jz ?_
     have bl:=Jh hH
     clear hH
     go_wp2_with fail
     go_roundw
     case rel=>exact ⟨k+1,_,aw,by go_num,bk.out,ch.out,dp.out,bz.out.trans bl.out⟩
     case measure=>simp [intOf];omega)
   have dk:=ak
   obtain ⟨lz,lb,lo,d7,le,-,-,cj,bp⟩:=bw.out.open
   injection le with le1 le2 le3
   subst le1 le3
   clear le2
   have bo:0<t.l.length:=by
    rcases h2 with ⟨o,-⟩ | ⟨-,-,a,b,bc⟩ | ⟨-,-,h0,-⟩ | o | o
    ·exact absurd o ho
    ·rw [bc];simp
    ·exact h0
    ·exact absurd (.inl o) al
    ·exact absurd (.inr o) al
   obtain rfl:=cj bo
   have d1:=Jh bp
   have ai:=Jh (fun W q (hq:q<t.l.length) lv (h:Ext w2 W) (hlv:Ts W lv t.l[q].l)=>ay.out.2 t.l[q] (List.getElem_mem hq) x _ lv W (bx.out.trans (HX.out.trans (aj.out.trans (aa.out.trans h)))) (ba.out.ext (aa.out.trans h)) a0.out hlv (((Fe _ _ _).1 ((((Fe _ _ t).1 bj.out).2.2) _ (List.getElem_mem hq))).2.2))
   have cg:=Jh (show ∃ ra rc,(if ck then Value.slice wa j.length a6 else .slice xa x.length xc)=.slice ra rd.length rc/\Us w2 (.slice ra rd.length rc) rd from by
    cases ck
    ·obtain rfl:x=rd:=by simpa using am
     exact ⟨xa,xc,rfl,ba.out.ext aa.out⟩
    ·obtain rfl:j=rd:=by simpa using am
     exact ⟨wa,a6,rfl,bv.ext (bx.out.trans (HX.out.trans (aj.out.trans aa.out)))⟩)
   obtain ⟨ra,rc,ac,be⟩:=cg.out
   have ah:=Jh be
   have az:=Jh ac
   have a8:=Jh (HD.out.ext (aj.out.trans aa.out))
   have bz:=Jh (aj.out.trans aa.out)
   by_cases b7:t.op=2
   case pos =>
    obtain ⟨de,ta,tb,bc⟩:E1.w=1/\∃ a b,t.l=[a,b]:=by
     rcases h2 with ⟨o,-⟩ | ⟨-,⟨z,hz,cu⟩,bc⟩ | ⟨o,-⟩ | o | o
     ·exact absurd o ho
     ·have dw:E1=z:=by rw [af] at hz;simpa using hz
      exact ⟨by rw [dw];exact cu,bc⟩
     all_goals omega
    obtain ⟨X,hX⟩:∃ X,evM rd E1=X:=⟨_,rfl⟩
    rw [de,hX,show (2:Nat)^(1:Int).toNat=2 from rfl] at a2
    rw [hX] at bb
    have ab:∀ q (hq:q<t.l.length),q=(if X=0 then 1 else 0)->Fz ck j t x=allM ck j t.l[q].l x:=fun q hq e=>by
     rw [Aev ck j x b7,af,am]
     show Fz.nthM ck j t.l (if evM rd E1=0 then 1 else 0) x=_
     rw [hX,<-e,Mo ck j _ q x hq]
    have HE:=Jh (fun q (hq:q<t.l.length) (e:q=(if X=0 then 1 else 0))=>(show allM ck j (l.drop (k+1)) (allM ck j t.l[q].l x)=bm by rw [<-ab q hq e];exact ae.out))
    have b9:=Jh (fun q (hq:q<t.l.length)=>Ts.get bp hq)
    have au:t.l.length=2:=by rw [bc];rfl
    have ax:t.cells (.slice (some ⟨eb,eo,none⟩) t.e.length ec) (.slice (some ⟨lb,lo,none⟩) t.l.length lc)=[.int .i64 2,.int .i64 t.sig,.int .i64 t.hi,.int .i64 t.lo,.slice (some ⟨eb,eo,none⟩) 1 ec,.slice (some ⟨lb,lo,none⟩) 2 lc]:=by
     unfold T.cells;rw [b7,af,au];rfl
    rw [ax] at ag
    rw [b7] at y0
    have d0:=Jh au
    have HQ:Hid (∃ q:Nat,q<2/\q=(if X=0 then 1 else 0)/\(X=0/\q=1\/X=1/\q=0)):=Jh (by
     rcases Nat.lt_or_ge X 1 with h | h
     ·exact ⟨1,by omega,by rw [if_pos (by omega)],.inl ⟨by omega,rfl⟩⟩
     ·exact ⟨0,by omega,by rw [if_neg (by omega)],.inr ⟨by omega,rfl⟩⟩)
    obtain ⟨q,dx,a4,c6⟩:=HQ.out
    have ao:q<t.l.length:=by rw [au];exact dx
    obtain ⟨dt,lq,av,-,a3⟩:=b9.out q ao
    have bi:=Jh a3
    have cb:=Jh (fun W (h:Ext w2 W)=>ai.out W q ao lq h (a3.ext (aa.out.trans h)))
    have cc:=Jh (HE.out q ao a4)
    obtain ⟨OF,a1⟩:∃ OF,lo+q*6=OF:=⟨_,rfl⟩
    have ce:=Jh (show ∀ W,Ext w2 W->W.cell? ⟨lb,OF+5,none⟩=some lq from fun W h=>by
     have:=(Has.ext av (aa.out.trans h)) 5 _ rfl
     rw [<-a1];exact this)
    have cf:=Jh a1
    have c0:=Jh c6
    clear a3 av HE b9 ai ab
    generalize t.l[q].l=LL at *
    clear a2 af b0 cj bp bd bf a9 ae ay be ac am y4 y5 dd ax ho al h1 h2 ap bc de hX ao au HQ bo dk a4 a1 c6 cn
    obtain ⟨qa,-,-,qc,rfl,-,-,-,-⟩:=bi.out.open
    clear bi
    rcases c0.out with ⟨bg,c5⟩ | ⟨bg,c5⟩
    all_goals (
     subst bg c5
     cases ck)
    all_goals (
     have ac:=az.out
     simp only [Bool.false_eq_true,if_false,if_true] at ac
     injection ac with r1 r2 r3
     subst r1 r3
     have cy:=Jh r2
     rw [<-r2] at ah
     clear r2 az
     go_upto_region 14 with fail
     refine Jg w2 fun hH=>?_
     try simp only [J]
     (refine Jt 0 (.agg [sv,pv,cv].toArray) rfl (Ar rfl 26 _ rfl rfl (fun W hW=>(a8.out.ext hW).has) Aj rfl) hH ?_;try simp only [J])
     (refine Ji 1 _ rfl hH ?_;try simp only [J])
     (refine Jk 2 (.pointer (some ⟨a7,4,none⟩)) rfl hH ?_;try simp only [J])
     (refine Jt 3 (.slice (some ⟨eb,eo,none⟩) 1 ec) rfl (yif_load1 rfl (by intro W hW;have y:=(ag.out.ext hW).has 4 _ rfl;rw [Nat.zero_add] at y;clear hW;go_simp)) hH ?_;try simp only [J])
     (refine Jp 4 (.pointer (some ⟨eb,eo,none⟩)) rfl hH ?_;try simp only [J])
     (refine Jt 5 (.agg (E1.cells s1).toArray) rfl (Ar rfl 40 _ rfl rfl (fun W hW=>cd.out W hW) Ah rfl) hH ?_;try simp only [J])
     (refine Jr 6 rfl fun K hK=>?_)
     go_simp
     refine (bb.out _ _ hH (ah.out.ext hH)).mono ?_
     rintro r w3 ⟨rfl,aq⟩
     refine hK.out _ _ (hH.trans aq) (fun hH=>?_)
     clear hK K aq
     try simp only [J]
     (refine Jr 7 rfl fun K hK=>?_)
     go_simp
     refine hK.out _ _ hH (fun hH=>?_)
     clear hK K
     try simp only [J]
     refine Jz ?_
     have dr:=Jh hH
     clear hH
     go_upto_region 16 with fail
     refine wp_region_held_drew (S:=fun W=>Ext w2 W) (by kernel_rfl) (Below.drew dr.out) (fun hH=>?_)
     try simp only [J]
     (refine Jt 0 (.agg [sv,pv,cv].toArray) rfl (Ar rfl 26 _ rfl rfl (fun W hW=>(a8.out.ext hW).has) Aj rfl) hH ?_;try simp only [J])
     (refine Ji 1 _ rfl hH ?_;try simp only [J])
     (refine Ji 2 _ rfl hH ?_;try simp only [J])
     (refine Ji 3 _ rfl hH ?_;try simp only [J])
     (refine Jk 4 (.pointer (some ⟨a7,5,none⟩)) rfl hH ?_;try simp only [J])
     (refine Jt 5 (.slice (some ⟨lb,lo,none⟩) 2 lc) rfl (yif_load1 rfl (by intro W hW;have y:=(ag.out.ext hW).has 5 _ rfl;rw [Nat.zero_add] at y;clear hW;go_simp)) hH ?_;try simp only [J])
     (refine Ji 6 _ rfl hH ?_;try simp only [J])
     (refine Jt 7 (.pointer (some ⟨lb,OF,none⟩)) rfl (yif_load1 rfl (by intro W hW;clear hW;go_simp;have:=cf.out;omega)) hH ?_;try simp only [J])
     (refine Jk 8 (.pointer (some ⟨lb,OF+5,none⟩)) rfl hH ?_;try simp only [J])
     (refine Jt 9 (.slice qa LL.length qc) rfl (yif_load1 rfl (by intro W hW;have y:=ce.out W hW;clear hW;go_simp)) hH ?_;try simp only [J])
     (refine Jr 10 rfl fun K hK=>?_)
     go_simp
     refine (cb.out _ hH).mono ?_
     rintro r w4 ⟨u4,rfl,bt,bu,an⟩
     have bk:=Jh bt
     have ci:=Jh bu
     refine hK.out _ _ (hH.trans an) (fun hH=>?_)
     clear hK K bt an bu
     try simp only [J]
     (refine Ji 11 (u4) rfl hH ?_;try simp only [J])
     refine Jz ?_
     have bl:=Jh hH
     clear hH
     go_wp2_with fail
     go_roundw
     case rel=>exact ⟨k+1,_,aw,by go_num,bk.out,ci.out,cc.out,bz.out.trans bl.out⟩
     case measure=>simp [intOf];omega)
   have cm:t.op=3:=by
    rcases h2 with ⟨o,-⟩ | ⟨o,-⟩ | ⟨o,-⟩ | o | o
    ·exact absurd o ho
    ·exact absurd o b7
    ·exact o
    ·exact absurd (.inl o) al
    ·exact absurd (.inr o) al
   obtain ⟨X,hX⟩:∃ X,evM rd E1=X:=⟨_,rfl⟩
   rw [hX] at bb
   obtain ⟨q,a4⟩:∃ q,Lo t.l (X:Int)=q:=⟨_,rfl⟩
   have ao:q<t.l.length:=by rw [<-a4];exact U5 bo _
   have ab:Fz ck j t x=allM ck j t.l[q].l x:=by
    rw [Aew ck j x cm,af,am]
    show Fz.nthM ck j t.l (Lo t.l (evM rd E1)) x=_
    rw [hX,a4,Mo ck j _ q x ao]
   have cc:=Jh (show allM ck j (l.drop (k+1)) (allM ck j t.l[q].l x)=bm by rw [<-ab];exact ae.out)
   have b8:=Jh (fun W (h:Ext w2 W)=>Xr t.l _ (X:Int) W (bw.out.ext (aa.out.trans h)) bo)
   obtain ⟨n,au⟩:∃ n,t.l.length=n:=⟨_,rfl⟩
   have ax:t.cells (.slice (some ⟨eb,eo,none⟩) t.e.length ec) (.slice (some ⟨lb,lo,none⟩) t.l.length lc)=[.int .i64 3,.int .i64 t.sig,.int .i64 t.hi,.int .i64 t.lo,.slice (some ⟨eb,eo,none⟩) 1 ec,.slice (some ⟨lb,lo,none⟩) n lc]:=by
    unfold T.cells;rw [cm,af,au];rfl
   rw [ax] at ag
   rw [cm] at y0
   rw [a4,au] at b8
   obtain ⟨dt,lq,av,-,a3⟩:=Ts.get bp ao
   have bi:=Jh a3
   have cb:=Jh (fun W (h:Ext w2 W)=>ai.out W q ao lq h (a3.ext (aa.out.trans h)))
   obtain ⟨OF,a1⟩:∃ OF,lo+q*6=OF:=⟨_,rfl⟩
   have ce:=Jh (show ∀ W,Ext w2 W->W.cell? ⟨lb,OF+5,none⟩=some lq from fun W h=>by
    have:=(Has.ext av (aa.out.trans h)) 5 _ rfl
    rw [<-a1];exact this)
   have cf:=Jh a1
   have d6:q<n:=by rw [<-au];exact ao
   clear ab a2 af b0 cj bp bd bf a9 ae ay be ac am y4 y5 dd ax ho al h1 h2 ap hX av a3 ai bo dk a1 cn
   obtain ⟨qa,-,-,qc,rfl,-,-,-,-⟩:=bi.out.open
   clear bi
   generalize t.l[q].l=LL at *
   clear ao a4 au
   cases ck
   all_goals (
    have ac:=az.out
    simp only [Bool.false_eq_true,if_false,if_true] at ac
    injection ac with r1 r2 r3
    subst r1 r3
    have cy:=Jh r2
    rw [<-r2] at ah
    clear r2 az
    go_upto_region 18 with fail
    refine Jg w2 fun hH=>?_
    try simp only [J]
    (refine Jt 0 (.agg [sv,pv,cv].toArray) rfl (Ar rfl 26 _ rfl rfl (fun W hW=>(a8.out.ext hW).has) Aj rfl) hH ?_;try simp only [J])
    (refine Ji 1 _ rfl hH ?_;try simp only [J])
    (refine Ji 2 _ rfl hH ?_;try simp only [J])
    (refine Ji 3 _ rfl hH ?_;try simp only [J])
    (refine Jk 4 (.pointer (some ⟨a7,5,none⟩)) rfl hH ?_;try simp only [J])
    (refine Jt 5 (.slice (some ⟨lb,lo,none⟩) n lc) rfl (yif_load1 rfl (by intro W hW;have y:=(ag.out.ext hW).has 5 _ rfl;rw [Nat.zero_add] at y;clear hW;go_simp)) hH ?_;try simp only [J])
    (refine Jk 6 (.pointer (some ⟨a7,5,none⟩)) rfl hH ?_;try simp only [J])
    (refine Jt 7 (.slice (some ⟨lb,lo,none⟩) n lc) rfl (yif_load1 rfl (by intro W hW;have y:=(ag.out.ext hW).has 5 _ rfl;rw [Nat.zero_add] at y;clear hW;go_simp)) hH ?_;try simp only [J])
    (refine Jt 8 (.agg [sv,pv,cv].toArray) rfl (Ar rfl 26 _ rfl rfl (fun W hW=>(a8.out.ext hW).has) Aj rfl) hH ?_;try simp only [J])
    (refine Ji 9 _ rfl hH ?_;try simp only [J])
    (refine Jk 10 (.pointer (some ⟨a7,4,none⟩)) rfl hH ?_;try simp only [J])
    (refine Jt 11 (.slice (some ⟨eb,eo,none⟩) 1 ec) rfl (yif_load1 rfl (by intro W hW;have y:=(ag.out.ext hW).has 4 _ rfl;rw [Nat.zero_add] at y;clear hW;go_simp)) hH ?_;try simp only [J])
    (refine Jp 12 (.pointer (some ⟨eb,eo,none⟩)) rfl hH ?_;try simp only [J])
    (refine Jt 13 (.agg (E1.cells s1).toArray) rfl (Ar rfl 40 _ rfl rfl (fun W hW=>cd.out W hW) Ah rfl) hH ?_;try simp only [J])
    (refine Jr 14 rfl fun K hK=>?_)
    go_simp
    refine (bb.out _ _ hH (ah.out.ext hH)).mono ?_
    rintro r w3 ⟨rfl,aq⟩
    refine hK.out _ _ (hH.trans aq) (fun hH=>?_)
    clear hK K aq
    try simp only [J]
    (refine Jr 15 rfl fun K hK=>?_)
    go_simp
    refine (b8.out _ hH).mono ?_
    rintro r w4 ⟨rfl,an⟩
    refine hK.out _ _ (hH.trans an) (fun hH=>?_)
    clear hK K an
    try simp only [J]
    (refine Jt 16 (.pointer (some ⟨lb,OF,none⟩)) rfl (yif_load1 rfl (by intro W hW;clear hW;go_simp;have:=cf.out;omega)) hH ?_;try simp only [J])
    (refine Jk 17 (.pointer (some ⟨lb,OF+5,none⟩)) rfl hH ?_;try simp only [J])
    (refine Jt 18 (.slice qa LL.length qc) rfl (yif_load1 rfl (by intro W hW;have y:=ce.out W hW;clear hW;go_simp)) hH ?_;try simp only [J])
    (refine Jr 19 rfl fun K hK=>?_)
    go_simp
    refine (cb.out _ hH).mono ?_
    rintro r w5 ⟨u4,rfl,bt,bu,an⟩
    have bk:=Jh bt
    have ci:=Jh bu
    refine hK.out _ _ (hH.trans an) (fun hH=>?_)
    clear hK K bt an bu
    try simp only [J]
    (refine Ji 20 (u4) rfl hH ?_;try simp only [J])
    refine Jz ?_
    have bl:=Jh hH
    clear hH
    go_wp2_with fail
    go_roundw
    case rel=>exact ⟨k+1,_,aw,by go_num,bk.out,ci.out,cc.out,bz.out.trans bl.out⟩
    case measure=>simp [intOf];omega)
  ·obtain rfl:k=l.length:=by omega
   have hE:x=bm:=by have:=a9.out;rwa [List.drop_length,I4] at this
   go_wp2_with fail
   go_ret
   subst hE
   exact ⟨_,rfl,ba.out,a0.out,HX.out.trans aj.out⟩
theorem Bn.cellf {N g cap n:Nat} {l:List Bool} {w:World} (h:Bn N (.slice (some ⟨g,0,none⟩) n cap) l w) {j:Nat} (hj:j<l.length):w.cell? ⟨g,j,none⟩=some (.bool l[j])/\w.frozen? ⟨g,j,none⟩=false:=by
 obtain ⟨g',ab,e,hg,hc⟩:=h.open1 (by omega)
 injection e with e1 e2 e3
 injection e1 with e1
 injection e1 with e1
 subst e1
 obtain ⟨-,aa,u⟩:=h.at rfl
 have hB:Blk w g aa 4:=u
 exact ⟨hc j _ (List.getElem?_eq_getElem hj),hB.frozen j⟩
theorem Au.cellf {N g cap n:Nat} {l:List Int} {w:World} (h:Au N (.slice (some ⟨g,0,none⟩) n cap) l w) {j:Nat} (hj:j<l.length):w.cell? ⟨g,j,none⟩=some (.int .i64 l[j])/\w.frozen? ⟨g,j,none⟩=false:=by
 obtain ⟨g',ab,e,hg,hc⟩:=h.open1 (by omega)
 injection e with e1 e2 e3
 injection e1 with e1
 injection e1 with e1
 subst e1
 obtain ⟨-,aa,u⟩:=h.at rfl
 have hB:Blk w g aa 3:=u
 exact ⟨hc j _ (List.getElem?_eq_getElem hj),hB.frozen j⟩
/-! ### filigreeref11.marked -/
/-! ### filigreeref11.either, both -/
/-! ### filigreeref11.starts -/
def Ai0 (ls:List Ai) (k:Nat):List Int:=(List.range k).map (H8 ls)
/-! ### filigreeref11.span -/
def nB (d:Bb):Nat:=(Ag4 d).toNat
/-! ### filigreeref11.readE -/
/-! ### filigreeref11.writes -/
/-! ### filigreeref11.reads -/
/-! ### (graph).next: the least process of wires that can come -/
def Af5 (d:Bb):List Bool:=d.procs.map (·.clocked)
/-! ### (graph).order -/
def Ai4:Value->Nat
 | .slice _ m _=>m
 | _=>0
def Aib (G:List (List Int)) (clk:List Bool):List Int:=Aey G clk (G.length+1) (List.replicate G.length false) []
/-! ### plain: what is found of a design -/
def rsM (d:Bb):List (List Int):=(List.range d.procs.length).map fun (p:Nat)=>Nr d (p:Int)
def Z4 (d:Bb) (by':List Int):List (List Int):=Ah6 by' (Af5 d) (rsM d)
def Aiv (ls:List Ai) (by':List Int) (s:Nat):List Int:=(by'.drop (H8 ls s).toNat).take (H8 ls (s+1)-H8 ls s).toNat
def Ag5 (ls:List Ai) (by':List Int):Nat->List Ai->Bool
 | _,[]=>false
 | s,x::l=>if ((decide (x.kind=2)||decide (x.kind=3))&&(Aiv ls by' s).contains (-1))=true then true else Ag5 ls by' (s+1) l
def Ah7 (d:Bb):Nat->List C0->Bool
 | _,[]=>false
 | p,x::l=>if (!x.clocked&&!decide ((Il d (p:Int)).length=(Kk d (p:Int)).length))=true then true else Ah7 d (p+1) l
def Aiy (d:Bb):Int × List (List Int) × List Int :=
 if (Abs d).1≠0 then ((Abs d).1,[],[])
 else if Ag5 d.signals (Abs d).2 0 d.signals=true then (121,[],[])
 else if Ah7 d 0 d.procs=true then (122,[],[])
 else if (Aib (Z4 d (Abs d).2) (Af5 d)).length<Ahw (Af5 d) then (123,[],[])
 else (0,Z4 d (Abs d).2,Aib (Z4 d (Abs d).2) (Af5 d))
/-! ### filigreeref11.always -/
def Aiq (ls:List (List Int)) (k:Nat):List Int:=(ls.headD []).filter fun x=>(ls.take k).all fun m=>m.contains x
/-! ### filigreeref11.no, Bits -/
theorem Aet (d:Bb) (v:Value) (w:World) (h:Ck w v d) (aa:d.ok) (p:Int) :
  Calls Tryz.prog 22 #[v,.int .i64 p] w fun r w'=>r=.returned (.bool (!Cv d p))/\Ext w w':=by
 have HF:=Jh h
 obtain ⟨sv,pv,cv,rfl,hS,hP,hC⟩:=h
 have HX:=Jh (Ab w (.cells [sv,pv,cv].toArray 26))
 have HB:=Jh (Blk.new w [sv,pv,cv].toArray 26)
 have u:=Jh (Nw d _ _ (HF.out.ext HX.out) aa)
 have ai:=aa.procs
 obtain ⟨a0,b0,o0,c0,rfl,af,ag,ha,hr⟩:=hP.open
 obtain ⟨q,hq⟩:∃ q,By d=q:=⟨_,rfl⟩
 have HT:=Jh (show Cv d p=(decide (q=0)&&decide (0<=p)&&decide (p<d.procs.length)) by unfold Cv;rw [hq])
 rw [hq] at u
 obtain ⟨t,ht⟩:∃ t,Cv d p=t:=⟨_,rfl⟩
 rw [ht] at HT ⊢
 clear hS hP hC ha hr hq aa ht
 go_enter Tryz.func22,Tryz.ntmps22
 go_upto_region 1 with fail
 generalize w.alloc _=w1 at *
 by_cases hq:q=0
 ·have bq:(q != 0)=false:=by rw [bne_eq_false_iff_eq];exact hq
  by_cases hp:p<0
  ·obtain rfl:t=false:=by rw [HT.out];simp;omega
   clear hq
   go_wp2_with (first | ((with_reducible show Jl 26);refine Aa rfl 26 _ rfl rfl (HB.out.has) Aj rfl ?_) | (go_at_call 39;refine u.out.mono ?_;rintro r w2 ⟨rfl,j⟩;have y1:=(HB.out.ext j).has 1 _ rfl;rw [Nat.zero_add] at y1))
   go_ret
   exact ⟨rfl,HX.out.trans j⟩
  ·by_cases ab:p<d.procs.length
   ·obtain rfl:t=true:=by rw [HT.out];simp [hq];omega
    have ac:decide (p<0)=false:=decide_eq_false hp
    have ae:decide ((d.procs.length:Int)<=p)=false:=decide_eq_false (by omega)
    clear hq hp ab
    go_wp2_with (first | ((with_reducible show Jl 26);refine Aa rfl 26 _ rfl rfl (HB.out.has) Aj rfl ?_) | (go_at_call 39;refine u.out.mono ?_;rintro r w2 ⟨rfl,j⟩;have y1:=(HB.out.ext j).has 1 _ rfl;rw [Nat.zero_add] at y1))
    go_ret
    exact ⟨rfl,HX.out.trans j⟩
   ·obtain rfl:t=false:=by rw [HT.out];simp;omega
    clear hq
    go_wp2_with (first | ((with_reducible show Jl 26);refine Aa rfl 26 _ rfl rfl (HB.out.has) Aj rfl ?_) | (go_at_call 39;refine u.out.mono ?_;rintro r w2 ⟨rfl,j⟩;have y1:=(HB.out.ext j).has 1 _ rfl;rw [Nat.zero_add] at y1))
    go_ret
    exact ⟨rfl,HX.out.trans j⟩
 ·have bq:(q != 0)=true:=by rw [bne_iff_ne];exact hq
  obtain rfl:t=false:=by rw [HT.out];simp [hq]
  clear hq
  go_wp2_with (first | ((with_reducible show Jl 26);refine Aa rfl 26 _ rfl rfl (HB.out.has) Aj rfl ?_) | (go_at_call 39;refine u.out.mono ?_;rintro r w2 ⟨rfl,j⟩;have y1:=(HB.out.ext j).has 1 _ rfl;rw [Nat.zero_add] at y1))
  go_ret
  exact ⟨rfl,HX.out.trans j⟩
/-! ### filigreeref11.Reads, Writes, Always -/
theorem Zy {d:Bb} {dv j:Value} {u:List Nat} {ck:Bool} {w0:World} (ab:d.ok) (hc:By d=0) (hF:Ck w0 dv d) (aa:Us w0 j u) (ac:Fl d.signals u) (l:List T):Lf d dv j u ck w0 l :=
 have hP:∀ t:T,Lf d dv j u ck w0 t.l/\∀ r∈t.l,Lf d dv j u ck w0 r.l:=fun t =>
  T.ind (P:=fun t=>Lf d dv j u ck w0 t.l/\∀ r∈t.l,Lf d dv j u ck w0 r.l) (fun t ih=>⟨Aa5 ab hc hF aa ac t.l ih,fun r hr=>(ih r hr).1⟩) t
 Aa5 ab hc hF aa ac l fun s _=>hP s
theorem Acw {P:Program} {u:Array Oper} {o:Oper} {a:Act} {w:World} {K:Act->World->Prop} {Q:Exit->Act->World->Prop} {E:Prop} (hw:Region.wanted o (yielded u a.tmps)=true) (t:TypeId)
  (ho:o.op=.buildSlice t 0 #[]) {e:TypeId} {size bytes:Nat} (hT:H7 P t e size bytes)
  (h:K (a.put o.dst (.slice (some ⟨w.heap.size,0,none⟩) 0 0)) (w.alloc (.cells #[] e))):if Region.wanted o (yielded u a.tmps)=true then Oper.wp P o a w K Q else E:=by
 rw [if_pos hw]
 obtain ⟨ht,j,ab,aa⟩:=hT
 cases hi:P.info? e with
 | none=>simp [hi] at j
 | some i =>
  have hr:(Instr.buildSlice t 0 #[]).run P w=.ok (.slice (some ⟨w.heap.size,0,none⟩) 0 0) (w.alloc (.cells #[] e)):=by
   simp [Instr.buildSlice,run_underlying ht,sizeOf,typeInfo,hi,newRow,Instr.fill]
   congr 2
   apply Array.eq_empty_of_size_eq_zero;simp
  unfold Oper.wp execOp
  simp only [ho,List.map_toArray,List.map_nil,Sem.run_bind,hr,Result.andThen_ok,Sem.run_pure]
  exact h
theorem Acv {ab:Array Oper} {o:Oper} {a:Act} {w:World} {K:Act->World->Prop} {Q:Exit->Act->World->Prop} {E:Prop} (hw:Region.wanted o (yielded ab a.tmps)=true) (s x:Operand)
  (ho:o.op=.call { callee:=.builtin .append,args:=#[s,x],argTypes:=#[27,27] }) {N:Nat} {v:Value} {l:List Nat} (hs:a.eval s=v) (aa:Ax N v l w)
  {xv:Value} (hx:a.eval x=xv) {news:List Nat} (u:Us w xv news) (hn:l.length+news.length<=1099511627776) (j:N<=w.heap.size)
  (h:∀ v' w',Ax N v' (l++news) w'->w.grownBy w' v.ownBlock->K (a.put o.dst v') w'):if Region.wanted o (yielded ab a.tmps)=true then Oper.wp Tryz.prog o a w K Q else E:=by
 rw [if_pos hw]
 obtain ⟨v',w',hr,h1,h2⟩:=Y1 (ty:=o.type) aa u hn j
 unfold Oper.wp execOp
 simp only [ho,resolve,invoke,builtin,Sem.run_bind,Sem.run_pure,Result.andThen_ok,List.map_toArray,List.map_cons,List.map_nil,hs,hx]
 rw [hr]
 exact h v' w' h1 h2
theorem Ux (d:Bb) (v:Value) (vs:List Nat) (s:Value) (p:Int) (w:World) (hF:Ck w v d) (aa:d.ok) (hs:Us w s vs) (hp:Fp p) :
  Calls Tryz.prog 7 #[v,s,.int .i64 p] w fun r w'=>∃ u,r=.returned (.tuple #[u,.int .i64 (Iw d vs p).2])/\Us w' u (Iw d vs p).1/\Ext w w':=by
 have HF:=Jh (fun W (h:Ext w W)=>hF.ext h)
 have ab:=Jh (fun W (h:Ext w W)=>Aet d v W (hF.ext h) aa p)
 have ag:=Jh (fun W (h:Ext w W)=>Mv d v vs s W (hF.ext h) aa (hs.ext h))
 have bk:=Jh (fun W (h:Ext w W)=>hs.ext h)
 have ax:=Jh (fun hc W (h:Ext w W) hwv ck l=>Zy (ck:=ck) aa hc (hF.ext h) (hs.ext h) hwv l)
 have bo:=aa.procs
 obtain ⟨sv,pv,cv,rfl,hS,hP,hC⟩:=hF
 obtain ⟨ap,bp,op,cp,rfl,bq,br,a0,a4⟩:=hP.open
 obtain ⟨av,bv,ov,aj,rfl,-,-,-,-⟩:=hs.open
 have hX:=Ab w (.cells [sv,.slice ap d.procs.length cp,cv].toArray 26)
 have hD:=Blk.new w [sv,.slice ap d.procs.length cp,cv].toArray 26
 have ba:=Jh a0
 have be:=Jh (fun W (h:Ext w W)=>(a4.mono fun x _ b o hh=>Cy.ext' h hh:Rows 2 (Cy W) d.procs bp op))
 have ay:=Jh aa
 clear hS hP hC hs a0 a4 aa
 unfold Fp at hp
 obtain ⟨t,ht⟩:∃ t,Cv d p=t:=⟨_,rfl⟩
 have HT:=Jh ht
 rw [ht] at ab
 obtain ⟨q,hq⟩:∃ q,Cn d vs=q:=⟨_,rfl⟩
 have HQ:=Jh hq
 rw [hq] at ag
 clear ht hq
 go_enter Tryz.func7,Tryz.ntmps7
 go_upto_region 1 with fail
 generalize w.alloc _=w0 at *
 obtain ⟨Bd,ah⟩:∃ B,w.heap.size=B:=⟨_,rfl⟩
 rw [ah] at hD ⊢
 clear ah
 have HD:=Jh hD
 have HX:=Jh hX
 have d0:=hD.has
 clear hD hX
 have a2:t=false\/q=false->Iw d vs p=([],1):=fun h=>Ok fun hh=>by
  rcases h with rfl | rfl
  ·have:=HT.out
   have h1:=(Ms hh.1).2.1
   unfold Cv at this
   simp only [Bool.and_eq_false_iff,decide_eq_false_iff_not] at this
   rcases this with (h | h) | h
   ·exact h h1
   ·exact h hh.2.1
   ·exact h hh.2.2
  ·rw [HQ.out] at hh;cases hh.1
 have am:=Jh a2
 clear a2
 cases t
 case false =>
  have HR:=Jh (am.out (.inl rfl))
  go_wp2_with (first | ((with_reducible show Jl 26);refine Aa rfl 26 _ rfl rfl (d0) Aj rfl ?_) | (go_at_call 22;refine (ab.out w0 HX.out).mono ?_;rintro r w1 ⟨rfl,j⟩))
  refine bodyPost_ret (v:=.tuple #[.slice none 0 0,.int .i64 1]) (by simp [results,Tryz.results7,go_sem]) rfl ⟨_,by rw [HR.out],by rw [HR.out];exact (Ax.nil 0 _).cells,HX.out.trans j⟩
 cases q
 case false =>
  have HR:=Jh (am.out (.inr rfl))
  go_wp2_with (first | ((with_reducible show Jl 26);refine Aa rfl 26 _ rfl rfl (d0) Aj rfl ?_) | (go_at_call 22;refine (ab.out w0 HX.out).mono ?_;rintro r w1 ⟨rfl,j⟩;have d2:=(HD.out.ext j).has) | ((with_reducible show Jl 26);refine Aa rfl 26 _ rfl rfl (d2) Aj rfl ?_) | (go_at_call 23;refine (ag.out w1 (HX.out.trans j)).mono ?_;rintro r w2 ⟨rfl,af⟩))
  refine bodyPost_ret (v:=.tuple #[.slice none 0 0,.int .i64 1]) (by simp [results,Tryz.results7,go_sem]) rfl ⟨_,by rw [HR.out],by rw [HR.out];exact (Ax.nil 0 _).cells,HX.out.trans (j.trans af)⟩
 clear am
 have aw:=HT.out
 unfold Cv at aw
 simp only [Bool.and_eq_true,decide_eq_true_eq] at aw
 obtain ⟨⟨ao,ar⟩,hpl⟩:=aw
 obtain ⟨k,rfl⟩:=Int.eq_ofNat_of_zero_le ar
 have hk:k<d.procs.length:=by omega
 have HR:=Jh (Y0 (d:=d) (vs:=vs) (p:=(k:Int)) ⟨HQ.out,ar,hpl⟩)
 rw [Int.toNat_natCast,List.getElem?_eq_getElem hk,Kb (by rw [Int.toNat_natCast];exact hk)] at HR
 simp only [Option.map_some,Option.getD_some,Int.toNat_natCast] at HR
 obtain rfl:=ba.out (by omega)
 have an:=Jh (Mb HQ.out)
 have bs:vs.length<=1048576:=by
  have h1:=an.out.1
  have h2:=ay.out.signals
  omega
 obtain ⟨lv,a3,au⟩:=(be.out w (Below.refl _ _)).get (List.getElem?_eq_getElem hk)
 have bg:=Jh (L1 ay.out ao _ (List.getElem_mem hk))
 have bb:=Jh (fun W (h:Ext w W)=>ax.out ao W h an.out d.procs[k].clocked d.procs[k].l)
 clear ax ao ar hpl
 generalize d.procs[k]=pk at *
 have az:=Jh (fun W (h:Ext w W)=>a3.ext h)
 have bf:=Jh (fun W (h:Ext w W)=>au.ext h)
 obtain ⟨al,bl,ol,cl,rfl,-,-,-,-⟩:=au.open
 clear a3 au
 generalize hgc:pk.clocked=ck at *
 have bd:=Jh hgc
 clear hgc
 go_upto_region 3 with (first | ((with_reducible show Jl 26);refine Aa rfl 26 _ rfl rfl (d0) Aj rfl ?_) | (go_at_call 22;refine (ab.out w0 HX.out).mono ?_;rintro r w1 ⟨rfl,j⟩;have d2:=(HD.out.ext j).has) | ((with_reducible show Jl 26);refine Aa rfl 26 _ rfl rfl (d2) Aj rfl ?_) | (go_at_call 23;refine (ag.out w1 (HX.out.trans j)).mono ?_;rintro r w2 ⟨rfl,af⟩))
 have X2:=Jh (HX.out.trans (j.trans af))
 have ak:=Jh (HD.out.ext (j.trans af))
 clear j af d0 d2 HX HD ab ag
 refine Jg w2 fun hH=>?_
 try simp only [J]
 (refine Jt 0 (.agg [sv,.slice (some ⟨bp,op,none⟩) d.procs.length cp,cv].toArray) rfl (Ar rfl 26 _ rfl rfl (fun W hW=>(ak.out.ext hW).has) Aj rfl) hH ?_;try simp only [J])
 (refine Ji 1 (.slice av vs.length aj) rfl hH ?_;try simp only [J])
 (refine Ji 3 (.slice av vs.length aj) rfl hH ?_;try simp only [J])
 (refine Jk 5 (.pointer (some ⟨Bd,1,none⟩)) rfl hH ?_;try simp only [J])
 (refine Jt 6 (.slice (some ⟨bp,op,none⟩) d.procs.length cp) rfl (yif_load1 rfl (by intro W hW;have z:=(ak.out.ext hW).has 1 _ rfl;clear hW;go_simp)) hH ?_;try simp only [J])
 (refine Ji 7 (.int .i64 (k:Int)) rfl hH ?_;try simp only [J])
 (refine Jp 8 (.pointer (some ⟨bp,op+k*2,none⟩)) rfl hH ?_;try simp only [J])
 (refine Jk 9 (.pointer (some ⟨bp,op+k*2,none⟩)) rfl hH ?_;try simp only [J])
 (refine Jt 10 (.bool ck) rfl (yif_load1 rfl (by intro W hW;have z:=(az.out W (X2.out.trans hW)) 0 _ rfl;rw [bd.out,Nat.add_zero] at z;clear hW;go_simp)) hH ?_;try simp only [J])
 (refine Jk 11 (.pointer (some ⟨Bd,1,none⟩)) rfl hH ?_;try simp only [J])
 (refine Jt 12 (.slice (some ⟨bp,op,none⟩) d.procs.length cp) rfl (yif_load1 rfl (by intro W hW;have z:=(ak.out.ext hW).has 1 _ rfl;clear hW;go_simp)) hH ?_;try simp only [J])
 (refine Ji 13 (.int .i64 (k:Int)) rfl hH ?_;try simp only [J])
 (refine Jp 14 (.pointer (some ⟨bp,op+k*2,none⟩)) rfl hH ?_;try simp only [J])
 (refine Jk 15 (.pointer (some ⟨bp,op+k*2+1,none⟩)) rfl hH ?_;try simp only [J])
 (refine Jt 16 (.slice al pk.l.length cl) rfl (yif_load1 rfl (by intro W hW;have z:=(az.out W (X2.out.trans hW)) 1 _ rfl;clear hW;go_simp)) hH ?_;try simp only [J])
 (refine Jr 2 rfl fun K hK=>?_)
 refine Acw rfl _ rfl Kn ?_
 have a9:=Ab w2.drew (.cells #[] 35)
 have ac:=Ax.bs0 w2.drew (N:=w2.drew.heap.size) (Nat.le_refl _)
 have ae:w2.drew.heap.size<(w2.drew.alloc (.cells #[] 35)).heap.size:=by simp
 refine hK.out _ _ (hH.trans a9) (fun hH=>?_)
 clear hK K
 obtain ⟨g0,aq⟩:∃ g,w2.drew.heap.size=g:=⟨_,rfl⟩
 have bc:=Jh (show w2.heap.size<=g0 from aq ▸ Nat.le_refl _)
 rw [aq] at ac ae ⊢
 clear aq a9
 generalize w2.drew.alloc _=w3 at *
 try simp only [J]
 (refine Jr 4 rfl fun K hK=>?_)
 refine Acv rfl _ _ rfl rfl ac rfl (bk.out _ (X2.out.trans hH)) (by simp;omega) (Nat.le_of_lt ae) ?_
 intro v7 w7 ai a1
 rw [List.nil_append] at ai
 have a6:Ext w2 w7:=Below.grown hH a1 hH.size (fun k hk=>by cases hk;exact bc.out)
 have bi:=Jh ai.cells
 obtain ⟨a7,c7,rfl,-⟩:=ai.open
 refine hK.out _ _ a6 (fun hH=>?_)
 clear hK K a1 ac ae a6 ai
 try simp only [J]
 (refine Jr 17 rfl fun K hK=>?_)
 go_simp
 refine (bb.out w (Below.refl _ _) vs _ _ w7 (X2.out.trans hH) bi.out an.out (bf.out w7 (X2.out.trans hH)) bg.out).mono ?_
 rintro r w8 ⟨u8,rfl,a5,-,a8⟩
 have bj:=Jh a5
 refine hK.out _ _ (hH.trans a8) (fun hH=>?_)
 clear hK K a5 a8
 try simp only [J]
 (refine Ji 18 (u8) rfl hH ?_;try simp only [J])
 (refine Ji 19 (.int .i64 0) rfl hH ?_;try simp only [J])
 refine Jz ?_
 have bm:=Jh (X2.out.trans hH)
 clear hH
 go_wp2_with ((with_reducible show bodyPost _ _ _ _ _ _);refine Hid.out ?_)
 refine Jh ?_
 refine bodyPost_ret (v:=.tuple #[u8,.int .i64 0]) (by simp [results,Tryz.results7,go_sem]) rfl ⟨_,by rw [HR.out],by rw [HR.out];exact bj.out,bm.out⟩
end Go.Proofs.YtbliplladmamoaaGreat
