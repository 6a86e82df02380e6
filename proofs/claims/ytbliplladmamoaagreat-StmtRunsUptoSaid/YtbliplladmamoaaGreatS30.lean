/- Laws and walks that a claim of this seat leans on: Ref15, Ref16. -/
import Derived.Test.YtbliplladmamoaaGreatS29
import Derived.Test.YtbliplladmamoaaGreatS27
import Derived.Test.YtbliplladmamoaaGreatS00
set_option maxRecDepth 100000
set_option maxHeartbeats 8000000
set_option linter.all false
namespace Go.Proofs.YtbliplladmamoaaGreat
open Go.RowKit
theorem L4 (d:Bb):C4 d=((d.procs.all fun p=>p.l.all (An d.signals))&&(d.checks.all fun c=>A7 d.signals c.e)&&Cp [[]] d.signals):=by
 have e1:(d.procs.any fun p=>p.l.any fun t=>!An d.signals t) = !(d.procs.all fun p=>p.l.all (An d.signals)):=by
  rw [List.not_all_eq_any_not]
  congr 1;funext p
  rw [List.not_all_eq_any_not]
 have e2:(d.checks.any fun c=>!A7 d.signals c.e) = !(d.checks.all fun c=>A7 d.signals c.e):=by
  rw [List.not_all_eq_any_not]
 unfold C4
 first
  | (rw [e1,e2];cases (d.procs.all fun p=>p.l.all (An d.signals))<;>cases (d.checks.all fun c=>A7 d.signals c.e)<;>cases Cp [[]] d.signals<;>rfl)
  | (simp only [e1,e2];cases (d.procs.all fun p=>p.l.all (An d.signals))<;>cases (d.checks.all fun c=>A7 d.signals c.e)<;>cases Cp [[]] d.signals<;>rfl)
theorem Sq (d:Bb) (v:Value) (w:World) (h:Ck w v d) (au:d.wf) (hl:d.signals.length<=1048576) :
  Calls Tryz.prog 103 #[v] w fun r w'=>r=.returned (.bool (C4 d))/\Ext w w':=by
 obtain ⟨sv,pv,cv,rfl,hS,hP,hC⟩:=h
 have a6:=Jh (fun (p:C0) (hp:p∈d.procs) (s:Value) W (hx:Ext w W) (ht:Ts W s p.l)=>Gx d.signals p.l (fun t _=>Pb d.signals t) (au.procs p hp) sv s W (hS.ext hx) ht)
 have aw:=Jh (fun (c:Chk) (hc:c∈d.checks) (s:Value) W (hx:Ext w W) (he:Es W s c.e.l)=>Hj d.signals c.e sv _ W (hS.ext hx) ⟨s,rfl,he⟩ (au.checks c hc))
 have a5:=Jh (fun W (hx:Ext w W)=>Lk d.signals sv W (hS.ext hx) hl)
 have HM:=Jh (L4 d)
 have a7:=Jh hS
 obtain ⟨xs,bs,os,af,e1,-,-,-,-⟩:=hS.open
 obtain ⟨ap,bp,op,am,e2,a8,a9,ay,az⟩:=hP.open
 obtain ⟨ac,bc,oc,al,e3,ba,bb,ah,a0⟩:=hC.open
 subst e1;subst e2;subst e3
 have a2:=Jh az
 have a1:=Jh ay
 have a4:=Jh a0
 have a3:=Jh ah
 have hx:=Ab w (.cells [.slice xs d.signals.length af,.slice ap d.procs.length am,.slice ac d.checks.length al].toArray 26)
 have ax:=Has.alloc w [.slice xs d.signals.length af,.slice ap d.procs.length am,.slice ac d.checks.length al] 26
 clear hS hP hC az ay a0 ah au
 go_enter Tryz.func103,Tryz.ntmps103
 go_upto_region 1 with fail
 generalize w.alloc _=w0 at *
 have HX:=Jh hx
 have HB:=Jh ax
 clear hx ax
 go_wp2_with fail
 go_loopw [3] (fun i wr=>∃ k:Nat,k<=d.procs.length/\i=.int .i64 k/\((d.procs.take k).all fun p=>p.l.all (An d.signals))=true/\Ext w0 wr) (fun i _=>d.procs.length-(intOf i).toNat)
 case atStart=>exact ⟨0,Nat.zero_le _,rfl,rfl,Below.refl _ _⟩
 case round =>
  obtain ⟨k,hk,rfl,j,hB⟩:=hrel
  have aq:=Jh j
  have ab:=Jh hB
  have y1:=(HB.out.ext hB) 1 _ rfl
  clear j hB
  by_cases ae:k<d.procs.length
  ·obtain ⟨sp,q1,q2⟩:=Hg.get (a2.out.mono fun x _ b o h=>Cy.ext' (HX.out.trans ab.out) h) ae
   obtain rfl:=a1.out (by omega)
   have aa:=List.getElem_mem ae
   have HC:=Jh (fun W (hx:Ext wr W)=>a6.out _ aa sp W (HX.out.trans (ab.out.trans hx)) (q2.ext hx))
   have aj:=Jh (Ba d.procs k ae)
   obtain ⟨p,hp⟩:∃ p,d.procs[k]=p:=⟨_,rfl⟩
   rw [hp] at HC aj q1 aa
   have ar:=Jh q1
   obtain ⟨c,hc⟩:∃ c,p.l.all (An d.signals)=c:=⟨_,rfl⟩
   rw [hc] at HC
   have ai:=Jh hc
   clear hp hc q1 q2
   go_upto_region 4 with fail
   clear y1
   refine Jg wr fun hH=>?_
   try simp only [J]
   (refine Jt 0 _ rfl (yif_load1 rfl (by intro W hW;clear hW;go_simp;rfl)) hH ?_;try simp only [J])
   (refine Jt 1 (.slice xs d.signals.length af) rfl (yif_load1 rfl (by intro W hW;have y7:=(HB.out.ext (ab.out.trans hW)) 0 _ rfl;rw [Nat.add_zero] at y7;clear hW;go_simp)) hH ?_;try simp only [J])
   (refine Jt 2 _ rfl (yif_load1 rfl (by intro W hW;clear hW;go_simp;rfl)) hH ?_;try simp only [J])
   (refine Jt 3 (.slice (some ⟨bp,op,Option.none⟩) d.procs.length am) rfl (yif_load1 rfl (by intro W hW;have y7:=(HB.out.ext (ab.out.trans hW)) 1 _ rfl;clear hW;go_simp)) hH ?_;try simp only [J])
   (refine Ji 4 _ rfl hH ?_;try simp only [J])
   (refine Jp 5 (.pointer (some ⟨bp,op+k*2,Option.none⟩)) rfl hH ?_;try simp only [J])
   (refine Jt 6 _ rfl (yif_load1 rfl (by intro W hW;clear hW;go_simp;rfl)) hH ?_;try simp only [J])
   (refine Jt 7 (sp) rfl (yif_load1 rfl (by intro W hW;have y0:W.cell? ⟨bp,op+k*2+1,none⟩=some sp:=(ar.out.ext hW) 1 _ rfl;clear hW;go_simp)) hH ?_;try simp only [J])
   refine Jr 8 rfl fun K hK=>?_
   go_simp
   refine (HC.out _ hH).mono ?_
   rintro r w1 ⟨rfl,an⟩
   refine hK.out _ _ (hH.trans an) (fun hH=>?_)
   clear hK K
   try simp only [J]
   (refine Jk 9 (.bool (!c)) rfl hH ?_;try simp only [J])
   refine Jz ?_
   cases c
   ·have HF:=Jh (show C4 d=false by
     rw [HM.out]
     have:(d.procs.all fun p=>p.l.all (An d.signals))=false:=by rw [List.all_eq_false];exact ⟨p,aa,by rw [ai.out];decide⟩
     rw [this];rfl)
    go_wp2_with fail
    go_ret
    exact ⟨Af HF.out.symm,HX.out.trans (ab.out.trans hH)⟩
   ·go_wp2_with fail
    go_roundw
    case rel=>exact ⟨k+1,by omega,by go_num,by rw [aj.out,List.all_append,aq.out];simp [ai.out],ab.out.trans hH⟩
    case measure=>simp [intOf];omega
  ·obtain rfl:k=d.procs.length:=by omega
   have j:=aq.out
   rw [List.take_length] at j
   have av:=Jh j
   have ao:=Jh (HB.out.ext ab.out)
   have ak:=Jh (HX.out.trans ab.out)
   clear j
   obtain ⟨wo,rfl⟩:∃ x,x=wr:=⟨_,rfl⟩
   go_wp2_with fail
   clear y1
   go_loopw [4] (fun i wr=>∃ k:Nat,k<=d.checks.length/\i=.int .i64 k/\((d.checks.take k).all fun c=>A7 d.signals c.e)=true/\Ext wo wr) (fun i _=>d.checks.length-(intOf i).toNat)
   case atStart=>exact ⟨0,Nat.zero_le _,rfl,rfl,Below.refl _ _⟩
   case round =>
    obtain ⟨k,hk,rfl,j,hB⟩:=hrel
    have ag:=Jh j
    have u:=Jh hB
    have y2:=(ao.out.ext hB) 2 _ rfl
    clear j hB
    by_cases ae:k<d.checks.length
    ·obtain ⟨sp,q1,q2⟩:=Nx.get (a4.out.mono fun x _ b o h=>Dr.ext' (ak.out.trans u.out) h) ae
     obtain rfl:=a3.out (by omega)
     have aa:=List.getElem_mem ae
     have HC:=Jh (fun W (hx:Ext wr W)=>aw.out _ aa sp W (ak.out.trans (u.out.trans hx)) (q2.ext hx))
     have aj:=Jh (Ba d.checks k ae)
     obtain ⟨p,hp⟩:∃ p,d.checks[k]=p:=⟨_,rfl⟩
     rw [hp] at HC aj q1 aa
     have ar:=Jh q1.tail
     obtain ⟨c,hc⟩:∃ c,A7 d.signals p.e=c:=⟨_,rfl⟩
     rw [hc] at HC
     have ai:=Jh hc
     clear hp hc q1 q2
     go_upto_region 9 with fail
     clear y2
     refine Jg wr fun hH=>?_
     try simp only [J]
     (refine Jt 0 _ rfl (yif_load1 rfl (by intro W hW;clear hW;go_simp;rfl)) hH ?_;try simp only [J])
     (refine Jt 1 (.slice xs d.signals.length af) rfl (yif_load1 rfl (by intro W hW;have y7:=(ao.out.ext (u.out.trans hW)) 0 _ rfl;rw [Nat.add_zero] at y7;clear hW;go_simp)) hH ?_;try simp only [J])
     (refine Jt 2 _ rfl (yif_load1 rfl (by intro W hW;clear hW;go_simp;rfl)) hH ?_;try simp only [J])
     (refine Jt 3 (.slice (some ⟨bc,oc,Option.none⟩) d.checks.length al) rfl (yif_load1 rfl (by intro W hW;have y7:=(ao.out.ext (u.out.trans hW)) 2 _ rfl;clear hW;go_simp)) hH ?_;try simp only [J])
     (refine Ji 4 _ rfl hH ?_;try simp only [J])
     (refine Jp 5 (.pointer (some ⟨bc,oc+k*9,Option.none⟩)) rfl hH ?_;try simp only [J])
     (refine Jk 6 (.pointer (some ⟨bc,oc+k*9+1,Option.none⟩)) rfl hH ?_;try simp only [J])
     (refine Jt 7 (.agg (p.e.cells sp).toArray) rfl (Ar rfl 40 _ rfl rfl (fun W hW=>ar.out.ext hW) Ah rfl) hH ?_;try simp only [J])
     refine Jr 8 rfl fun K hK=>?_
     go_simp
     refine (HC.out _ hH).mono ?_
     rintro r w1 ⟨rfl,an⟩
     refine hK.out _ _ (hH.trans an) (fun hH=>?_)
     clear hK K
     try simp only [J]
     (refine Jk 9 (.bool (!c)) rfl hH ?_;try simp only [J])
     refine Jz ?_
     cases c
     ·have HF:=Jh (show C4 d=false by
       rw [HM.out]
       have:(d.checks.all fun c=>A7 d.signals c.e)=false:=by rw [List.all_eq_false];exact ⟨p,aa,by rw [ai.out];decide⟩
       rw [this,Bool.and_false];rfl)
      go_wp2_with fail
      go_ret
      exact ⟨Af HF.out.symm,ak.out.trans (u.out.trans hH)⟩
     ·go_wp2_with fail
      go_roundw
      case rel=>exact ⟨k+1,by omega,by go_num,by rw [aj.out,List.all_append,ag.out];simp [ai.out],u.out.trans hH⟩
      case measure=>simp [intOf];omega
    ·obtain rfl:k=d.checks.length:=by omega
     have j:=ag.out
     rw [List.take_length] at j
     have HF:=Jh (show C4 d=Cp [[]] d.signals by rw [HM.out,av.out,j];simp)
     have y0:=(ao.out.ext u.out) 0 _ rfl
     rw [Nat.add_zero] at y0
     clear j
     go_wp2_with (first | (go_at_call 140;refine (a5.out _ (ak.out.trans u.out)).mono ?_;rintro r w1 ⟨rfl,an⟩))
     go_ret
     exact ⟨Af HF.out.symm,ak.out.trans (u.out.trans an)⟩
theorem Bi.slice {α:Type} {V:World->List Value->α->Prop} {e:TypeId} {size N:Nat} {v:Value} {r:List α} {w:World} (h:Bi V e size N v r w):∃ a n c,v=.slice a n c:=by
 obtain ⟨a,c,h,-⟩:=h.open;exact ⟨a,_,c,h⟩
theorem Xk (d:Bb) (v:Value) (w:World) (h:Ck w v d) (dp:d.wf) (hb:C3 d<=1048576) (hl:d.signals.length<=1048576) (eg:d.procs.length<=1048576) (ef:d.checks.length<=1048576) :
  Calls Tryz.prog 74 #[v] w (Sz w (Dp d)):=by
 have HF:=Jh h
 have b6:=Jh (fun W (hx:Ext w W)=>U7 d v W (h.ext hx) hb hl)
 have b2:=Jh (fun W (hx:Ext w W)=>Sq d v W (h.ext hx) dp hl)
 have c8:=Jh dp
 have dw:=Jh hb
 have br:=Jh (show Dp d=_ from by unfold Dp;rfl)
 obtain ⟨sv,pv,cv,rfl,hS,hP,hC⟩:=h
 have c7:=Jh hS
 obtain ⟨xs,bs,os,u,e1,-,-,-,-⟩:=hS.open
 obtain ⟨ap,bp,op,a6,e2,fj,fk,b1,ej⟩:=hP.open
 obtain ⟨ac,bc,oc,bf,e3,fl,fm,ek,em⟩:=hC.open
 subst e1;subst e2;subst e3
 have dx:=Jh ej
 have es:=Jh b1
 have dy:=Jh em
 have et:=Jh ek
 have dv:=Jh eg
 have du:=Jh ef
 clear hS hP hC ej b1 em ek dp hb hl eg ef
 have hx:=(Ab w (.cells [.slice xs d.signals.length u,.slice ap d.procs.length a6,.slice ac d.checks.length bf].toArray 26)).alloc (.cells Fk.toArray 26)
 have eb:=(Blk.new w [.slice xs d.signals.length u,.slice ap d.procs.length a6,.slice ac d.checks.length bf].toArray 26).alloc (.cells Fk.toArray 26)
 have cw:=Blk.new (w.alloc (.cells [.slice xs d.signals.length u,.slice ap d.procs.length a6,.slice ac d.checks.length bf].toArray 26)) Fk.toArray 26
 simp only [World.size_alloc] at cw
 go_enter Tryz.func74,Tryz.ntmps74
 go_upto_region 1 with fail
 generalize (w.alloc _).alloc _=w0 at *
 have fb:w.heap.size+1<w0.heap.size:=cw.lt
 have aq:=Ab w0 (.cells Fk.toArray 26)
 have ec:=Blk.new w0 Fk.toArray 26
 have fn:w0.heap.size<(w0.alloc (.cells Fk.toArray 26)).heap.size:=by simp
 go_upto_region 2 with (first | ((with_reducible show Js 26);refine Ad rfl 26 _ _ rfl rfl (by first | rfl | simp) rfl Aj (rfl) rfl (by rfl) ?_))
 generalize w0.alloc _=w1 at *
 have K1:=Jh (eb.ext aq)
 have K2:=Jh (cw.ext aq)
 have K4:=Jh ec
 have bi:=Jh (hx.trans aq)
 clear hx eb cw aq ec
 obtain ⟨f1,dk⟩:∃ f,Lb d=f:=⟨_,rfl⟩
 obtain ⟨f2,dl⟩:∃ f,C4 d=f:=⟨_,rfl⟩
 obtain ⟨f3,ee⟩:∃ f,(d.signals.any fun s=>!holds s.w s.init)=f:=⟨_,rfl⟩
 rw [dk] at b6
 rw [dl] at b2
 have b7:=Jh dk
 have b4:=Jh dl
 have cq:=Jh ee
 clear dk dl ee
 cases f1
 ·have HE:=Jh (show Dp d=.error 2 by rw [br.out,if_pos b7.out])
  go_wp2_with (first | ((with_reducible show Jl 26);refine Aa rfl 26 _ rfl rfl (K1.out.has) Aj rfl ?_) | (go_at_call 102;refine (b6.out _ bi.out).mono ?_;rintro r w2 ⟨rfl,aw⟩;have KK:=K4.out.ext aw;refine Hid.out ?_))
  refine Jh ?_
  go_wp2_with (first | ((with_reducible show Jl 26);refine Aa rfl 26 _ rfl rfl (KK.has) Aj rfl ?_) | ((with_reducible show Js 26);have bb:=K2.out.ext aw;refine Ac rfl 26 _ _ rfl bb rfl (cs:=Fk) rfl Aj rfl rfl rfl ?_;intro w9 a9 a4) | ((with_reducible show bodyPost _ _ _ _ _ _);refine Hid.out ?_))
  refine Jh ?_
  refine Ak rfl rfl rfl a9.has Aj rfl rfl (.inl ⟨2,HE.out,by decide,rfl,(bi.out.trans aw).grown a4 (by omega)⟩)
 cases f2
 ·have HE:=Jh (show Dp d=.error 1 by rw [br.out,if_neg (by rw [b7.out];decide),if_pos b4.out])
  go_upto_region 4 with (first | ((with_reducible show Jl 26);refine Aa rfl 26 _ rfl rfl (K1.out.has) Aj rfl ?_) | (go_at_call 102;refine (b6.out _ bi.out).mono ?_;rintro r w2 ⟨rfl,aw⟩))
  have eh:=Jh (K1.out.ext aw)
  go_upto_region 5 with (first | ((with_reducible show Jl 26);refine Aa rfl 26 _ rfl rfl (eh.out.has) Aj rfl ?_) | (go_at_call 103;refine (b2.out _ (bi.out.trans aw)).mono ?_;rintro r w3 ⟨rfl,ah⟩))
  have KK:=K4.out.ext (aw.trans ah)
  go_wp2_with (first | ((with_reducible show Jl 26);refine Aa rfl 26 _ rfl rfl (KK.has) Aj rfl ?_) | ((with_reducible show Js 26);have bb:=K2.out.ext (aw.trans ah);refine Ac rfl 26 _ _ rfl bb rfl (cs:=Fk) rfl Aj rfl rfl rfl ?_;intro w9 a9 a4) | ((with_reducible show bodyPost _ _ _ _ _ _);refine Hid.out ?_))
  refine Jh ?_
  refine Ak rfl rfl rfl a9.has Aj rfl rfl (.inl ⟨1,HE.out,by decide,rfl,(bi.out.trans (aw.trans ah)).grown a4 (by omega)⟩)
 have co:Cp [[]] d.signals=true:=by
  have:=b4.out
  rw [L4] at this
  simp only [Bool.and_eq_true] at this
  exact this.2
 have c2:=Vy _ _ co
 have eo:∀ x∈d.signals,0<=x.w:=by
  intro x hx
  obtain ⟨k,hk,rfl⟩:=List.getElem_of_mem hx
  have:=((Rq d.signals [[]]).1 co k hk).2.1
  unfold Iy at this
  simp only [Bool.and_eq_true,decide_eq_true_eq] at this
  omega
 have cr:=Jh (fun W (hx:Ext w W)=>Vb d.signals c8.out.signals eo _ W (c7.out.ext hx))
 rw [cq.out] at cr
 have ch:=Jh c2
 clear co c2 eo
 go_upto_region 4 with (first | ((with_reducible show Jl 26);refine Aa rfl 26 _ rfl rfl (K1.out.has) Aj rfl ?_) | (go_at_call 102;refine (b6.out _ bi.out).mono ?_;rintro r w2 ⟨rfl,aw⟩))
 have c9:=Jh (K1.out.ext aw)
 go_upto_region 6 with (first | ((with_reducible show Jl 26);refine Aa rfl 26 _ rfl rfl (c9.out.has) Aj rfl ?_) | (go_at_call 103;refine (b2.out _ (bi.out.trans aw)).mono ?_;rintro r w3 ⟨rfl,ah⟩))
 have da:=Jh (c9.out.ext ah)
 have cd:=Jh (bi.out.trans (aw.trans ah))
 have dc:=Jh (K2.out.ext (aw.trans ah))
 have dd:=Jh (K4.out.ext (aw.trans ah))
 have e8:=(aw.trans ah).size
 have y0:=da.out.has 0 _ rfl
 rw [Nat.add_zero] at y0
 clear aw ah c9 b6 b2 K1 K2 K4 bi
 cases f3
 rotate_left
 ·have HE:=Jh (show Dp d=.error 92 by rw [br.out,if_neg (by rw [b7.out];decide),if_neg (by rw [b4.out];decide),if_pos cq.out])
  go_upto_region 7 with (first | (go_at_call 104;refine (cr.out _ cd.out).mono ?_;rintro r w4 ⟨rfl,aq⟩))
  have KK:=dd.out.ext aq
  go_wp2_with (first | ((with_reducible show Jl 26);refine Aa rfl 26 _ rfl rfl (KK.has) Aj rfl ?_) | ((with_reducible show Js 26);have bb:=dc.out.ext aq;refine Ac rfl 26 _ _ rfl bb rfl (cs:=Fk) rfl Aj rfl rfl rfl ?_;intro w9 a9 a4) | ((with_reducible show bodyPost _ _ _ _ _ _);refine Hid.out ?_))
  refine Jh ?_
  refine Ak rfl rfl rfl a9.has Aj rfl rfl (.inl ⟨92,HE.out,by decide,rfl,(cd.out.trans aq).grown a4 (by omega)⟩)
 go_upto_region 8 with (first | (go_at_call 104;refine (cr.out _ cd.out).mono ?_;rintro r w4 ⟨rfl,aq⟩))
 have db:=Jh (da.out.ext aq)
 have d3:=Jh (dc.out.ext aq)
 have d4:=Jh (dd.out.ext aq)
 have d1:=Jh (cd.out.trans aq)
 have fe:=aq.size
 have y1:=db.out.has 0 _ rfl
 rw [Nat.add_zero] at y1
 clear aq y0 cr cd da dc dd
 have cp:=Ab w4 (.cells [.slice xs d.signals.length u,.slice Option.none 0 0,.slice Option.none 0 0].toArray 26)
 have di:=Blk.new w4 [.slice xs d.signals.length u,.slice Option.none 0 0,.slice Option.none 0 0].toArray 26
 have fo:w4.heap.size<(w4.alloc (.cells [.slice xs d.signals.length u,.slice Option.none 0 0,.slice Option.none 0 0].toArray 26)).heap.size:=by simp
 go_upto_region 9 with (first | ((with_reducible show Js 26);refine Ad rfl 26 _ _ rfl rfl (by first | rfl | simp) rfl Aj (rfl) rfl (by rfl) ?_))
 obtain ⟨B5,e5⟩:∃ B,w4.heap.size=B:=⟨_,rfl⟩
 rw [e5] at di ⊢
 have e9:w0.heap.size<B5:=by omega
 have fa:B5<(w4.alloc (.cells [.slice xs d.signals.length u,.slice Option.none 0 0,.slice Option.none 0 0].toArray 26)).heap.size:=by omega
 generalize w4.alloc _=wA at *
 have ew:=Jh (db.out.ext cp)
 have ex:=Jh (d3.out.ext cp)
 have ey:=Jh (d4.out.ext cp)
 have ez:=Jh di
 have cf:=Jh (d1.out.trans cp)
 clear cp di y1 db d3 d4 d1
 have c6:=Jh (show Dp d=(if (Fc (Fj d.signals 0 d.procs).2 d.checks).2≠0 then .error (Fc (Fj d.signals 0 d.procs).2 d.checks).2 else .ok ⟨d.signals,(Fj d.signals 0 d.procs).1,(Fc (Fj d.signals 0 d.procs).2 d.checks).1⟩) by
  rw [br.out,if_neg (by rw [b7.out];decide),if_neg (by rw [b4.out];decide),if_neg (by rw [cq.out];decide)])
 have bu:=b4.out
 rw [L4] at bu
 simp only [Bool.and_eq_true] at bu
 have d0:=Jh (List.all_eq_true.1 bu.1.1)
 have dh:=Jh (List.all_eq_true.1 bu.1.2)
 have dr:=Jh (Fr.refl (fun b=>b=B5\/wA.heap.size<=b) wA)
 clear bu br b7 b4 cq
 go_wp2_with fail
 go_loopw [6,7,8] (fun i _ _ wr=>∃ (k:Nat) (vv:Value),k<=d.procs.length/\i=.int .i64 k/\(Fj d.signals 0 (d.procs.take k)).2=0/\Bi C9 48 2 wA.heap.size vv (Fj d.signals 0 (d.procs.take k)).1 wr/\Blk wr B5 [.slice xs d.signals.length u,vv,.slice Option.none 0 0].toArray 26/\Fr (fun b=>b=B5\/wA.heap.size<=b) wA wr) (fun i _ _ _=>d.procs.length-(intOf i).toNat)
 case atStart=>exact ⟨0,_,Nat.zero_le _,rfl,rfl,Bi.nil,ez.out,dr.out⟩
 case round =>
  obtain ⟨k,vv,hk,rfl,hz,af,cj,ay⟩:=hrel
  have eq:=Jh ay
  have b5:=Jh (ay.blk ew.out (by rintro (h | h)<;>omega))
  have d8:=Jh (ay.blk ex.out (by rintro (h | h)<;>omega))
  have d9:=Jh (ay.blk ey.out (by rintro (h | h)<;>omega))
  have ea:=Jh cj
  have cg:=Jh (ay.ext cf.out (by rintro x (h | h)<;>omega))
  have fg:=ay.size
  have HZ:=Jh hz
  have a2:=Jh af
  have y1:=b5.out.has 1 _ rfl
  clear ay cj
  by_cases bk:k<d.procs.length
  ·obtain ⟨sp,q1,q2⟩:=Hg.get (dx.out.mono fun x _ b o h=>Cy.ext' cg.out h) bk
   obtain rfl:=es.out (by omega)
   have ar:∃ s,Has w bp (op+k*2) (d.procs[k].cells s)/\Has wr bp (op+k*2) (d.procs[k].cells s)/\s=sp:=by
    obtain ⟨s,g1,-⟩:=Hg.get dx.out bk
    have g2:=g1.ext cg.out
    have e:some s=some sp:=(g2 1 _ rfl).symm.trans (q1 1 _ rfl)
    injection e with e
    exact ⟨s,g1,g2,e⟩
   obtain ⟨dq,ar,-,bv⟩:=ar
   rw [bv] at ar
   clear bv
   have a3:=List.getElem_mem bk
   have bm:=fun ck=>Y7 d.signals ch.out ck d.procs[k].l (d0.out _ a3) (c8.out.procs _ a3) (by
    have h1:=Bf (fun p:C0=>Ap Aq p.l) d.procs _ a3
    have h2:=dw.out
    unfold C3 at h2
    try simp only at h1
    omega)
   have ax:=Ui d.signals 0 d.procs k bk
   have aa:=Ac1 d.signals 0 d.procs (k+1)
   rw [hz] at ax
   rw [ax] at aa
   have bd:(Fj d.signals 0 (d.procs.take k)).1.length=k:=by rw [P3,List.length_take];omega
   obtain ⟨rr,cl⟩:∃ rr,(Fj d.signals 0 (d.procs.take k)).1=rr:=⟨_,rfl⟩
   rw [cl] at af ax bd
   replace a2:=Jh af
   obtain ⟨p,hp⟩:∃ p,d.procs[k]=p:=⟨_,rfl⟩
   rw [hp] at bm ax aa q1 q2 ar
   obtain ⟨ck,pl⟩:=p
   simp only at bm ax aa q2
   obtain ⟨q,hq⟩:∃ q,Cm d.signals ck 0 0 pl=q:=⟨_,rfl⟩
   rw [hq] at ax aa
   have HC:=Jh (fun W (hx:Ext wr W)=>(by have h:=bm ck (.slice xs d.signals.length u) sp W (c7.out.ext (cg.out.trans hx)) (q2.ext hx);rw [hq] at h;exact h:Calls Tryz.prog 105 #[.slice xs d.signals.length u,sp,.bool ck] W (N4 W q)))
   have bg:=Jh ax
   have b0:=Jh aa
   have b9:=Jh bd
   have cb:=Jh q1
   have a0:=Jh ar
   clear ar hz af ax aa bd cl hp hq bm q1 q2 a3
   go_upto_region 12 with fail
   clear y1
   refine Jg wr fun hH=>?_
   try simp only [J]
   (refine Jt 0 _ rfl (yif_load1 rfl (by intro W hW;clear hW;go_simp;rfl)) hH ?_;try simp only [J])
   (refine Jt 1 (.slice xs d.signals.length u) rfl (yif_load1 rfl (by intro W hW;have y7:=(b5.out.ext hW).has 0 _ rfl;rw [Nat.add_zero] at y7;clear hW;go_simp)) hH ?_;try simp only [J])
   (refine Jt 2 _ rfl (yif_load1 rfl (by intro W hW;clear hW;go_simp;rfl)) hH ?_;try simp only [J])
   (refine Jt 3 (.slice (some ⟨bp,op,Option.none⟩) d.procs.length a6) rfl (yif_load1 rfl (by intro W hW;have y7:=(b5.out.ext hW).has 1 _ rfl;clear hW;go_simp)) hH ?_;try simp only [J])
   (refine Ji 4 _ rfl hH ?_;try simp only [J])
   (refine Jp 5 (.pointer (some ⟨bp,op+k*2,Option.none⟩)) rfl hH ?_;try simp only [J])
   (refine Jt 6 _ rfl (yif_load1 rfl (by intro W hW;clear hW;go_simp;rfl)) hH ?_;try simp only [J])
   (refine Jt 7 (sp) rfl (yif_load1 rfl (by intro W hW;have y0:W.cell? ⟨bp,op+k*2+1,none⟩=some sp:=(cb.out.ext hW) 1 _ rfl;clear hW;go_simp)) hH ?_;try simp only [J])
   (refine Jt 8 _ rfl (yif_load1 rfl (by intro W hW;clear hW;go_simp;rfl)) hH ?_;try simp only [J])
   (refine Jt 9 (.slice (some ⟨bp,op,Option.none⟩) d.procs.length a6) rfl (yif_load1 rfl (by intro W hW;have y7:=(b5.out.ext hW).has 1 _ rfl;clear hW;go_simp)) hH ?_;try simp only [J])
   (refine Ji 10 _ rfl hH ?_;try simp only [J])
   (refine Jp 11 (.pointer (some ⟨bp,op+k*2,Option.none⟩)) rfl hH ?_;try simp only [J])
   (refine Jt 12 _ rfl (yif_load1 rfl (by intro W hW;clear hW;go_simp;rfl)) hH ?_;try simp only [J])
   (refine Jt 13 (.bool ck) rfl (yif_load1 rfl (by intro W hW;have y0:W.cell? ⟨bp,op+k*2,none⟩=some (.bool ck):=(cb.out.ext hW) 0 _ rfl;clear hW;go_simp)) hH ?_;try simp only [J])
   refine Jr 14 rfl fun K hK=>?_
   go_simp
   refine (HC.out _ hH).mono ?_
   intro r w3 b1
   obtain ⟨m,g,rfl,hg,ah,bl,c0⟩:=b1
   replace hg:=Jh hg
   refine hK.out _ _ (hH.trans ah) (fun hH=>?_)
   clear hK K
   try simp only [J]
   (refine Ji 15 _ rfl hH ?_;try simp only [J])
   (refine Jk 16 (m) rfl hH ?_;try simp only [J])
   (refine Jk 17 (.int .i64 g) rfl hH ?_;try simp only [J])
   (refine Ji 18 _ rfl hH ?_;try simp only [J])
   (refine Ji 19 _ rfl hH ?_;try simp only [J])
   refine Jz ?_
   have e8:=hH.size
   by_cases be:g=0
   rotate_left
   ·have g1:(g != 0)=true:=by rw [bne_iff_ne];exact be
    have HE:=Jh (show Dp d=.error g by
     have h1:=b0.out (show q.2≠0 by rw [<-hg.out];exact be)
     rw [c6.out,h1]
     have h2:(Fc q.2 d.checks).2=q.2:=Afl _ _ (by rw [<-hg.out];exact be)
     rw [h2,<-hg.out,if_pos be])
    have er:=Jh be
    have KK:=d9.out.ext hH
    clear bl c0 hg be
    go_wp2_with (first | ((with_reducible show Jl 26);refine Aa rfl 26 _ rfl rfl (KK.has) Aj rfl ?_) | ((with_reducible show Js 26);have bb:=d8.out.ext hH;refine Ac rfl 26 _ _ rfl bb rfl (cs:=Fk) rfl Aj rfl rfl rfl ?_;intro w9 a9 a4) | ((with_reducible show bodyPost _ _ _ _ _ _);refine Hid.out ?_))
    refine Jh ?_
    refine Ak rfl rfl rfl a9.has Aj rfl rfl (.inl ⟨g,HE.out,er.out,rfl,(cg.out.trans hH).grown a4 (by omega)⟩)
   ·have HG:=Jh (hg.out.symm.trans be)
    obtain ⟨am,nm,cm,hm⟩:=(bl be).slice
    subst hm
    have c5:=Jh (bl be)
    subst be
    have c3:=Jh (show FV C9 wr.heap.size w3 [.bool ck,.slice am nm cm] ⟨ck,q.1⟩ from fun W hW=>⟨_,rfl,c5.out.sl (V:=VT) (At:=TAt) (fun _ _ _ _ _ h hv=>VT.at h hv) hW⟩)
    have df:=Jh (ea.out.ext hH)
    have de:=Jh (b5.out.ext hH)
    have cc:=Jh (cb.out.ext hH)
    have bh:=Jh (a2.out.since (Al.of_ext hH))
    have b8:=Jh (eq.out.trans (Fr.of_ext hH))
    have a1:=Jh (fun j (hj:vv.ownBlock=some j)=>a2.out.lt j hj)
    clear bl c0 hg
    go_upto_region 15 with fail
    refine wp_region_held_drew (S:=fun W=>Blk W w.heap.size [.slice xs d.signals.length u,.slice (some ⟨bp,op,Option.none⟩) d.procs.length a6,.slice ac d.checks.length bf].toArray 26/\Has W bp (op+k*2) (C0.cells ⟨ck,pl⟩ sp)) (by kernel_rfl) ⟨de.out.drew,cc.out.drew⟩ (fun hH=>?_)
    have cn:w3.drew.heap.size=w3.heap.size:=rfl
    have bj:=Jh (show Blk w3.drew B5 [.slice xs d.signals.length u,vv,.slice Option.none 0 0].toArray 26 from df.out)
    have a7:=Jh (bh.out.since (Al.of_ext (Below.drew (Below.refl _ _):Ext w3 w3.drew)))
    have bo:=Jh (b8.out.trans (Fr.of_ext (Below.drew (Below.refl _ _):Ext w3 w3.drew)))
    have bq:=Jh (c3.out.ext (Below.drew (Below.refl _ _):Ext w3 w3.drew))
    generalize w3.drew=wd at *
    try simp only [J]
    (refine Ji 0 _ rfl hH ?_;try simp only [J])
    (refine Ji 2 _ rfl hH ?_;try simp only [J])
    (refine Jt 3 (.slice (some ⟨bp,op,Option.none⟩) d.procs.length a6) rfl (yif_load1 rfl (by intro W hW;have y7:=hW.1.has 1 _ rfl;rw [Nat.zero_add] at y7;clear hW;go_simp)) hH ?_;try simp only [J])
    (refine Ji 4 _ rfl hH ?_;try simp only [J])
    (refine Jp 5 (.pointer (some ⟨bp,op+k*2,Option.none⟩)) rfl hH ?_;try simp only [J])
    (refine Jk 6 (.pointer (some ⟨bp,op+k*2,Option.none⟩)) rfl hH ?_;try simp only [J])
    (refine Jt 7 (.bool ck) rfl (yif_load1 rfl (by intro W hW;have y7:W.cell? ⟨bp,op+k*2,Option.none⟩=some (.bool ck):=hW.2 0 _ rfl;clear hW;go_simp)) hH ?_;try simp only [J])
    (refine Ji 8 _ rfl hH ?_;try simp only [J])
    (refine Jk 9 (.agg [.bool ck,.slice am nm cm].toArray) rfl hH ?_;try simp only [J])
    refine wpAnyH_ready (rs:=[1,10]) (by kernel_rfl) (by simp) ?_
    refine AllReadyH.cons rfl (fun K hK=>?_) (AllReadyH.cons rfl (fun K hK=>?_) AllReadyH.nil)
    ·have zd:wd.cell? ⟨B5,1,Option.none⟩=some vv:=by have:=bj.out.has 1 _ rfl;simpa using this
     go_simp
     refine hK.out _ _ hH (fun hH=>?_)
     clear hK K zd
     try simp only [J]
     refine Jr 10 rfl fun K hK=>?_
     refine Dg rfl _ _ rfl Kl rfl (cs:=[.bool ck,.slice am nm cm]) rfl rfl (by decide) ?_
     refine hK.out _ _ ⟨hH.1.ext (Ab _ _),hH.2.ext (Ab _ _)⟩ (fun hH=>?_)
     clear hK K
     try simp only [J]
     refine Jr 11 rfl fun K hK=>?_
     have aj:=Ab wd (.cells [.bool ck,.slice am nm cm].toArray 48)
     have ba:=Has.alloc wd [.bool ck,.slice am nm cm] 48
     have dn:wd.heap.size<(wd.alloc (.cells [.bool ck,.slice am nm cm].toArray 48)).heap.size:=by simp
     have az:rr.length+1<=16777216:=by rw [b9.out];have:=dv.out;omega
     have ao:wA.heap.size<=(wd.alloc (.cells [.bool ck,.slice am nm cm].toArray 48)).heap.size:=by omega
     have ai:Bi C9 48 2 wA.heap.size vv rr (wd.alloc (.cells [.bool ck,.slice am nm cm].toArray 48)):=a7.out.since (Al.of_ext aj)
     have av:StV C9 wA.heap.size vv.ownBlock (wd.alloc (.cells [.bool ck,.slice am nm cm].toArray 48)) [.bool ck,.slice am nm cm] ⟨ck,q.1⟩:=(bq.out.ext aj).st (N:=wA.heap.size) (by omega) (fun k hk=>by have:=(a1.out k hk).2;omega)
     refine D1 (V:=C9) rfl _ _ _ rfl Kl (v:=vv) rfl ai (by first | rfl | (rw [<-cn];rfl)) rfl ba rfl av az ao ?_
     intro g7 au w7 ag ak
     have hR:∀ j,vv.ownBlock=some j->wA.heap.size<=j:=fun j hj=>(a1.out j hj).1
     have an:=(bj.out.ext aj).grownO ak (fun j hj=>by have:=hR j hj;omega)
     have ab:=(bo.out.trans (Fr.of_ext aj)).trans (Fr.of_gb ak (fun j hj=>.inr (hR j hj)))
     refine hK.out _ _ ⟨(hH.1).grownO ak (fun j hj=>by have:=hR j hj;omega),a0.out.ext (ab.ext cf.out (by rintro x (h | h)<;>omega))⟩ (fun hH=>?_)
     clear hK K
     try simp only [J]
     (refine Ji 12 _ rfl hH ?_;try simp only [J])
     refine Jr 13 rfl fun K hK=>?_
     have x1:w7.cell? ⟨B5,1,Option.none⟩=some vv:=by have:=an.has 1 _ rfl;simpa using this
     have x2:=an.frozen 1
     go_simp
     have al:=Ay w7 B5 1 (.slice (some ⟨g7,0,Option.none⟩) (rr.length+1) au)
     have a8:=an.set 1 (.slice (some ⟨g7,0,Option.none⟩) (rr.length+1) au)
     have ae:=ab.trans (Fr.of_gb al (fun j hj=>by cases hj;exact .inl rfl))
     refine hK.out _ _ ⟨hH.1.grown al (by omega),a0.out.ext (ae.ext cf.out (by rintro x (h | h)<;>omega))⟩ (fun hH=>?_)
     clear hK K
     try simp only [J]
     refine Jz ?_
     have bz:=Jh (ag.since (Al.of_grown al (by omega)))
     have bw:=Jh a8
     have bx:=Jh ae
     clear x1 x2 ag an ab a8 ae al ak ba aj ai av hH
     go_wp2_with fail
     go_roundw
     case rel=>exact ⟨k+1,_,by omega,by go_num,by rw [bg.out];exact HG.out,by rw [bg.out];exact bz.out,bw.out,bx.out⟩
     case measure=>simp [intOf];omega
    ·refine Dg rfl _ _ rfl Kl rfl (cs:=[.bool ck,.slice am nm cm]) rfl rfl (by decide) ?_
     refine hK.out _ _ ⟨hH.1.ext (Ab _ _),hH.2.ext (Ab _ _)⟩ (fun hH=>?_)
     clear hK K
     try simp only [J]
     have zd:(wd.alloc (.cells [.bool ck,.slice am nm cm].toArray 48)).cell? ⟨B5,1,Option.none⟩=some vv:=by have:=(bj.out.ext (Ab wd (.cells [.bool ck,.slice am nm cm].toArray 48))).has 1 _ rfl;simpa using this
     refine Jr 1 rfl fun K hK=>?_
     go_simp
     refine hK.out _ _ hH (fun hH=>?_)
     clear hK K zd
     try simp only [J]
     refine Jr 11 rfl fun K hK=>?_
     have aj:=Ab wd (.cells [.bool ck,.slice am nm cm].toArray 48)
     have ba:=Has.alloc wd [.bool ck,.slice am nm cm] 48
     have dn:wd.heap.size<(wd.alloc (.cells [.bool ck,.slice am nm cm].toArray 48)).heap.size:=by simp
     have az:rr.length+1<=16777216:=by rw [b9.out];have:=dv.out;omega
     have ao:wA.heap.size<=(wd.alloc (.cells [.bool ck,.slice am nm cm].toArray 48)).heap.size:=by omega
     have ai:Bi C9 48 2 wA.heap.size vv rr (wd.alloc (.cells [.bool ck,.slice am nm cm].toArray 48)):=a7.out.since (Al.of_ext aj)
     have av:StV C9 wA.heap.size vv.ownBlock (wd.alloc (.cells [.bool ck,.slice am nm cm].toArray 48)) [.bool ck,.slice am nm cm] ⟨ck,q.1⟩:=(bq.out.ext aj).st (N:=wA.heap.size) (by omega) (fun k hk=>by have:=(a1.out k hk).2;omega)
     refine D1 (V:=C9) rfl _ _ _ rfl Kl (v:=vv) rfl ai (by first | rfl | (rw [<-cn];rfl)) rfl ba rfl av az ao ?_
     intro g7 au w7 ag ak
     have hR:∀ j,vv.ownBlock=some j->wA.heap.size<=j:=fun j hj=>(a1.out j hj).1
     have an:=(bj.out.ext aj).grownO ak (fun j hj=>by have:=hR j hj;omega)
     have ab:=(bo.out.trans (Fr.of_ext aj)).trans (Fr.of_gb ak (fun j hj=>.inr (hR j hj)))
     refine hK.out _ _ ⟨(hH.1).grownO ak (fun j hj=>by have:=hR j hj;omega),a0.out.ext (ab.ext cf.out (by rintro x (h | h)<;>omega))⟩ (fun hH=>?_)
     clear hK K
     try simp only [J]
     (refine Ji 12 _ rfl hH ?_;try simp only [J])
     refine Jr 13 rfl fun K hK=>?_
     have x1:w7.cell? ⟨B5,1,Option.none⟩=some vv:=by have:=an.has 1 _ rfl;simpa using this
     have x2:=an.frozen 1
     go_simp
     have al:=Ay w7 B5 1 (.slice (some ⟨g7,0,Option.none⟩) (rr.length+1) au)
     have a8:=an.set 1 (.slice (some ⟨g7,0,Option.none⟩) (rr.length+1) au)
     have ae:=ab.trans (Fr.of_gb al (fun j hj=>by cases hj;exact .inl rfl))
     refine hK.out _ _ ⟨hH.1.grown al (by omega),a0.out.ext (ae.ext cf.out (by rintro x (h | h)<;>omega))⟩ (fun hH=>?_)
     clear hK K
     try simp only [J]
     refine Jz ?_
     have bz:=Jh (ag.since (Al.of_grown al (by omega)))
     have bw:=Jh a8
     have bx:=Jh ae
     clear x1 x2 ag an ab a8 ae al ak ba aj ai av hH
     go_wp2_with fail
     go_roundw
     case rel=>exact ⟨k+1,_,by omega,by go_num,by rw [bg.out];exact HG.out,by rw [bg.out];exact bz.out,bw.out,bx.out⟩
     case measure=>simp [intOf];omega
  ·obtain rfl:k=d.procs.length:=by omega
   rw [List.take_length] at af hz
   have fi:=Jh hz
   have dz:=Jh af
   obtain ⟨wo,rfl⟩:∃ x,x=wr:=⟨_,rfl⟩
   have cy:=Jh (show Dp d=(if (Fc 0 d.checks).2≠0 then .error (Fc 0 d.checks).2 else .ok ⟨d.signals,(Fj d.signals 0 d.procs).1,(Fc 0 d.checks).1⟩) by
    have:=c6.out;rwa [hz] at this)
   have dt:=Jh (Fr.refl (fun b=>b=B5\/wo.heap.size<=b) wo)
   have ci:=cg
   clear hz af c6 a2 HZ
   go_wp2_with fail
   clear y1
   go_loopw [9,10,11] (fun i _ _ wr=>∃ (k:Nat) (vc:Value),k<=d.checks.length/\i=.int .i64 k/\(Fc 0 (d.checks.take k)).2=0/\Bi Cf 96 9 wo.heap.size vc (Fc 0 (d.checks.take k)).1 wr/\Blk wr B5 [.slice xs d.signals.length u,vv,vc].toArray 26/\Fr (fun b=>b=B5\/wo.heap.size<=b) wo wr) (fun i _ _ _=>d.checks.length-(intOf i).toNat)
   case atStart=>exact ⟨0,_,Nat.zero_le _,rfl,rfl,Bi.nil,ea.out,dt.out⟩
   case round =>
    obtain ⟨k,vc,hk,rfl,hz,af,cj,ay⟩:=hrel
    have cx:=Jh ay
    have d5:=Jh (ay.blk b5.out (by rintro (h | h)<;>omega))
    have d6:=Jh (ay.blk d8.out (by rintro (h | h)<;>omega))
    have e0:=Jh (ay.blk d9.out (by rintro (h | h)<;>omega))
    have d7:=Jh cj
    have cu:=Jh (ay.ext ci.out (by rintro x (h | h)<;>omega))
    have ff:=ay.size
    have HZ:=Jh hz
    have y2:=d5.out.has 2 _ rfl
    clear ay cj
    by_cases bk:k<d.checks.length
    ·obtain ⟨sp,q1,q2⟩:=Nx.get (dy.out.mono fun x _ b o h=>Dr.ext' cu.out h) bk
     obtain rfl:=et.out (by omega)
     obtain ⟨dq,ar,-⟩:=Nx.get dy.out bk
     have bv:dq=sp:=by
      have e:some dq=some sp:=((ar.ext cu.out) 8 _ rfl).symm.trans (q1 8 _ rfl)
      injection e
     rw [bv] at ar
     have a3:=List.getElem_mem bk
     have b3:=Qw ch.out d.checks[k].e (dh.out _ a3) (c8.out.checks _ a3) (by
      have h1:=Bf (fun c:Chk=>nodes c.e) d.checks _ a3
      have h2:=dw.out
      unfold C3 at h2
      try simp only at h1
      omega)
     have ax:=Ug 0 d.checks k bk
     have aa:=Acx 0 d.checks (k+1)
     rw [hz] at ax
     rw [ax] at aa
     have bd:(Fc 0 (d.checks.take k)).1.length=k:=by rw [P2,List.length_take];omega
     obtain ⟨rr,cl⟩:∃ rr,(Fc 0 (d.checks.take k)).1=rr:=⟨_,rfl⟩
     rw [cl] at af ax bd
     obtain ⟨c,hc⟩:∃ c,d.checks[k]=c:=⟨_,rfl⟩
     rw [hc] at b3 ax aa q1 q2 ar
     obtain ⟨nm,ce⟩:=c
     simp only at b3 ax aa q2
     have HC:=Jh (b3 _ wr ⟨sp,rfl,q2⟩)
     have bg:=Jh ax
     have b0:=Jh aa
     have b9:=Jh bd
     have cb:=Jh q1
     have a0:=Jh ar
     have eu:=Jh q1.tail
     have a2:=Jh af
     have cz:=Jh (show szE 0 ce (-1)=_ from by unfold szE;rw [if_neg (by decide)])
     clear hz af ax aa bd cl hc b3 q1 q2 ar bv a3
     go_wp2_with (first | ((with_reducible show Jl 40);refine Aa rfl 40 _ rfl rfl (eu.out) Ah rfl ?_) | (go_at_call 106;refine HC.out.mono ?_;intro r w3 b1;obtain ⟨dg,g,rfl,h8,ei,ah,ho⟩:=b1.open;clear b1;refine Hid.out ?_))
     refine Jh ?_
     have aq:=Ab w3 (.cells dg.toArray 40)
     have dj:=Has.alloc w3 dg 40
     have fd:w3.heap.size<(w3.alloc (.cells dg.toArray 40)).heap.size:=by simp
     have fc:=ah.size
     go_upto_region 20 with (first | ((with_reducible show Js 40);refine Ad rfl 40 _ _ rfl rfl (by first | rfl | simp) rfl Ah (h8) rfl (ei) ?_))
     obtain ⟨Bx,e6⟩:∃ B,w3.heap.size=B:=⟨_,rfl⟩
     rw [e6] at dj ⊢
     generalize w3.alloc _=w4 at *
     have a5:=Jh (ah.trans aq)
     have ed:=Jh dj
     have d2:=Jh aq
     clear aq dj y2
     rcases ho with ⟨rfl,y,hy,dm⟩ | ⟨hg,hy⟩
     ·have ct:=Jh (show szE 0 ce (-1)=(y,0) by rw [cz.out,hy])
      obtain ⟨s3,e7,c1⟩:=dm.ve
      subst e7
      have ca:=Jh (show (Chk.cells ⟨nm,y⟩ s3).all (·.oneCell')=true by simp [c1.one,Bc,Ft])
      have c3:=Jh (show FV Cf wr.heap.size w4 (Chk.cells ⟨nm,y⟩ s3) ⟨nm,y⟩ from fun W hW=>by
       obtain ⟨s9,h9,e4⟩:=(dm.ext d2.out) W hW
       have:s3=s9:=by simpa [E.cells] using h9
       exact ⟨s3,rfl,by rw [this];exact e4⟩)
      have df:=Jh (d7.out.ext a5.out)
      have de:=Jh (d5.out.ext a5.out)
      have cc:=Jh (cb.out.ext a5.out)
      have bh:=Jh (a2.out.since (Al.of_ext a5.out))
      have b8:=Jh (cx.out.trans (Fr.of_ext a5.out))
      have a1:=Jh (fun j (hj:vc.ownBlock=some j)=>a2.out.lt j hj)
      clear dm hy c1
      go_upto_region 22 with fail
      refine wp_region_held_drew (S:=fun W=>Blk W w.heap.size [.slice xs d.signals.length u,.slice ap d.procs.length a6,.slice (some ⟨bc,oc,Option.none⟩) d.checks.length bf].toArray 26/\Has W bc (oc+k*9) (Chk.cells ⟨nm,ce⟩ sp)/\Has W Bx 0 (y.cells s3)) (by kernel_rfl) ⟨de.out.drew,cc.out.drew,ed.out.drew⟩ (fun hH=>?_)
      have cn:w4.drew.heap.size=w4.heap.size:=rfl
      have bj:=Jh (show Blk w4.drew B5 [.slice xs d.signals.length u,vv,vc].toArray 26 from df.out)
      have a7:=Jh (bh.out.since (Al.of_ext (Below.drew (Below.refl _ _):Ext w4 w4.drew)))
      have bo:=Jh (b8.out.trans (Fr.of_ext (Below.drew (Below.refl _ _):Ext w4 w4.drew)))
      have bq:=Jh (c3.out.ext (Below.drew (Below.refl _ _):Ext w4 w4.drew))
      generalize w4.drew=wd at *
      try simp only [J]
      (refine Ji 0 _ rfl hH ?_;try simp only [J])
      (refine Ji 2 _ rfl hH ?_;try simp only [J])
      (refine Jt 3 (.slice (some ⟨bc,oc,Option.none⟩) d.checks.length bf) rfl (yif_load1 rfl (by intro W hW;have y7:=hW.1.has 2 _ rfl;rw [Nat.zero_add] at y7;clear hW;go_simp)) hH ?_;try simp only [J])
      (refine Ji 4 _ rfl hH ?_;try simp only [J])
      (refine Jp 5 (.pointer (some ⟨bc,oc+k*9,Option.none⟩)) rfl hH ?_;try simp only [J])
      (refine Jk 6 (.pointer (some ⟨bc,oc+k*9,Option.none⟩)) rfl hH ?_;try simp only [J])
      (refine Jt 7 (.string nm) rfl (yif_load1 rfl (by intro W hW;have y7:W.cell? ⟨bc,oc+k*9,Option.none⟩=some (.string nm):=hW.2.1 0 _ rfl;clear hW;go_simp)) hH ?_;try simp only [J])
      (refine Jt 8 (.agg (y.cells s3).toArray) rfl (Ar rfl 40 _ rfl rfl (fun _ h=>h.2.2) Ah rfl) hH ?_;try simp only [J])
      (refine Jk 9 (.agg (Chk.cells ⟨nm,y⟩ s3).toArray) rfl hH ?_;try simp only [J])
      refine wpAnyH_ready (rs:=[1,10]) (by kernel_rfl) (by simp) ?_
      refine AllReadyH.cons rfl (fun K hK=>?_) (AllReadyH.cons rfl (fun K hK=>?_) AllReadyH.nil)
      ·have zd:wd.cell? ⟨B5,2,Option.none⟩=some vc:=by have:=bj.out.has 2 _ rfl;simpa using this
       go_simp
       refine hK.out _ _ hH (fun hH=>?_)
       clear hK K zd
       try simp only [J]
       refine Jr 10 rfl fun K hK=>?_
       refine Dg rfl _ _ rfl F2 rfl (cs:=(Chk.cells ⟨nm,y⟩ s3)) rfl rfl (by decide) ?_
       refine hK.out _ _ ⟨hH.1.ext (Ab _ _),hH.2.1.ext (Ab _ _),hH.2.2.ext (Ab _ _)⟩ (fun hH=>?_)
       clear hK K
       try simp only [J]
       refine Jr 11 rfl fun K hK=>?_
       have aj:=Ab wd (.cells (Chk.cells ⟨nm,y⟩ s3).toArray 96)
       have ba:=Has.alloc wd (Chk.cells ⟨nm,y⟩ s3) 96
       have dn:wd.heap.size<(wd.alloc (.cells (Chk.cells ⟨nm,y⟩ s3).toArray 96)).heap.size:=by simp
       have az:rr.length+1<=16777216:=by rw [b9.out];have:=du.out;omega
       have ao:wo.heap.size<=(wd.alloc (.cells (Chk.cells ⟨nm,y⟩ s3).toArray 96)).heap.size:=by omega
       have ai:Bi Cf 96 9 wo.heap.size vc rr (wd.alloc (.cells (Chk.cells ⟨nm,y⟩ s3).toArray 96)):=a7.out.since (Al.of_ext aj)
       have av:StV Cf wo.heap.size vc.ownBlock (wd.alloc (.cells (Chk.cells ⟨nm,y⟩ s3).toArray 96)) (Chk.cells ⟨nm,y⟩ s3) ⟨nm,y⟩:=(bq.out.ext aj).st (N:=wo.heap.size) (by omega) (fun k hk=>by have:=(a1.out k hk).2;omega)
       refine D1 (V:=Cf) rfl _ _ _ rfl F2 (v:=vc) rfl ai (by first | rfl | (rw [<-cn];rfl)) rfl ba ca.out av az ao ?_
       intro g7 au w7 ag ak
       have hR:∀ j,vc.ownBlock=some j->wo.heap.size<=j/\j<wr.heap.size:=fun j hj=>a1.out j hj
       have an:=(bj.out.ext aj).grownO ak (fun j hj=>by have:=hR j hj;omega)
       have ab:=(bo.out.trans (Fr.of_ext aj)).trans (Fr.of_gb ak (fun j hj=>.inr (hR j hj).1))
       have bt:=(hH.2.2).grownR ak (by intro e;have:=hR _ e;omega)
       refine hK.out _ _ ⟨(hH.1).grownO ak (fun j hj=>by have:=hR j hj;omega),a0.out.ext (ab.ext ci.out (by rintro x (h | h)<;>omega)),bt⟩ (fun hH=>?_)
       clear hK K
       try simp only [J]
       (refine Ji 12 _ rfl hH ?_;try simp only [J])
       refine Jr 13 rfl fun K hK=>?_
       have x1:w7.cell? ⟨B5,2,Option.none⟩=some vc:=by have:=an.has 2 _ rfl;simpa using this
       have x2:=an.frozen 2
       go_simp
       have al:=Ay w7 B5 2 (.slice (some ⟨g7,0,Option.none⟩) (rr.length+1) au)
       have a8:=an.set 2 (.slice (some ⟨g7,0,Option.none⟩) (rr.length+1) au)
       have ae:=ab.trans (Fr.of_gb al (fun j hj=>by cases hj;exact .inl rfl))
       refine hK.out _ _ ⟨hH.1.grown al (by omega),a0.out.ext (ae.ext ci.out (by rintro x (h | h)<;>omega)),hH.2.2.grown al (by omega)⟩ (fun hH=>?_)
       clear hK K
       try simp only [J]
       refine Jz ?_
       have bz:=Jh (ag.since (Al.of_grown al (by omega)))
       have bw:=Jh a8
       have bx:=Jh ae
       clear x1 x2 ag an ab a8 ae al ak ba aj ai av hH bt
       go_wp2_with fail
       go_roundw
       case rel=>exact ⟨k+1,_,by omega,by go_num,by rw [bg.out,ct.out],by rw [bg.out,ct.out];exact bz.out,bw.out,bx.out⟩
       case measure=>simp [intOf];omega
      ·refine Dg rfl _ _ rfl F2 rfl (cs:=(Chk.cells ⟨nm,y⟩ s3)) rfl rfl (by decide) ?_
       refine hK.out _ _ ⟨hH.1.ext (Ab _ _),hH.2.1.ext (Ab _ _),hH.2.2.ext (Ab _ _)⟩ (fun hH=>?_)
       clear hK K
       try simp only [J]
       have zd:(wd.alloc (.cells (Chk.cells ⟨nm,y⟩ s3).toArray 96)).cell? ⟨B5,2,Option.none⟩=some vc:=by have:=(bj.out.ext (Ab wd (.cells (Chk.cells ⟨nm,y⟩ s3).toArray 96))).has 2 _ rfl;simpa using this
       refine Jr 1 rfl fun K hK=>?_
       go_simp
       refine hK.out _ _ hH (fun hH=>?_)
       clear hK K zd
       try simp only [J]
       refine Jr 11 rfl fun K hK=>?_
       have aj:=Ab wd (.cells (Chk.cells ⟨nm,y⟩ s3).toArray 96)
       have ba:=Has.alloc wd (Chk.cells ⟨nm,y⟩ s3) 96
       have dn:wd.heap.size<(wd.alloc (.cells (Chk.cells ⟨nm,y⟩ s3).toArray 96)).heap.size:=by simp
       have az:rr.length+1<=16777216:=by rw [b9.out];have:=du.out;omega
       have ao:wo.heap.size<=(wd.alloc (.cells (Chk.cells ⟨nm,y⟩ s3).toArray 96)).heap.size:=by omega
       have ai:Bi Cf 96 9 wo.heap.size vc rr (wd.alloc (.cells (Chk.cells ⟨nm,y⟩ s3).toArray 96)):=a7.out.since (Al.of_ext aj)
       have av:StV Cf wo.heap.size vc.ownBlock (wd.alloc (.cells (Chk.cells ⟨nm,y⟩ s3).toArray 96)) (Chk.cells ⟨nm,y⟩ s3) ⟨nm,y⟩:=(bq.out.ext aj).st (N:=wo.heap.size) (by omega) (fun k hk=>by have:=(a1.out k hk).2;omega)
       refine D1 (V:=Cf) rfl _ _ _ rfl F2 (v:=vc) rfl ai (by first | rfl | (rw [<-cn];rfl)) rfl ba ca.out av az ao ?_
       intro g7 au w7 ag ak
       have hR:∀ j,vc.ownBlock=some j->wo.heap.size<=j/\j<wr.heap.size:=fun j hj=>a1.out j hj
       have an:=(bj.out.ext aj).grownO ak (fun j hj=>by have:=hR j hj;omega)
       have ab:=(bo.out.trans (Fr.of_ext aj)).trans (Fr.of_gb ak (fun j hj=>.inr (hR j hj).1))
       have bt:=(hH.2.2).grownR ak (by intro e;have:=hR _ e;omega)
       refine hK.out _ _ ⟨(hH.1).grownO ak (fun j hj=>by have:=hR j hj;omega),a0.out.ext (ab.ext ci.out (by rintro x (h | h)<;>omega)),bt⟩ (fun hH=>?_)
       clear hK K
       try simp only [J]
       (refine Ji 12 _ rfl hH ?_;try simp only [J])
       refine Jr 13 rfl fun K hK=>?_
       have x1:w7.cell? ⟨B5,2,Option.none⟩=some vc:=by have:=an.has 2 _ rfl;simpa using this
       have x2:=an.frozen 2
       go_simp
       have al:=Ay w7 B5 2 (.slice (some ⟨g7,0,Option.none⟩) (rr.length+1) au)
       have a8:=an.set 2 (.slice (some ⟨g7,0,Option.none⟩) (rr.length+1) au)
       have ae:=ab.trans (Fr.of_gb al (fun j hj=>by cases hj;exact .inl rfl))
       refine hK.out _ _ ⟨hH.1.grown al (by omega),a0.out.ext (ae.ext ci.out (by rintro x (h | h)<;>omega)),hH.2.2.grown al (by omega)⟩ (fun hH=>?_)
       clear hK K
       try simp only [J]
       refine Jz ?_
       have bz:=Jh (ag.since (Al.of_grown al (by omega)))
       have bw:=Jh a8
       have bx:=Jh ae
       clear x1 x2 ag an ab a8 ae al ak ba aj ai av hH bt
       go_wp2_with fail
       go_roundw
       case rel=>exact ⟨k+1,_,by omega,by go_num,by rw [bg.out,ct.out],by rw [bg.out,ct.out];exact bz.out,bw.out,bx.out⟩
       case measure=>simp [intOf];omega
     ·have g1:(g != 0)=true:=by rw [bne_iff_ne];omega
      have HE:=Jh (show Dp d=.error g by
       have en:szE 0 ce (-1)=(zE,g):=by rw [cz.out,hy]
       have h1:=b0.out (by rw [en];show g≠0;omega)
       rw [en] at h1
       have h2:(Fc 0 d.checks).2=g:=h1
       rw [cy.out,h2,if_pos (by omega)])
      have KK:=Blk.ext e0.out a5.out
      clear hy
      go_wp2_with (first | ((with_reducible show Jl 26);refine Aa rfl 26 _ rfl rfl (KK.has) Aj rfl ?_) | ((with_reducible show Js 26);have bb:=Blk.ext d6.out a5.out;refine Ac rfl 26 _ _ rfl bb rfl (cs:=Fk) rfl Aj rfl rfl rfl ?_;intro w9 a9 a4) | ((with_reducible show bodyPost _ _ _ _ _ _);refine Hid.out ?_))
      refine Jh ?_
      refine Ak rfl rfl rfl a9.has Aj rfl rfl (.inl ⟨g,HE.out,by omega,rfl,(cu.out.trans a5.out).grown a4 (by omega)⟩)
    ·obtain rfl:k=d.checks.length:=by omega
     rw [List.take_length] at af hz
     have HE:=Jh (show Dp d=.ok ⟨d.signals,(Fj d.signals 0 d.procs).1,(Fc 0 d.checks).1⟩ by rw [cy.out,hz,if_neg (by simp)])
     have a2:=Jh af
     have c4:=Jh (show [.slice xs d.signals.length u,vv,vc].all (·.oneCell')=true by simp [dz.out.one,af.one];rfl)
     have ev:=Jh (cx.out.since (N:=wA.heap.size) (by rintro x h1 h2 (h | h)<;>omega))
     clear hz af
     go_wp2_with (first | ((with_reducible show Jl 26);refine Aa rfl 26 _ rfl rfl (d7.out.has) Aj rfl ?_) | ((with_reducible show Js 26);have bb:=d6.out;refine Ac rfl 26 _ _ rfl bb rfl (cs:=[.slice xs d.signals.length u,vv,vc]) rfl Aj rfl rfl c4.out ?_;intro w9 a9 a4) | ((with_reducible show bodyPost _ _ _ _ _ _);refine Hid.out ?_))
     refine Jh ?_
     have ep:=cu.out.grown a4 (by omega)
     refine Ak rfl rfl rfl a9.has Aj rfl rfl (.inr ⟨_,_,_,_,HE.out,rfl,⟨_,_,_,rfl,c7.out.ext ep,?_,?_⟩,ep⟩)
     ·exact dz.out.sl (V:=C9) (At:=Cy) (fun _ _ _ _ _ h hv=>C9.at h hv) (ev.out.trans (Al.of_grown a4 (by omega)))
     ·exact a2.out.sl (V:=Cf) (At:=Dr) (fun _ _ _ _ _ h hv=>Cf.at h hv) (Al.of_grown a4 (by omega))
end Go.Proofs.YtbliplladmamoaaGreat
