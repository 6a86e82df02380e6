/- Laws and walks that a claim of this seat leans on: SizeD. -/
import Derived.Test.YtbliplladmamoaaGreatS12
import Derived.Test.YtbliplladmamoaaGreatS00
set_option maxRecDepth 100000
set_option maxHeartbeats 8000000
set_option linter.all false
namespace Go.Proofs.YtbliplladmamoaaGreat
open Go.RowKit
theorem Zl (d:Bb) (v:Value) (w:World) (h:Ck w v d) (ci:d.wf) (hb:C3 d<=1048576) (hl:d.signals.length<=1048576) (fh:d.procs.length<=1048576) (f0:d.checks.length<=1048576) :
  Calls Tryz.prog 35 #[v] w (Sz w (Dp d)):=by
 have dw:=Jh h
 have c4:=Jh ci
 obtain ⟨sv,pv,cv,rfl,hS,hP,hC⟩:=h
 have HS:=Jh hS
 have HP:=Jh hP
 have HC:=Jh hC
 have HM:=Jh (show Dp d=_ from by unfold Dp;rfl)
 have hX:=(Ab w (.cells [sv,pv,cv].toArray 26)).alloc (.cells Fk.toArray 26)
 have K0:=Jh ((Has.alloc w [sv,pv,cv] 26).ext (Ab _ (.cells Fk.toArray 26)))
 have dc:=Blk.new (w.alloc (.cells [sv,pv,cv].toArray 26)) Fk.toArray 26
 rw [World.size_alloc] at dc
 have K1:=Jh dc
 have HX:=Jh hX
 have fv:((w.alloc (.cells [sv,pv,cv].toArray 26)).alloc (.cells Fk.toArray 26)).heap.size=w.heap.size+1+1:=by simp
 have cb:∀ W,Hid (Ext _ W->Calls Tryz.prog 53 #[.agg #[sv,pv,cv]] W fun r w'=>r=.returned (.bool (Lb d))/\Ext W w'):=fun W=>Jh fun hx=>Z3 d _ W (dw.out.ext (hX.trans hx)) hb hl ci.signals
 have cf:∀ W,Hid (Ext _ W->Calls Tryz.prog 54 #[.agg #[sv,pv,cv]] W fun r w'=>r=.returned (.bool (C4 d))/\Ext W w'):=fun W=>Jh fun hx=>Vv d _ W (dw.out.ext (hX.trans hx)) ci hl
 have ca:∀ W,Hid (Ext _ W->Calls Tryz.prog 55 #[sv,.func (.func 56) #[] #[]] W fun r w'=>r=.returned (.bool (d.signals.any fun s=>!holds s.w s.init))/\Ext W w'):=fun W=>Jh fun hx =>
  Mt 56 #[] (fun s=>!holds s.w s.init) d.signals sv W (HS.out.ext (hX.trans hx)) Yk (fun W' f9 j hj cs fm=>by subst fm;exact Xj _ W' (c4.out.signals _ (List.getElem_mem hj)))
 have du:∀ W,Hid (Ext _ W->Calls Tryz.prog 58 #[sv] W (Sx W d.signals)):=fun W=>Jh fun hx=>Xa d.signals sv W (HS.out.ext (hX.trans hx)) hl
 obtain ⟨xs,bs,os,au,e1,-,-,-,-⟩:=hS.open
 obtain ⟨ap,bp,op,ft,e2,f2,f3,ej,ek⟩:=hP.open
 obtain ⟨ac,bc,oc,fs,e3,f4,f5,em,en⟩:=hC.open
 subst e1;subst e2;subst e3
 have e0:=Jh ej
 have e5:=Jh ek
 have e6:=Jh em
 have e7:=Jh en
 clear hX dc hS hP hC ej ek em en ci
 go_enter Tryz.func35,Tryz.ntmps35
 go_upto_region 1 with fail
 generalize (w.alloc _).alloc _=w0 at *
 obtain ⟨p1,h1⟩:∃ p,Lb d=p:=⟨_,rfl⟩
 rw [h1] at cb
 have H1:=Jh h1
 clear h1
 cases p1
 ·go_wp2_with (first | ((with_reducible show Jl 26);refine Aa rfl 26 _ rfl rfl (K0.out) Aj rfl ?_) | (go_at_call 53;refine ((cb _).out (Below.refl _ _)).mono ?_;rintro r w1 ⟨rfl,a5⟩) | ((with_reducible show Js 26);refine Ac rfl 26 _ _ rfl (K1.out.ext a5) rfl (cs:=Fk) rfl Aj rfl rfl rfl ?_;intro w9 bj a3))
  refine Ak rfl rfl rfl bj.has Aj rfl rfl (.inl ⟨2,by rw [HM.out,if_pos H1.out],by decide,rfl,(HX.out.trans a5).grown a3 (by omega)⟩)
 go_upto_region 3 with (first | ((with_reducible show Jl 26);refine Aa rfl 26 _ rfl rfl (K0.out) Aj rfl ?_) | (go_at_call 53;refine ((cb _).out (Below.refl _ _)).mono ?_;rintro r w1 ⟨rfl,a5⟩))
 obtain ⟨p2,h2⟩:∃ p,C4 d=p:=⟨_,rfl⟩
 rw [h2] at cf
 have H2:=Jh h2
 clear h2
 cases p2
 ·go_wp2_with (first | ((with_reducible show Jl 26);refine Aa rfl 26 _ rfl rfl (K0.out.ext a5) Aj rfl ?_) | (go_at_call 54;refine ((cf _).out a5).mono ?_;rintro r w2 ⟨rfl,b0⟩) | ((with_reducible show Js 26);refine Ac rfl 26 _ _ rfl (K1.out.ext (a5.trans b0)) rfl (cs:=Fk) rfl Aj rfl rfl rfl ?_;intro w9 bj a3))
  refine Ak rfl rfl rfl bj.has Aj rfl rfl (.inl ⟨1,by rw [HM.out,if_neg (by rw [H1.out];simp),if_pos H2.out],by decide,rfl,(HX.out.trans (a5.trans b0)).grown a3 (by omega)⟩)
 go_upto_region 5 with (first | ((with_reducible show Jl 26);refine Aa rfl 26 _ rfl rfl (K0.out.ext a5) Aj rfl ?_) | (go_at_call 54;refine ((cf _).out a5).mono ?_;rintro r w2 ⟨rfl,b0⟩))
 have bb:=a5.trans b0
 clear a5 b0
 obtain ⟨p3,h3⟩:∃ p,(d.signals.any fun s=>!holds s.w s.init)=p:=⟨_,rfl⟩
 rw [h3] at ca
 have H3:=Jh h3
 clear h3
 have g0:=(K0.out.ext bb) 0 _ rfl
 cases p3
 rotate_left
 ·go_wp2_with (first | (go_at_call 55;refine ((ca _).out bb).mono ?_;rintro r w3 ⟨rfl,bo⟩) | ((with_reducible show Js 26);refine Ac rfl 26 _ _ rfl (K1.out.ext (bb.trans bo)) rfl (cs:=Fk) rfl Aj rfl rfl rfl ?_;intro w9 bj a3))
  refine Ak rfl rfl rfl bj.has Aj rfl rfl (.inl ⟨92,by rw [HM.out,if_neg (by rw [H1.out];simp),if_neg (by rw [H2.out];simp),if_pos H3.out],by decide,rfl,(HX.out.trans (bb.trans bo)).grown a3 (by omega)⟩)
 go_upto_region 7 with (first | (go_at_call 55;refine ((ca _).out bb).mono ?_;rintro r w3 ⟨rfl,bo⟩))
 have bw:=bb.trans bo
 clear bb bo g0
 have hm:Dp d=if (Fc (Fj d.signals 0 d.procs).2 d.checks).2≠0 then .error (Fc (Fj d.signals 0 d.procs).2 d.checks).2 else .ok ⟨d.signals,(Fj d.signals 0 d.procs).1,(Fc (Fj d.signals 0 d.procs).2 d.checks).1⟩:=by
  rw [HM.out,if_neg (by rw [H1.out];simp),if_neg (by rw [H2.out];simp),if_neg (by rw [H3.out];simp)]
 have dy:=Jh hm
 have dn:=Rv d H2.out
 have d0:=Jh dn.1
 have dh:=Jh dn.2
 clear hm dn HM H1 H2 H3 cb cf ca
 have g0:=(K0.out.ext bw) 0 _ rfl
 go_upto_region 8 with fail
 have ew:=Ab w3 (.cells #[.slice xs d.signals.length au,.int .i64 0] 102)
 have ee:=Blk.new w3 #[.slice xs d.signals.length au,.int .i64 0] 102
 have co:=bw.trans ew
 clear g0
 have g0:=(K0.out.ext co) 0 _ rfl
 have f6:=bw.size
 have f7:(w3.alloc (.cells #[.slice xs d.signals.length au,.int .i64 0] 102)).heap.size=w3.heap.size+1:=by simp
 generalize w3.heap.size=SB at *
 generalize w3.alloc _=w4 at *
 go_upto_region 9 with (first | (go_at_call 58;refine ((du _).out co).mono ?_;rintro r w5 ⟨a4,ak,rfl,cl,ef⟩) | ((with_reducible show Js 26);refine Ad rfl 26 _ _ rfl rfl (by first | rfl | simp) rfl Aj (rfl) rfl (by rfl) ?_))
 have dv:=Jh ef
 have cn:=Ab w5 (.cells [.slice a4 d.signals.length ak,.slice Option.none 0 0,.slice Option.none 0 0].toArray 26)
 have df:=Blk.new w5 [.slice a4 d.signals.length ak,.slice Option.none 0 0,.slice Option.none 0 0].toArray 26
 have cm:=(co.trans cl).trans cn
 have cp:=(ee.ext cl).ext cn
 have fo:=cl.size
 have be:(w5.alloc (.cells [.slice a4 d.signals.length ak,.slice Option.none 0 0,.slice Option.none 0 0].toArray 26)).heap.size=w5.heap.size+1:=by simp
 have d4:=Jh (Al.of_ext (N:=w4.heap.size) cn)
 obtain ⟨OB,cg⟩:∃ x,w5.heap.size=x:=⟨_,rfl⟩
 rw [cg] at df be fo
 rw [cg]
 generalize w5.alloc _=wA at *
 have d7:=Jh (K0.out.ext cm)
 have fc:=Jh (K1.out.ext cm)
 have fd:=Jh df
 have fe:=Jh cp
 have fb:=Jh (HX.out.trans cm)
 have ec:=Jh cg
 clear df cp ef cn cl ew ee co bw g0 cm du cg
 have fw:wA.heap.size=OB+1:=be
 have g1:=d7.out 1 _ rfl
 go_wp2_with fail
 clear g1
 go_loopw [7,8,10,39] (fun _ _ _ i wr=>∃ (k:Nat) (vv:Value),k<=d.procs.length/\i=.int .i64 k/\Bi C9 48 2 (OB+1) vv (Fj d.signals 0 (d.procs.take k)).1 wr
  /\ Blk wr OB #[.slice a4 d.signals.length ak,vv,.slice Option.none 0 0] 26/\Blk wr SB #[.slice xs d.signals.length au,.int .i64 (Fj d.signals 0 (d.procs.take k)).2] 102
  /\ Fr (fun b=>b=SB\/b=OB\/OB+1<=b) wA wr) (fun _ _ _ i _=>d.procs.length-(intOf i).toNat)
 case atStart=>exact ⟨0,_,Nat.zero_le _,rfl,Bi.nil,fd.out,fe.out,Fr.refl _ _⟩
 case round =>
  obtain ⟨k,vv,hk,rfl,af,r0,r1,hF⟩:=hrel
  have bf:=Jh af
  have R0:=Jh r0
  have R1:=Jh r1
  have cc:=Jh hF
  have fp:=hF.size
  have c6:=Jh (hF.ext fb.out (fun x hx=>by have:=HX.out.size;omega))
  clear af r0 r1 hF
  by_cases bv:k<d.procs.length
  ·obtain ⟨s1,cq,cr⟩:=Hg.get e5.out bv
   obtain rfl:=e0.out (by omega)
   have az:d.procs[k]∈d.procs:=List.getElem_mem bv
   have db:=Ui d.signals 0 d.procs k bv
   have d1:=Jh (d0.out _ az)
   have e9:=Jh (c4.out.procs _ az)
   have ei:Ap Aq d.procs[k].l<=1048576:=by
    have h1:=Bf (fun p:C0=>Ap Aq p.l) d.procs _ az
    unfold C3 at hb
    try simp only at h1
    omega
   generalize d.procs[k]=pk at *
   obtain ⟨rk,ep⟩:∃ x,Fj d.signals 0 (d.procs.take k)=x:=⟨_,rfl⟩
   have dl:(Fj d.signals 0 (d.procs.take k)).1.length=k:=by rw [P3,List.length_take];omega
   rw [ep] at bf R1 db dl
   have cu:=Jh db
   have dx:=Jh dl
   clear db dl ep
   obtain ⟨ax,bx,ox,bg,fq,a5,b0,bo,ev⟩:=cr.open
   subst fq
   have f1:=A8 Aq pk.l (fun x _=>F9 x)
   have fa:=Jh bo
   have d6:=Jh ev
   have ez:=Jh (cq.ext c6.out)
   clear cq cr bo ev
   have eu:=Ab wr (.cells (pk.cells (.slice ax pk.l.length bg)).toArray 48)
   have dd:=Has.alloc wr (pk.cells (.slice ax pk.l.length bg)) 48
   have dq:=Ab (wr.alloc (.cells (pk.cells (.slice ax pk.l.length bg)).toArray 48)) (.cells [Value.bool pk.clocked,.slice Option.none 0 0].toArray 48)
   have de:=Blk.new (wr.alloc (.cells (pk.cells (.slice ax pk.l.length bg)).toArray 48)) [Value.bool pk.clocked,.slice Option.none 0 0].toArray 48
   rw [World.size_alloc] at de
   have es:((wr.alloc (.cells (pk.cells (.slice ax pk.l.length bg)).toArray 48)).alloc (.cells [Value.bool pk.clocked,.slice Option.none 0 0].toArray 48)).heap.size=wr.heap.size+1+1:=by simp
   have g0:=dd 0 _ rfl
   go_upto_region 13 with (first | ((with_reducible show Jl 48);refine Aa rfl 48 _ rfl rfl (ez.out) Cz rfl ?_) | ((with_reducible show Js 48);refine Ad rfl 48 _ _ rfl rfl (by first | rfl | simp) rfl Cz (rfl) rfl (by rfl) ?_))
   have c0:=Jh (dd.ext dq)
   have bz:=Jh (eu.trans dq)
   have cw:=Jh de
   have c9:wr.heap.size+1<wr.heap.size+1+1:=Nat.lt_succ_self _
   clear g0 dd eu dq de
   obtain ⟨wO,rfl⟩:∃ x,x=wr:=⟨_,rfl⟩
   obtain ⟨PB,c8⟩:∃ x,wO.heap.size=x:=⟨_,rfl⟩
   rw [c8] at cw c0 es c9 fp ⊢
   have e4:=Jh c8
   clear c8
   generalize (wO.alloc _).alloc _=w2 at *
   obtain ⟨XB,da⟩:∃ x,PB+1=x:=⟨_,rfl⟩
   rw [da] at cw c9 ⊢
   obtain ⟨N2,eb⟩:∃ x,PB+1+1=x:=⟨_,rfl⟩
   rw [eb] at es
   have fy:XB+1=N2:=by omega
   have fu:PB+1=XB:=da
   clear da c9 eb
   have g1:=c0.out 1 _ rfl
   go_wp2_with fail
   clear g1
   go_loopw [10,49] (fun _ i wr=>∃ (j:Nat) (vi:Value),j<=pk.l.length/\i=.int .i64 j/\Bi VT 44 6 N2 vi (Cm d.signals pk.clocked 0 rk.2 (pk.l.take j)).1 wr/\Blk wr XB #[.bool pk.clocked,vi] 48
    /\ Blk wr SB #[.slice xs d.signals.length au,.int .i64 (Cm d.signals pk.clocked 0 rk.2 (pk.l.take j)).2] 102/\Fr (fun b=>b=SB\/b=XB\/N2<=b) w2 wr) (fun _ i _=>pk.l.length-(intOf i).toNat)
   case atStart=>exact ⟨0,_,Nat.zero_le _,rfl,Bi.nil,cw.out,R1.out.ext bz.out,Fr.refl _ _⟩
   case round =>
    obtain ⟨j,vi,hj,rfl,af,b9,ey,bk⟩:=hrel
    have am:=Jh af
    have bt:=Jh b9
    have br:=Jh ey
    have an:=Jh bk
    have et:=bk.size
    clear af b9 ey bk
    have bu:=Jh (an.out.ext (c6.out.trans bz.out) (fun x hx=>by have:=HX.out.size;omega))
    by_cases dj:j<pk.l.length
    ·obtain ⟨cs,b6,dm,bh⟩:=VT.get d6.out dj
     obtain rfl:=fa.out (by omega)
     have az:pk.l[j]∈pk.l:=List.getElem_mem dj
     have dk:=Bf Aq pk.l _ az
     have a2:=Mq d.signals pk.clocked 0 rk.2 pk.l j dj
     have cy:=Jh (b6.ext bu.out)
     have b3:=Jh (d1.out _ az)
     have c3:=Jh (e9.out _ az)
     have d5:=Jh bh
     generalize pk.l[j]=tk at *
     obtain ⟨q,hq⟩:∃ q,szT d.signals pk.clocked tk 0 (Cm d.signals pk.clocked 0 rk.2 (pk.l.take j)).2=q:=⟨_,rfl⟩
     have a1:(Cm d.signals pk.clocked 0 rk.2 (pk.l.take j)).1.length=j:=by rw [Hc,List.length_take];omega
     have a0:=fun W (hx:Ext w W) (hb:Blk W SB #[.slice xs d.signals.length au,.int .i64 (Cm d.signals pk.clocked 0 rk.2 (pk.l.take j)).2] 102)=>Qa d.signals tk pk.clocked 0 SB _ _ cs W w hb hx (by have:=HX.out.size;omega) HS.out d5.out c3.out b3.out (by omega)
     rw [hq] at a2 a0
     have cx:=Jh a0
     obtain ⟨rj,b7⟩:∃ x,(Cm d.signals pk.clocked 0 rk.2 (pk.l.take j)).1=x:=⟨_,rfl⟩
     rw [b7] at am a2 a1
     have av:=Jh a2
     have aw:=Jh a1
     clear a2 a1 b7 hq a0 b6 bh
     have ag:=Ab wr (.cells cs.toArray 44)
     have b2:=Has.alloc wr cs 44
     have fr:(wr.alloc (.cells cs.toArray 44)).heap.size=wr.heap.size+1:=by simp
     go_upto_region 16 with (first | ((with_reducible show Jl 44);refine Aa rfl 44 _ rfl rfl (cy.out) Aw dm ?_) | ((with_reducible show Js 44);refine Ad rfl 44 _ _ rfl rfl (by first | rfl | simp) rfl Aw (dm) rfl (d5.out.one) ?_))
     have dt:=(an.out.has c0.out (by omega)).ext ag
     have ag:=Jh ag
     generalize wr.alloc (.cells cs.toArray 44)=wb at *
     have a6:=Jh (cx.out wb.drew (bu.out.trans ag.out).drew (br.out.ext ag.out).drew)
     simp only [Act.put]
     refine wp_region_held_drew (S:=fun W=>Has W wr.heap.size 0 cs/\Has W PB 0 (pk.cells (.slice (some ⟨bx,ox,Option.none⟩) pk.l.length bg))) (by kernel_rfl) ⟨b2.drew,dt.drew⟩ (fun hH=>?_)
     clear b2 dt
     (refine Ji 0 _ rfl hH ?_;try simp only [J])
     (refine Ji 2 _ rfl hH ?_;try simp only [J])
     (refine Jt 3 (.agg cs.toArray) rfl (Ar rfl 44 _ rfl rfl (fun _ h=>h.1) Aw dm) hH ?_;try simp only [J])
     (refine Ji 4 _ rfl hH ?_;try simp only [J])
     (refine Jt 5 (.bool pk.clocked) rfl (yif_load1 rfl (by intro W hW;have hw:=hW.2 0 _ rfl;clear hW;go_simp)) hH ?_;try simp only [J])
     refine wpAnyH_ready (rs:=[1,6]) (by kernel_rfl) (by simp) ?_
     refine AllReadyH.cons rfl (fun K hK=>?_) (AllReadyH.cons rfl (fun K hK=>?_) AllReadyH.nil)
     ·have x1:(wb.drew).cell? ⟨XB,1,Option.none⟩=some vi:=by rw [show (wb.drew).cell? ⟨XB,1,Option.none⟩=_ from ((bt.out.ext ag.out).drew).cell 1];rfl
      go_simp
      refine hK.out _ _ ⟨hH.1,hH.2⟩ (fun hH=>?_)
      clear hK K
      try simp only [J]
      clear x1
      refine Jr 6 rfl fun K hK=>?_
      go_simp
      refine a6.out.mono ?_
      rintro r w6 ⟨ah,rfl,bi,ae,ay⟩
      have aj:=Jh ay
      have be:=ae.size
      simp only [World.heap_drew] at be
      have aa:=Ab w6 (.cells ah.toArray 44)
      have dr:(w6.alloc (.cells ah.toArray 44)).heap.size=w6.heap.size+1:=by simp
      clear ay
      refine hK.out _ _ ⟨hH.1.grown ae (by omega),hH.2.grown ae (by omega)⟩ (fun hH=>?_)
      clear hK K
      try simp only [J]
      refine Jr 7 rfl fun K hK=>?_
      refine Dg rfl _ _ rfl Nh rfl (cs:=ah) rfl aj.out.len (by decide) ?_
      refine hK.out _ _ ⟨hH.1.ext aa,hH.2.ext aa⟩ (fun hH=>?_)
      clear hK K
      try simp only [J]
      refine Jr 8 rfl fun K hK=>?_
      have ba:=Has.alloc w6 ah 44
      refine D1 (V:=VT) rfl _ _ _ rfl Nh rfl ((((am.out.since (Al.of_ext ag.out)).since (Al.of_ext (Below.drew (Below.refl _ _)))).since (Al.of_grown ae (by omega))).since (Al.of_ext aa)) rfl aj.out.len ba aj.out.one ((aj.out.ext aa).st (N:=N2) (by have bd:wb.drew.heap.size=wb.heap.size:=rfl;omega) (fun k hk=>by have:=(am.out.lt k hk).2;have bd:wb.drew.heap.size=wb.heap.size:=rfl;omega)) (by rw [aw.out];omega) (by omega) ?_
      rw [aw.out]
      intro g7 al w7 ar ab
      have ao:=Jh ar
      have bl:∀ j,vi.ownBlock=some j->N2<=j/\j<wr.heap.size:=fun j hj=>am.out.lt j hj
      have b8:=ab.size
      have u:=Jh bl
      have aq:Blk w7 XB #[.bool pk.clocked,vi] 48:=((((bt.out.ext ag.out).drew.grown ae (by omega)).ext aa).grownO ab (fun j hj=>by have:=u.out j hj;omega))
      have a8:Blk w7 SB #[.slice xs d.signals.length au,.int .i64 q.2] 102:=(bi.ext aa).grownO ab (fun j hj=>by have:=u.out j hj;omega)
      have a7:Fr (fun b=>b=SB\/b=XB\/N2<=b) w2 w7:=((((an.out.trans (Fr.of_ext ag.out)).drew.trans (Fr.of_gb ae (fun k hk=>by cases hk;exact .inl rfl))).trans (Fr.of_ext aa)).trans (Fr.of_gb ab (fun k hk=>.inr (.inr (u.out k hk).1))))
      clear bl
      refine hK.out _ _ ⟨hH.1.grownR ab (by intro e;have:=u.out _ e;omega),hH.2.grownR ab (by intro e;have:=u.out _ e;omega)⟩ (fun hH=>?_)
      clear hK K
      try simp only [J]
      (refine Ji 9 _ rfl hH ?_;try simp only [J])
      refine Jr 10 rfl fun K hK=>?_
      have x1:=aq.cell 1
      have y1:=aq.frozen 1
      simp only [List.getElem?_toArray,List.getElem?_cons_zero,List.getElem?_cons_succ] at x1
      go_simp
      have ai:=Ay w7 XB 1 (.slice (some ⟨g7,0,Option.none⟩) (j+1) al)
      have a9:=aq.set 1 (.slice (some ⟨g7,0,Option.none⟩) (j+1) al)
      refine hK.out _ _ ⟨hH.1.grown ai (by omega),hH.2.grown ai (by omega)⟩ (fun hH=>?_)
      clear hK K
      try simp only [J]
      refine Jz ?_
      clear x1 y1
      go_wp2_with fail
      go_roundw
      case rel=>exact ⟨j+1,_,by omega,by go_num,by rw [av.out];exact ao.out.since (Al.of_grown ai (by omega)),a9,by rw [av.out];exact a8.grown ai (by omega),a7.trans (Fr.of_gb ai (fun k hk=>by cases hk;exact .inr (.inl rfl)))⟩
      case measure=>simp [intOf];omega
     ·go_simp
      refine a6.out.mono ?_
      rintro r w6 ⟨ah,rfl,bi,ae,ay⟩
      have aj:=Jh ay
      have be:=ae.size
      simp only [World.heap_drew] at be
      have aa:=Ab w6 (.cells ah.toArray 44)
      have dr:(w6.alloc (.cells ah.toArray 44)).heap.size=w6.heap.size+1:=by simp
      clear ay
      refine hK.out _ _ ⟨hH.1.grown ae (by omega),hH.2.grown ae (by omega)⟩ (fun hH=>?_)
      clear hK K
      try simp only [J]
      refine wpAnyH_ready (rs:=[1,7]) (by kernel_rfl) (by simp) ?_
      refine AllReadyH.cons rfl (fun K hK=>?_) (AllReadyH.cons rfl (fun K hK=>?_) AllReadyH.nil)
      ·have x1:(w6).cell? ⟨XB,1,Option.none⟩=some vi:=by rw [show (w6).cell? ⟨XB,1,Option.none⟩=_ from (((bt.out.ext ag.out).drew.grown ae (by omega))).cell 1];rfl
       go_simp
       refine hK.out _ _ ⟨hH.1,hH.2⟩ (fun hH=>?_)
       clear hK K
       try simp only [J]
       clear x1
       refine Jr 7 rfl fun K hK=>?_
       refine Dg rfl _ _ rfl Nh rfl (cs:=ah) rfl aj.out.len (by decide) ?_
       refine hK.out _ _ ⟨hH.1.ext aa,hH.2.ext aa⟩ (fun hH=>?_)
       clear hK K
       try simp only [J]
       refine Jr 8 rfl fun K hK=>?_
       have ba:=Has.alloc w6 ah 44
       refine D1 (V:=VT) rfl _ _ _ rfl Nh rfl ((((am.out.since (Al.of_ext ag.out)).since (Al.of_ext (Below.drew (Below.refl _ _)))).since (Al.of_grown ae (by omega))).since (Al.of_ext aa)) rfl aj.out.len ba aj.out.one ((aj.out.ext aa).st (N:=N2) (by have bd:wb.drew.heap.size=wb.heap.size:=rfl;omega) (fun k hk=>by have:=(am.out.lt k hk).2;have bd:wb.drew.heap.size=wb.heap.size:=rfl;omega)) (by rw [aw.out];omega) (by omega) ?_
       rw [aw.out]
       intro g7 al w7 ar ab
       have ao:=Jh ar
       have bl:∀ j,vi.ownBlock=some j->N2<=j/\j<wr.heap.size:=fun j hj=>am.out.lt j hj
       have b8:=ab.size
       have u:=Jh bl
       have aq:Blk w7 XB #[.bool pk.clocked,vi] 48:=((((bt.out.ext ag.out).drew.grown ae (by omega)).ext aa).grownO ab (fun j hj=>by have:=u.out j hj;omega))
       have a8:Blk w7 SB #[.slice xs d.signals.length au,.int .i64 q.2] 102:=(bi.ext aa).grownO ab (fun j hj=>by have:=u.out j hj;omega)
       have a7:Fr (fun b=>b=SB\/b=XB\/N2<=b) w2 w7:=((((an.out.trans (Fr.of_ext ag.out)).drew.trans (Fr.of_gb ae (fun k hk=>by cases hk;exact .inl rfl))).trans (Fr.of_ext aa)).trans (Fr.of_gb ab (fun k hk=>.inr (.inr (u.out k hk).1))))
       clear bl
       refine hK.out _ _ ⟨hH.1.grownR ab (by intro e;have:=u.out _ e;omega),hH.2.grownR ab (by intro e;have:=u.out _ e;omega)⟩ (fun hH=>?_)
       clear hK K
       try simp only [J]
       (refine Ji 9 _ rfl hH ?_;try simp only [J])
       refine Jr 10 rfl fun K hK=>?_
       have x1:=aq.cell 1
       have y1:=aq.frozen 1
       simp only [List.getElem?_toArray,List.getElem?_cons_zero,List.getElem?_cons_succ] at x1
       go_simp
       have ai:=Ay w7 XB 1 (.slice (some ⟨g7,0,Option.none⟩) (j+1) al)
       have a9:=aq.set 1 (.slice (some ⟨g7,0,Option.none⟩) (j+1) al)
       refine hK.out _ _ ⟨hH.1.grown ai (by omega),hH.2.grown ai (by omega)⟩ (fun hH=>?_)
       clear hK K
       try simp only [J]
       refine Jz ?_
       clear x1 y1
       go_wp2_with fail
       go_roundw
       case rel=>exact ⟨j+1,_,by omega,by go_num,by rw [av.out];exact ao.out.since (Al.of_grown ai (by omega)),a9,by rw [av.out];exact a8.grown ai (by omega),a7.trans (Fr.of_gb ai (fun k hk=>by cases hk;exact .inr (.inl rfl)))⟩
       case measure=>simp [intOf];omega
      ·refine Dg rfl _ _ rfl Nh rfl (cs:=ah) rfl aj.out.len (by decide) ?_
       refine hK.out _ _ ⟨hH.1.ext aa,hH.2.ext aa⟩ (fun hH=>?_)
       clear hK K
       try simp only [J]
       refine Jr 1 rfl fun K hK=>?_
       have x1:(w6.alloc (.cells ah.toArray 44)).cell? ⟨XB,1,Option.none⟩=some vi:=by rw [show (w6.alloc (.cells ah.toArray 44)).cell? ⟨XB,1,Option.none⟩=_ from ((((bt.out.ext ag.out).drew.grown ae (by omega)).ext aa)).cell 1];rfl
       go_simp
       refine hK.out _ _ ⟨hH.1,hH.2⟩ (fun hH=>?_)
       clear hK K
       try simp only [J]
       clear x1
       refine Jr 8 rfl fun K hK=>?_
       have ba:=Has.alloc w6 ah 44
       refine D1 (V:=VT) rfl _ _ _ rfl Nh rfl ((((am.out.since (Al.of_ext ag.out)).since (Al.of_ext (Below.drew (Below.refl _ _)))).since (Al.of_grown ae (by omega))).since (Al.of_ext aa)) rfl aj.out.len ba aj.out.one ((aj.out.ext aa).st (N:=N2) (by have bd:wb.drew.heap.size=wb.heap.size:=rfl;omega) (fun k hk=>by have:=(am.out.lt k hk).2;have bd:wb.drew.heap.size=wb.heap.size:=rfl;omega)) (by rw [aw.out];omega) (by omega) ?_
       rw [aw.out]
       intro g7 al w7 ar ab
       have ao:=Jh ar
       have bl:∀ j,vi.ownBlock=some j->N2<=j/\j<wr.heap.size:=fun j hj=>am.out.lt j hj
       have b8:=ab.size
       have u:=Jh bl
       have aq:Blk w7 XB #[.bool pk.clocked,vi] 48:=((((bt.out.ext ag.out).drew.grown ae (by omega)).ext aa).grownO ab (fun j hj=>by have:=u.out j hj;omega))
       have a8:Blk w7 SB #[.slice xs d.signals.length au,.int .i64 q.2] 102:=(bi.ext aa).grownO ab (fun j hj=>by have:=u.out j hj;omega)
       have a7:Fr (fun b=>b=SB\/b=XB\/N2<=b) w2 w7:=((((an.out.trans (Fr.of_ext ag.out)).drew.trans (Fr.of_gb ae (fun k hk=>by cases hk;exact .inl rfl))).trans (Fr.of_ext aa)).trans (Fr.of_gb ab (fun k hk=>.inr (.inr (u.out k hk).1))))
       clear bl
       refine hK.out _ _ ⟨hH.1.grownR ab (by intro e;have:=u.out _ e;omega),hH.2.grownR ab (by intro e;have:=u.out _ e;omega)⟩ (fun hH=>?_)
       clear hK K
       try simp only [J]
       (refine Ji 9 _ rfl hH ?_;try simp only [J])
       refine Jr 10 rfl fun K hK=>?_
       have x1:=aq.cell 1
       have y1:=aq.frozen 1
       simp only [List.getElem?_toArray,List.getElem?_cons_zero,List.getElem?_cons_succ] at x1
       go_simp
       have ai:=Ay w7 XB 1 (.slice (some ⟨g7,0,Option.none⟩) (j+1) al)
       have a9:=aq.set 1 (.slice (some ⟨g7,0,Option.none⟩) (j+1) al)
       refine hK.out _ _ ⟨hH.1.grown ai (by omega),hH.2.grown ai (by omega)⟩ (fun hH=>?_)
       clear hK K
       try simp only [J]
       refine Jz ?_
       clear x1 y1
       go_wp2_with fail
       go_roundw
       case rel=>exact ⟨j+1,_,by omega,by go_num,by rw [av.out];exact ao.out.since (Al.of_grown ai (by omega)),a9,by rw [av.out];exact a8.grown ai (by omega),a7.trans (Fr.of_gb ai (fun k hk=>by cases hk;exact .inr (.inl rfl)))⟩
       case measure=>simp [intOf];omega
    ·obtain rfl:j=pk.l.length:=by omega
     have af:=am.out
     have rb:=br.out
     rw [List.take_length] at af rb
     obtain ⟨rq,er⟩:∃ x,Cm d.signals pk.clocked 0 rk.2 pk.l=x:=⟨_,rfl⟩
     rw [er] at af rb cu
     have d3:=Jh af
     have ff:=Jh rb
     clear af rb er am br
     have fk:Has wr XB 0 [.bool pk.clocked,vi]:=(show Blk wr XB [.bool pk.clocked,vi].toArray 48 from bt.out).has
     have hO:Blk wr OB #[.slice a4 d.signals.length ak,vv,.slice Option.none 0 0] 26:=an.out.blk (R0.out.ext bz.out) (by omega)
     have ct:=bz.out.size
     have fn:=e4.out
     have ed:Al (OB+1) wO wr:=⟨Nat.le_trans ct et,fun b h1 h2=>(an.out.block b (by omega) (by omega)).trans (bz.out.block b h2)⟩
     have cj:=Ab wr (.cells [Value.bool pk.clocked,vi].toArray 48)
     have ga:(wr.alloc (.cells [Value.bool pk.clocked,vi].toArray 48)).heap.size=wr.heap.size+1:=by simp
     have c1:=Jh ((bf.out.since ed).since (Al.of_ext cj))
     have eg:FV C9 N2 wr [.bool pk.clocked,vi] ⟨pk.clocked,rq.1⟩:=fun W hW=>⟨vi,rfl,d3.out.sl (V:=VT) (At:=TAt) (fun _ _ _ _ _ h hv=>VT.at h hv) hW⟩
     have e8:=Jh ((eg.ext cj).st (N:=OB+1) (R:=vv.ownBlock) (by omega) (fun k hk=>by have:=(bf.out.lt k hk).2;omega))
     have d2:=Jh (show [Value.bool pk.clocked,vi].all (·.oneCell')=true by simp [d3.out.one,Rk])
     have c2:=Jh (show ∀ j,vv.ownBlock=some j->OB+1<=j from fun j hj=>(bf.out.lt j hj).1)
     have HO:=Jh hO
     have z0:wr.cell? ⟨OB,1,Option.none⟩=some vv:=by rw [hO.cell];rfl
     have fl:=Jh (Has.alloc wr [Value.bool pk.clocked,vi] 48)
     have c5:=Jh cj
     clear hO eg fn ct cj
     go_wp2_with (first | ((with_reducible show Jl 48);refine Aa rfl 48 _ rfl rfl (fk) Cz rfl ?_) | ((with_reducible show Jw (Op.buildSlice _ _ _));refine B9 rfl _ _ rfl Kl rfl (cs:=[Value.bool pk.clocked,vi]) rfl rfl (by decide) ?_) | ((with_reducible show Jw (Op.call { callee:=.builtin .append,args:=_,argTypes:=_ }));refine Hid.out ?_))
     refine Jh ?_
     refine De (V:=C9) rfl _ _ _ rfl Kl rfl c1.out rfl rfl fl.out d2.out e8.out (by rw [dx.out];omega) (by omega) ?_
     rw [dx.out]
     intro g4 d9 w4 dp dg
     clear z0
     have c7:=(HO.out.ext c5.out).grownO dg (fun j hj=>by have:=c2.out j hj;omega)
     have z1:w4.cell? ⟨OB,1,Option.none⟩=some vv:=by (rw [c7.cell];rfl)
     have z2:=c7.frozen 1
     go_wp2_with fail
     have di:=Ay w4 OB 1 (.slice (some ⟨g4,0,Option.none⟩) (k+1) d9)
     go_roundw
     case rel =>
      refine ⟨k+1,_,by omega,by go_num,by rw [cu.out];exact dp.since (Al.of_grown di (by omega)),c7.set 1 _,?_,?_⟩
      ·rw [cu.out];exact (((ff.out.ext c5.out).grownO dg (fun j hj=>by have:=c2.out j hj;omega)).grown di (by omega))
      ·exact ((((cc.out.trans (Fr.of_ext bz.out)).trans (an.out.mono (fun b hb=>by omega))).trans (Fr.of_ext c5.out)).trans (Fr.of_gb dg (fun j hj=>.inr (.inr (c2.out j hj))))).trans (Fr.of_gb di (fun k hk=>by cases hk;exact .inr (.inl rfl)))
     case measure=>simp [intOf];omega
  ·obtain rfl:k=d.procs.length:=by omega
   have af:=bf.out
   have r1:=R1.out
   rw [List.take_length] at af r1
   obtain ⟨rp,eq⟩:∃ x,Fj d.signals 0 d.procs=x:=⟨_,rfl⟩
   have hm:=dy.out
   rw [eq] at af r1 hm
   have b5:=Jh af
   have fg:=Jh r1
   have dz:=Jh hm
   clear af r1 hm eq bf R1 dy
   have kd:Has wr w.heap.size 0 _:=cc.out.has d7.out (by omega)
   have g2:=kd 2 _ rfl
   clear kd
   go_wp2_with fail
   clear g2
   obtain ⟨wC,rfl⟩:∃ x,x=wr:=⟨_,rfl⟩
   go_loopw [12,74] (fun _ i wr=>∃ (k:Nat) (v3:Value),k<=d.checks.length/\i=.int .i64 k/\Bi Cf 96 9 wC.heap.size v3 (Fc rp.2 (d.checks.take k)).1 wr/\Blk wr OB #[.slice a4 d.signals.length ak,vv,v3] 26
    /\ Blk wr SB #[.slice xs d.signals.length au,.int .i64 (Fc rp.2 (d.checks.take k)).2] 102/\Fr (fun b=>b=SB\/b=OB\/wC.heap.size<=b) wC wr) (fun _ i _=>d.checks.length-(intOf i).toNat)
   case atStart=>exact ⟨0,_,Nat.zero_le _,rfl,Bi.nil,R0.out,fg.out,Fr.refl _ _⟩
   case round =>
    obtain ⟨k,v3,hk,rfl,af,ex,b9,bk⟩:=hrel
    have am:=Jh af
    have bq:=Jh ex
    have br:=Jh b9
    have an:=Jh bk
    have et:=bk.size
    have bu:=Jh (bk.ext c6.out (fun x hx=>by have:=HX.out.size;omega))
    clear af ex b9 bk
    by_cases bv:k<d.checks.length
    ·obtain ⟨s1,b6,bh⟩:=Nx.get e7.out bv
     obtain rfl:=e6.out (by omega)
     have az:d.checks[k]∈d.checks:=List.getElem_mem bv
     have dk:=Bf (fun c:Chk=>nodes c.e) d.checks _ az
     have ei:nodes d.checks[k].e<=1048576:=by
      unfold C3 at hb
      try simp only at dk
      omega
     have a2:=Ug rp.2 d.checks k bv
     have cy:=Jh (b6.ext bu.out)
     have b3:=Jh (dh.out _ az)
     have c3:=Jh (c4.out.checks _ az)
     have eh:=Jh bh
     have ch:=Jh bh.one
     clear dk
     generalize d.checks[k]=ck at *
     obtain ⟨q,hq⟩:∃ q,szE (Fc rp.2 (d.checks.take k)).2 ck.e (-1)=q:=⟨_,rfl⟩
     have a1:(Fc rp.2 (d.checks.take k)).1.length=k:=by rw [P2,List.length_take];omega
     have a0:=fun W (hx:Ext w W) (hb:Blk W SB #[.slice xs d.signals.length au,.int .i64 (Fc rp.2 (d.checks.take k)).2] 102)=>Rc ck.e (-1) SB _ _ (ck.e.cells s1) W hb ⟨s1,rfl,eh.out.ext hx⟩ c3.out b3.out ei
     rw [hq] at a2 a0
     have cx:=Jh a0
     obtain ⟨rj,b7⟩:∃ x,(Fc rp.2 (d.checks.take k)).1=x:=⟨_,rfl⟩
     rw [b7] at am a2 a1
     have av:=Jh a2
     have aw:=Jh a1
     clear a2 a1 b7 hq a0 b6 bh
     have ag:=Ab wr (.cells (ck.cells s1).toArray 96)
     have b2:=Has.alloc wr (ck.cells s1) 96
     have fr:(wr.alloc (.cells (ck.cells s1).toArray 96)).heap.size=wr.heap.size+1:=by simp
     go_upto_region 23 with (first | ((with_reducible show Jl 96);refine Aa rfl 96 _ rfl rfl (cy.out) Co rfl ?_) | ((with_reducible show Js 96);refine Ad rfl 96 _ _ rfl rfl (by first | rfl | simp) rfl Co (rfl) rfl (by simp [ch.out,Bc,Ft]) ?_))
     have ag:=Jh ag
     generalize wr.alloc (.cells (ck.cells s1).toArray 96)=wb at *
     have a6:=Jh (cx.out wb.drew (bu.out.trans ag.out).drew (br.out.ext ag.out).drew)
     simp only [Act.put]
     refine wp_region_held_drew (S:=fun W=>Has W wr.heap.size 0 (ck.cells s1)) (by kernel_rfl) b2.drew (fun hH=>?_)
     clear b2
     (refine Ji 0 _ rfl hH ?_;try simp only [J])
     (refine Ji 2 _ rfl hH ?_;try simp only [J])
     (refine Jt 3 (.string ck.name) rfl (yif_load1 rfl (by intro W hW;have hw:=hW 0 _ rfl;clear hW;go_simp)) hH ?_;try simp only [J])
     (refine Ji 4 _ rfl hH ?_;try simp only [J])
     (refine Ji 5 _ rfl hH ?_;try simp only [J])
     (refine Jt 6 (.agg (ck.e.cells s1).toArray) rfl (Ar rfl 40 _ rfl rfl (fun _ h=>h.tail) Ah rfl) hH ?_;try simp only [J])
     refine wpAnyH_ready (rs:=[1,7]) (by kernel_rfl) (by simp) ?_
     refine AllReadyH.cons rfl (fun K hK=>?_) (AllReadyH.cons rfl (fun K hK=>?_) AllReadyH.nil)
     ·have x1:(wb.drew).cell? ⟨OB,2,Option.none⟩=some v3:=by rw [show (wb.drew).cell? ⟨OB,2,Option.none⟩=_ from ((bq.out.ext ag.out).drew).cell 2];rfl
      go_simp
      refine hK.out _ _ hH (fun hH=>?_)
      clear hK K
      try simp only [J]
      clear x1
      refine Jr 7 rfl fun K hK=>?_
      go_simp
      refine a6.out.mono ?_
      rintro r w6 ⟨ah,rfl,bi,ae,ay⟩
      obtain ⟨s6,rfl,bm⟩:=ay.here
      have ce:=Jh bm.one
      have aj:=Jh (show FV Cf wb.drew.heap.size w6 (Chk.cells ⟨ck.name,q.1⟩ s6) ⟨ck.name,q.1⟩ from fun W hW=>by
       obtain ⟨s,hs,h⟩:=ay W hW
       have:s6=s:=by simpa [E.cells] using hs
       exact ⟨s6,rfl,by rw [this];exact h⟩)
      have be:=ae.size
      simp only [World.heap_drew] at be
      have aa:=Ab w6 (.cells (Chk.cells ⟨ck.name,q.1⟩ s6).toArray 96)
      have dr:(w6.alloc (.cells (Chk.cells ⟨ck.name,q.1⟩ s6).toArray 96)).heap.size=w6.heap.size+1:=by simp
      clear ay bm
      refine hK.out _ _ (hH.grown ae (by omega)) (fun hH=>?_)
      clear hK K
      try simp only [J]
      (refine Jk 8 (.agg (Chk.cells ⟨ck.name,q.1⟩ s6).toArray) rfl hH ?_;try simp only [J])
      refine Jr 9 rfl fun K hK=>?_
      refine Dg rfl _ _ rfl F2 rfl (cs:=Chk.cells ⟨ck.name,q.1⟩ s6) rfl rfl (by decide) ?_
      refine hK.out _ _ (hH.ext aa) (fun hH=>?_)
      clear hK K
      try simp only [J]
      refine Jr 10 rfl fun K hK=>?_
      have ba:=Has.alloc w6 (Chk.cells ⟨ck.name,q.1⟩ s6) 96
      refine D1 (V:=Cf) rfl _ _ _ rfl F2 rfl ((((am.out.since (Al.of_ext ag.out)).since (Al.of_ext (Below.drew (Below.refl _ _)))).since (Al.of_grown ae (by omega))).since (Al.of_ext aa)) rfl rfl ba (by simp [ce.out,Bc,Ft]) ((aj.out.ext aa).st (N:=wC.heap.size) (by have bd:wb.drew.heap.size=wb.heap.size:=rfl;omega) (fun k hk=>by have:=(am.out.lt k hk).2;have bd:wb.drew.heap.size=wb.heap.size:=rfl;omega)) (by rw [aw.out];omega) (by omega) ?_
      rw [aw.out]
      intro g7 al w7 ar ab
      have ao:=Jh ar
      have b8:=ab.size
      have u:=Jh (show ∀ j,v3.ownBlock=some j->wC.heap.size<=j/\j<wr.heap.size from fun j hj=>am.out.lt j hj)
      have aq:Blk w7 OB #[.slice a4 d.signals.length ak,vv,v3] 26:=((((bq.out.ext ag.out).drew.grown ae (by omega)).ext aa).grownO ab (fun j hj=>by have:=u.out j hj;omega))
      have a8:Blk w7 SB #[.slice xs d.signals.length au,.int .i64 q.2] 102:=(bi.ext aa).grownO ab (fun j hj=>by have:=u.out j hj;omega)
      have a7:Fr (fun b=>b=SB\/b=OB\/wC.heap.size<=b) wC w7:=((((an.out.trans (Fr.of_ext ag.out)).drew.trans (Fr.of_gb ae (fun k hk=>by cases hk;exact .inl rfl))).trans (Fr.of_ext aa)).trans (Fr.of_gb ab (fun k hk=>.inr (.inr (u.out k hk).1))))
      refine hK.out _ _ (hH.grownR ab (by intro e;have:=u.out _ e;omega)) (fun hH=>?_)
      clear hK K
      try simp only [J]
      (refine Ji 11 _ rfl hH ?_;try simp only [J])
      refine Jr 12 rfl fun K hK=>?_
      have x1:w7.cell? ⟨OB,2,Option.none⟩=some v3:=by rw [aq.cell];rfl
      have y1:=aq.frozen 2
      go_simp
      have ai:=Ay w7 OB 2 (.slice (some ⟨g7,0,Option.none⟩) (k+1) al)
      have a9:=aq.set 2 (.slice (some ⟨g7,0,Option.none⟩) (k+1) al)
      refine hK.out _ _ (hH.grown ai (by omega)) (fun hH=>?_)
      clear hK K
      try simp only [J]
      refine Jz ?_
      clear x1 y1
      go_wp2_with fail
      go_roundw
      case rel=>exact ⟨k+1,_,by omega,by go_num,by rw [av.out];exact ao.out.since (Al.of_grown ai (by omega)),a9,by rw [av.out];exact a8.grown ai (by omega),a7.trans (Fr.of_gb ai (fun k hk=>by cases hk;exact .inr (.inl rfl)))⟩
      case measure=>simp [intOf];omega
     ·go_simp
      refine a6.out.mono ?_
      rintro r w6 ⟨ah,rfl,bi,ae,ay⟩
      obtain ⟨s6,rfl,bm⟩:=ay.here
      have ce:=Jh bm.one
      have aj:=Jh (show FV Cf wb.drew.heap.size w6 (Chk.cells ⟨ck.name,q.1⟩ s6) ⟨ck.name,q.1⟩ from fun W hW=>by
       obtain ⟨s,hs,h⟩:=ay W hW
       have:s6=s:=by simpa [E.cells] using hs
       exact ⟨s6,rfl,by rw [this];exact h⟩)
      have be:=ae.size
      simp only [World.heap_drew] at be
      have aa:=Ab w6 (.cells (Chk.cells ⟨ck.name,q.1⟩ s6).toArray 96)
      have dr:(w6.alloc (.cells (Chk.cells ⟨ck.name,q.1⟩ s6).toArray 96)).heap.size=w6.heap.size+1:=by simp
      clear ay bm
      refine hK.out _ _ (hH.grown ae (by omega)) (fun hH=>?_)
      clear hK K
      try simp only [J]
      (refine Jk 8 (.agg (Chk.cells ⟨ck.name,q.1⟩ s6).toArray) rfl hH ?_;try simp only [J])
      refine wpAnyH_ready (rs:=[1,9]) (by kernel_rfl) (by simp) ?_
      refine AllReadyH.cons rfl (fun K hK=>?_) (AllReadyH.cons rfl (fun K hK=>?_) AllReadyH.nil)
      ·have x1:(w6).cell? ⟨OB,2,Option.none⟩=some v3:=by rw [show (w6).cell? ⟨OB,2,Option.none⟩=_ from (((bq.out.ext ag.out).drew.grown ae (by omega))).cell 2];rfl
       go_simp
       refine hK.out _ _ hH (fun hH=>?_)
       clear hK K
       try simp only [J]
       clear x1
       refine Jr 9 rfl fun K hK=>?_
       refine Dg rfl _ _ rfl F2 rfl (cs:=Chk.cells ⟨ck.name,q.1⟩ s6) rfl rfl (by decide) ?_
       refine hK.out _ _ (hH.ext aa) (fun hH=>?_)
       clear hK K
       try simp only [J]
       refine Jr 10 rfl fun K hK=>?_
       have ba:=Has.alloc w6 (Chk.cells ⟨ck.name,q.1⟩ s6) 96
       refine D1 (V:=Cf) rfl _ _ _ rfl F2 rfl ((((am.out.since (Al.of_ext ag.out)).since (Al.of_ext (Below.drew (Below.refl _ _)))).since (Al.of_grown ae (by omega))).since (Al.of_ext aa)) rfl rfl ba (by simp [ce.out,Bc,Ft]) ((aj.out.ext aa).st (N:=wC.heap.size) (by have bd:wb.drew.heap.size=wb.heap.size:=rfl;omega) (fun k hk=>by have:=(am.out.lt k hk).2;have bd:wb.drew.heap.size=wb.heap.size:=rfl;omega)) (by rw [aw.out];omega) (by omega) ?_
       rw [aw.out]
       intro g7 al w7 ar ab
       have ao:=Jh ar
       have b8:=ab.size
       have u:=Jh (show ∀ j,v3.ownBlock=some j->wC.heap.size<=j/\j<wr.heap.size from fun j hj=>am.out.lt j hj)
       have aq:Blk w7 OB #[.slice a4 d.signals.length ak,vv,v3] 26:=((((bq.out.ext ag.out).drew.grown ae (by omega)).ext aa).grownO ab (fun j hj=>by have:=u.out j hj;omega))
       have a8:Blk w7 SB #[.slice xs d.signals.length au,.int .i64 q.2] 102:=(bi.ext aa).grownO ab (fun j hj=>by have:=u.out j hj;omega)
       have a7:Fr (fun b=>b=SB\/b=OB\/wC.heap.size<=b) wC w7:=((((an.out.trans (Fr.of_ext ag.out)).drew.trans (Fr.of_gb ae (fun k hk=>by cases hk;exact .inl rfl))).trans (Fr.of_ext aa)).trans (Fr.of_gb ab (fun k hk=>.inr (.inr (u.out k hk).1))))
       refine hK.out _ _ (hH.grownR ab (by intro e;have:=u.out _ e;omega)) (fun hH=>?_)
       clear hK K
       try simp only [J]
       (refine Ji 11 _ rfl hH ?_;try simp only [J])
       refine Jr 12 rfl fun K hK=>?_
       have x1:w7.cell? ⟨OB,2,Option.none⟩=some v3:=by rw [aq.cell];rfl
       have y1:=aq.frozen 2
       go_simp
       have ai:=Ay w7 OB 2 (.slice (some ⟨g7,0,Option.none⟩) (k+1) al)
       have a9:=aq.set 2 (.slice (some ⟨g7,0,Option.none⟩) (k+1) al)
       refine hK.out _ _ (hH.grown ai (by omega)) (fun hH=>?_)
       clear hK K
       try simp only [J]
       refine Jz ?_
       clear x1 y1
       go_wp2_with fail
       go_roundw
       case rel=>exact ⟨k+1,_,by omega,by go_num,by rw [av.out];exact ao.out.since (Al.of_grown ai (by omega)),a9,by rw [av.out];exact a8.grown ai (by omega),a7.trans (Fr.of_gb ai (fun k hk=>by cases hk;exact .inr (.inl rfl)))⟩
       case measure=>simp [intOf];omega
      ·refine Dg rfl _ _ rfl F2 rfl (cs:=Chk.cells ⟨ck.name,q.1⟩ s6) rfl rfl (by decide) ?_
       refine hK.out _ _ (hH.ext aa) (fun hH=>?_)
       clear hK K
       try simp only [J]
       refine Jr 1 rfl fun K hK=>?_
       have x1:(w6.alloc (.cells (Chk.cells ⟨ck.name,q.1⟩ s6).toArray 96)).cell? ⟨OB,2,Option.none⟩=some v3:=by rw [show (w6.alloc (.cells (Chk.cells ⟨ck.name,q.1⟩ s6).toArray 96)).cell? ⟨OB,2,Option.none⟩=_ from ((((bq.out.ext ag.out).drew.grown ae (by omega)).ext aa)).cell 2];rfl
       go_simp
       refine hK.out _ _ hH (fun hH=>?_)
       clear hK K
       try simp only [J]
       clear x1
       refine Jr 10 rfl fun K hK=>?_
       have ba:=Has.alloc w6 (Chk.cells ⟨ck.name,q.1⟩ s6) 96
       refine D1 (V:=Cf) rfl _ _ _ rfl F2 rfl ((((am.out.since (Al.of_ext ag.out)).since (Al.of_ext (Below.drew (Below.refl _ _)))).since (Al.of_grown ae (by omega))).since (Al.of_ext aa)) rfl rfl ba (by simp [ce.out,Bc,Ft]) ((aj.out.ext aa).st (N:=wC.heap.size) (by have bd:wb.drew.heap.size=wb.heap.size:=rfl;omega) (fun k hk=>by have:=(am.out.lt k hk).2;have bd:wb.drew.heap.size=wb.heap.size:=rfl;omega)) (by rw [aw.out];omega) (by omega) ?_
       rw [aw.out]
       intro g7 al w7 ar ab
       have ao:=Jh ar
       have b8:=ab.size
       have u:=Jh (show ∀ j,v3.ownBlock=some j->wC.heap.size<=j/\j<wr.heap.size from fun j hj=>am.out.lt j hj)
       have aq:Blk w7 OB #[.slice a4 d.signals.length ak,vv,v3] 26:=((((bq.out.ext ag.out).drew.grown ae (by omega)).ext aa).grownO ab (fun j hj=>by have:=u.out j hj;omega))
       have a8:Blk w7 SB #[.slice xs d.signals.length au,.int .i64 q.2] 102:=(bi.ext aa).grownO ab (fun j hj=>by have:=u.out j hj;omega)
       have a7:Fr (fun b=>b=SB\/b=OB\/wC.heap.size<=b) wC w7:=((((an.out.trans (Fr.of_ext ag.out)).drew.trans (Fr.of_gb ae (fun k hk=>by cases hk;exact .inl rfl))).trans (Fr.of_ext aa)).trans (Fr.of_gb ab (fun k hk=>.inr (.inr (u.out k hk).1))))
       refine hK.out _ _ (hH.grownR ab (by intro e;have:=u.out _ e;omega)) (fun hH=>?_)
       clear hK K
       try simp only [J]
       (refine Ji 11 _ rfl hH ?_;try simp only [J])
       refine Jr 12 rfl fun K hK=>?_
       have x1:w7.cell? ⟨OB,2,Option.none⟩=some v3:=by rw [aq.cell];rfl
       have y1:=aq.frozen 2
       go_simp
       have ai:=Ay w7 OB 2 (.slice (some ⟨g7,0,Option.none⟩) (k+1) al)
       have a9:=aq.set 2 (.slice (some ⟨g7,0,Option.none⟩) (k+1) al)
       refine hK.out _ _ (hH.grown ai (by omega)) (fun hH=>?_)
       clear hK K
       try simp only [J]
       refine Jz ?_
       clear x1 y1
       go_wp2_with fail
       go_roundw
       case rel=>exact ⟨k+1,_,by omega,by go_num,by rw [av.out];exact ao.out.since (Al.of_grown ai (by omega)),a9,by rw [av.out];exact a8.grown ai (by omega),a7.trans (Fr.of_gb ai (fun k hk=>by cases hk;exact .inr (.inl rfl)))⟩
       case measure=>simp [intOf];omega
    ·obtain rfl:k=d.checks.length:=by omega
     have af:=am.out
     have r1:=br.out
     rw [List.take_length] at af r1
     obtain ⟨rc,eo⟩:∃ x,Fc rp.2 d.checks=x:=⟨_,rfl⟩
     have hm:=dz.out
     rw [eo] at af r1 hm
     have b4:=Jh af
     have d8:=Jh r1
     have cd:=Jh hm
     clear af r1 hm eo am br dz
     have fx:=HX.out.size
     have z1:wr.cell? ⟨SB,1,Option.none⟩=some (.int .i64 rc.2):=by rw [d8.out.cell];rfl
     have ea:Blk wr (w.heap.size+1) Fk.toArray 26:=an.out.blk (cc.out.blk fc.out (by omega)) (by omega)
     by_cases he:rc.2=0
     ·have b1:(rc.2 != 0)=false:=by rw [bne_eq_false_iff_eq];exact he
      have hm:=cd.out
      rw [if_neg (by simp [he])] at hm
      have cz:=Jh hm
      have fi:Has wr OB 0 [.slice a4 d.signals.length ak,vv,v3]:=(show Blk wr OB [.slice a4 d.signals.length ak,vv,v3].toArray 26 from bq.out).has
      have HE:=Jh he
      clear hm he cd
      have ch:=Jh (show [Value.slice a4 d.signals.length ak,vv,v3].all (·.oneCell')=true by simp [b5.out.one,b4.out.one];rfl)
      go_wp2_with (first | ((with_reducible show Jl 26);refine Aa rfl 26 _ rfl rfl (fi) Aj rfl ?_) | ((with_reducible show Js 26);refine Ac rfl 26 _ _ rfl ea rfl (cs:=[.slice a4 d.signals.length ak,vv,v3]) rfl Aj rfl rfl ch.out ?_;intro w9 bj a3))
      have f8:=a3.size
      refine Ak rfl rfl rfl bj.has Aj rfl rfl (.inr ⟨_,_,_,_,cz.out,rfl,⟨_,_,_,rfl,?_,?_,?_⟩,bu.out.grown a3 (by omega)⟩)
      ·refine dv.out _ ⟨?_,fun b h1 h2=>?_⟩
       ·have h1:=d4.out.1
        omega
       ·have fz:=ec.out
        exact (a3.block b (by omega) (by intro e;injection e;omega)).trans ((an.out.block b (by omega) (by omega)).trans ((cc.out.block b (by omega) (by omega)).trans (d4.out.2 b h1 h2)))
      ·refine b5.out.sl (V:=C9) (At:=Cy) (fun _ _ _ _ _ h hv=>C9.at h hv) ⟨by omega,fun b h1 h2=>?_⟩
       exact (a3.block b (by omega) (by intro e;injection e;omega)).trans (an.out.block b (by omega) (by omega))
      ·exact b4.out.sl (V:=Cf) (At:=Dr) (fun _ _ _ _ _ h hv=>Cf.at h hv) (Al.of_grown a3 (by omega))
     ·have b1:(rc.2 != 0)=true:=by rw [bne_iff_ne];exact he
      have hm:=cd.out
      rw [if_pos he] at hm
      have cz:=Jh hm
      have HE:=Jh he
      clear hm he cd
      go_upto_region 26 with fail
      refine wp_region_held_drew (S:=fun W=>W.cell? ⟨SB,1,Option.none⟩=some (.int .i64 rc.2)) (by kernel_rfl) z1 (fun hH=>?_)
      clear z1 b1
      (refine Jk 0 (.agg Fk.toArray) rfl hH ?_;try simp only [J])
      (refine Ji 1 _ rfl hH ?_;try simp only [J])
      (refine Jk 2 (.pointer (some ⟨SB,0,Option.none⟩)) rfl hH ?_;try simp only [J])
      (refine Ji 3 _ rfl hH ?_;try simp only [J])
      (refine Jt 4 (.int .i64 rc.2) rfl (yif_load1 rfl (by intro W hW;go_simp)) hH ?_;try simp only [J])
      refine Jr 5 rfl fun K hK=>?_
      refine D2 rfl 26 _ _ rfl ea.drew rfl (cs:=Fk) rfl Aj rfl rfl rfl ?_
      intro w9 bj a3
      have fj:=d8.out.drew.grown a3 (by omega)
      refine hK.out _ _ (by rw [fj.cell];rfl) (fun hH=>?_)
      clear hK K
      try simp only [J]
      (refine Ji 6 _ rfl hH ?_;try simp only [J])
      refine Jz ?_
      go_wp2_with fail
      refine Ak rfl rfl rfl bj.has Aj rfl rfl (.inl ⟨_,cz.out,HE.out,rfl,bu.out.drew.grown a3 (by omega)⟩)
end Go.Proofs.YtbliplladmamoaaGreat
