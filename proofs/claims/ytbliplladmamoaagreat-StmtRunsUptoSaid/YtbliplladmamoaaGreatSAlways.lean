/- Laws and walks that a claim of this seat leans on: Always. -/
import Derived.Test.YtbliplladmamoaaGreatS13
import Derived.Test.YtbliplladmamoaaGreatS00
set_option maxRecDepth 100000
set_option maxHeartbeats 8000000
set_option linter.all false
namespace Go.Proofs.YtbliplladmamoaaGreat
open Go.RowKit
/-! ### stmt.always -/
def Fn (offs:List Int) (l:List T):Prop:=∀ (w:World) (ov lv:Value),Ints w ov offs->Ts w lv l ->
 Calls Tryz.prog 33 #[ov,lv] w fun r w'=>∃ v,r=.returned v/\Au w.heap.size v (F8 offs l) w'/\Ext w w'
theorem Au.fv {M:Nat} {v:Value} {l:List Int} {w:World} (h:Au M v l w):FV Qs M w [v] l:=fun W hW =>
 ⟨v,rfl,(h.keep fun k hk o ho=>(hW.2 k (h.at hk).1 (Array.getElem?_eq_some_iff.1 ho).1).trans ho).cells⟩
theorem Bi.blk {α:Type} {V:World->List Value->α->Prop} {e:TypeId} {size N:Nat} {v:Value} {r:List α} {w:World} (h:Bi V e size N v r w) {k:Nat} (hk:v.ownBlock=some k):N<=k/\∃ j,Blk w k j e:=by
 obtain ⟨css,h1,-⟩:=h
 rcases h1.2 with ⟨rfl,h0⟩ | ⟨g,cap,j,rfl,hb,hg,-⟩
 ·cases hk
 ·cases hk;exact ⟨hb,j,hg⟩
theorem Bi.intsL {N:Nat} {v:Value} {r:List (List Int)} {w:World} (h:Bi Qs 49 1 N v r w):Qo w v r :=
 Bi.sl (At:=fun w (x:List Int) b o=>∃ u,Has w b o [u]/\Ints w u x) (fun _ _ _ _ _ h hv=>Qs.at h hv) h (Al.refl _ _)
theorem Acs {w:World} {B:Nat} {s:Cb} (h:Blk w B s.cells.toArray 70):Ac8 w (.slice (some ⟨B,0,none⟩) 1 1) [s] :=
 ⟨B,0,⟨_,1,rfl,Nat.le_refl _,by decide,fun _=>rfl⟩,h.has,trivial⟩
theorem Pn (aa:List Int) (er:∀ o∈aa,0<=o/\o<=1099511627776) (l:List T) (d7:∀ t∈l,Hf aa t) (hn:Ap Aq l<=1048576)
  (ew:∀ t∈l,Fn aa t.l) (ex:∀ t∈l,∀ x∈t.l,Fn aa x.l):Fn aa l:=by
 intro w ov lv ho hl
 have HO:=Jh ho
 have gg:=Jh er
 have gi:=Jh d7
 have gk:=Jh ew
 have gl:=Jh ex
 have gv:=Nat.le_trans (A8 Aq l fun t _=>F9 t) hn
 have gf:=Jh hn
 have ee:=Jh (show ∀ k,(Nf aa (l.take k)).length<=64*1048576 from by
  intro k
  have gu:∀ m:List T,(∀ t∈m,Hf aa t)->(Nf aa m).length<=64*Ap Aq m:=by
   intro m
   induction m with
   | nil=>intro _;simp [Nf]
   | cons y m ih =>
    intro hm
    have q1:=(Ng aa y (hm y (by simp))).1
    have q2:=ih fun z hz=>hm z (by simp [hz])
    simp only [Nf,List.map_cons,List.flatten_cons,List.length_append,Ap] at q2 ⊢
    omega
  have:=gu (l.take k) fun t ht=>d7 t (List.mem_of_mem_take ht)
  have:=Bz Aq l k
  omega)
 have gw:=ho.one
 obtain ⟨al,bl,ol,cl,rfl,gx,gy,ek,ep⟩:=hl.open
 have ga:=Jh ek
 have gc:=Jh ep
 clear er d7 ew ex hn ho hl ek ep
 go_enter Tryz.func33,Tryz.ntmps33
 go_wp2_with fail
 refine wp_loop (fun a wr=>∃ (k:Nat) (u x7 x8 ey ez eh e0 e5 e6 e7 e8 e9 fa fb fc fd fe ff fg fi fj fk fl fm fn fo fp fq fr fs ft fu fw fx fy fz fh f0 f1 f2 f3 f4 f5 f6 f7 f8 f9:Value),a=⟨#[ov,.slice al l.length cl,undef,undef,.slice Option.none 0 0,u,undef,x7,x8,undef,ey,.slice al l.length cl,.int .i64 l.length,.int .i64 (k:Int),ez,eh,e0,e5,e6,e7,e8,e9,fa,fb,fc,fd,fe,ff,fg,fi,fj,fk,fl,fm,fn,fo,fp,fq,fr,fs,ft,fu,fw,fx,fy,fz,fh,f0,f1,f2,f3,f4,f5,f6,f7,f8,f9,undef,undef,undef,undef],[]⟩ /\
  k<=l.length/\Au w.heap.size u (Nf aa (l.take k)) wr/\Ext w wr) (fun a _=>l.length-(intOf (a.tmps.getD 13 undef)).toNat)
  ⟨0,_,_,_,_,_,_,_,_,_,_,_,_,_,_,_,_,_,_,_,_,_,_,_,_,_,_,_,_,_,_,_,_,_,_,_,_,_,_,_,_,_,_,_,_,_,_,_,rfl,Nat.zero_le _,Au.nil _ _,Below.refl _ _⟩ ?_
 rintro a wr ⟨k,u,x7,x8,ey,ez,eh,e0,e5,e6,e7,e8,e9,fa,fb,fc,fd,fe,ff,fg,fi,fj,fk,fl,fm,fn,fo,fp,fq,fr,fs,ft,fu,fw,fx,fy,fz,fh,f0,f1,f2,f3,f4,f5,f6,f7,f8,f9,rfl,hk,au,hx⟩
 have bc:=Jh au
 have HX:=Jh hx
 have gh:=hx.size
 clear au hx
 by_cases bq:k<l.length
 ·obtain rfl:=ga.out (by omega)
  obtain ⟨s1,s2,dp,he,ht⟩:=Ts.get gc.out bq
  have a9:=Abm aa l k bq
  have dq:=gi.out _ (List.getElem_mem bq)
  have i1:=gk.out _ (List.getElem_mem bq)
  have i2:=gl.out _ (List.getElem_mem bq)
  have aj:=ee.out (k+1)
  rw [a9,List.length_append] at aj
  have br:=Bf Aq l _ (List.getElem_mem bq)
  generalize l[k]=t at *
  have ab:=U2 aa t
  obtain ⟨bs,dr⟩:∃ bs,Nf aa (l.take k)=bs:=⟨_,rfl⟩
  rw [dr] at bc aj a9
  have a4:=Jh a9
  have ar:=Jh ab
  have I1:=Jh i1
  have I2:=Jh i2
  have bb:=Jh dq
  have bp:=Jh aj
  have ed:=Jh (show Aq t<=1048576 from Nat.le_trans br gf.out)
  have gb:=Jh (dp.ext HX.out)
  have dh:=Jh ht
  have eb:=he.one
  have eg:=ht.one
  clear a9 ab i1 i2 dq aj dp he ht dr br
  have d9:=Ab wr (.cells (t.cells s1 s2).toArray 44)
  have d4:=Blk.new wr (t.cells s1 s2).toArray 44
  have eu:=bc.out.ext d9
  have d8:(wr.alloc (.cells (t.cells s1 s2).toArray 44)).heap.size=wr.heap.size+1:=by simp
  have ej:=HX.out.trans d9
  go_upto_region 5 with (first | ((with_reducible show Jl 44);refine Aa rfl 44 _ rfl rfl (gb.out) Aw rfl ?_) | ((with_reducible show Js 44);refine Ad rfl 44 _ _ rfl rfl (by first | rfl | simp) rfl Aw (rfl) rfl (by simp [eb,eg,Bc]) ?_))
  generalize wr.alloc _=w4 at *
  obtain ⟨B4,go⟩:∃ B4,wr.heap.size=B4:=⟨_,rfl⟩
  rw [go] at d4 d8 ⊢
  have bf:=Jh d4
  have af:=Jh ej
  have ak:=Jh eu
  clear d4 ej eu d9
  have g0:=bf.out.has 0 _ rfl
  by_cases o1:t.op=1
  ·have b1:(t.op==1)=true:=by rw [o1];rfl
   have ab:=ar.out
   rw [if_pos o1] at ab
   have av:=Jh ab
   have eq:=((Gb _ _).1 bb.out).1 o1
   have gd:=Jh eq
   clear ab ar o1 eq
   go_upto_region 8 with fail
   go_wp2_with (first | ((with_reducible show Jl 44);refine Aa rfl 44 _ rfl rfl (bf.out.has) Aw rfl ?_) | (go_at_call 32;refine (Nm t s1 s2 eb eg _).mono ?_;rintro r w5 ⟨rfl,an⟩) | ((with_reducible show Jw (Op.buildSlice _ _ _));refine Hid.out ?_))
   refine Jh ?_
   refine B9 rfl _ _ rfl Km rfl (cs:=(Fh t).cells) rfl rfl (by decide) ?_
   have ba:=Ab w5 (.cells (Fh t).cells.toArray 70)
   have em:=Blk.new w5 (Fh t).cells.toArray 70
   have bo:=an.size
   generalize w5.alloc _=w6 at *
   have ge:=Jh (Iu aa [Fh t] ov _ w6 (Ints.ext HO.out (af.out.trans (an.trans ba))) (Acs em) (by intro s hs;rw [List.mem_singleton.1 hs];exact gd.out) gg.out (by simp))
   go_wp2_with (first | (go_at_call 30;refine ge.out.mono ?_;rintro r w7 ⟨v7,rfl,az,ac⟩) | ((with_reducible show Jw (Op.call { callee:=.builtin .append,args:=_,argTypes:=_ }));refine Hid.out ?_))
   refine Jh ?_
   have am:=(an.trans ba).trans ac
   have aj:=bp.out
   rw [av.out] at aj
   have hz:=af.out.size
   have a3:=am.size
   refine Ik rfl _ _ rfl rfl (ak.out.ext am) rfl az.cells (by omega) (by omega) ?_
   intro v8 w8 ao ag
   have a2:Ext w w8:=Ext.grownO (af.out.trans am) ag (fun j hj=>(ak.out.at hj).1)
   rw [<-av.out,<-a4.out] at ao
   have aw:=Jh ao
   clear ao ag az ac ba an em aj am hz a3 bo
   go_wp2_with fail
   exact ⟨⟨k+1,_,_,_,_,_,_,_,_,_,_,_,_,_,_,_,_,_,_,_,_,_,_,_,_,_,_,_,_,_,_,_,_,_,_,_,_,_,_,_,_,_,_,_,_,_,_,_,rfl,by omega,aw.out,a2⟩,by simp [intOf];omega⟩
  ·have b1:(t.op==1)=false:=by rw [beq_eq_false_iff_ne];exact o1
   by_cases o2:t.op=2\/t.op=3
   ·rcases o2 with o2 | o2
    ·have b2:(t.op==2)=true:=by rw [o2];rfl
     have bj:=((Gb _ _).1 bb.out).2.1 (by omega)
     have ab:=ar.out
     rw [if_neg o1,if_pos (by omega)] at ab
     have av:=Jh ab
     have bd:=((Gb _ _).1 bb.out).2.2
     have bz:=Jh bd
     have d6:=Ca t
     have br:=ed.out
     have bx:=Jh (show Ap Aq t.l<=1048576 by omega)
     have gr:=Nat.le_trans (A8 Aq t.l fun t _=>F9 t) bx.out
     obtain ⟨gm,bt,ot,ct,rfl,gp,gq,b6,cb⟩:=dh.out.open
     obtain rfl:=b6 bj
     have d0:=Jh cb
     have dv:=Jh bj
     clear ab ar o1 o2 bd d6 br b6 cb bj
     have g5:=bf.out.has 5 _ rfl
     go_wp2_with fail
     clear g0 g5 b2
     refine wp_loop (fun a wi=>∃ (j:Nat) (y cd ce cf cg ci cj cm cn co cp cq cr cu cv cw cx cz ch c0 c1 c2 c3 c4 c5 c7 c8 c9 da db dc dd de df dg di dj dk dl dm dn:Value),a=⟨#[ov,.slice (some ⟨bl,ol,Option.none⟩) l.length cl,undef,undef,.slice Option.none 0 0,u,undef,.pointer (some ⟨B4,0,Option.none⟩),y,undef,cd,.slice (some ⟨bl,ol,Option.none⟩) l.length cl,.int .i64 l.length,.int .i64 (k:Int),.bool true,ce,cf,cg,ci,cj,cm,cn,co,cp,cq,cr,cu,cv,cw,cx,cz,ch,c0,c1,c2,c3,c4,c5,.slice (some ⟨bt,ot,Option.none⟩) t.l.length ct,.int .i64 t.l.length,.int .i64 (j:Int),c7,c8,c9,da,db,dc,dd,de,df,dg,di,dj,dk,dl,dm,dn,undef,undef,undef,undef],[]⟩ /\
      j<=t.l.length/\Bi Qs 49 1 w.heap.size y ((t.l.take j).map fun x=>F8 aa x.l) wi/\Au w.heap.size u bs wi/\Ext w wi) (fun a _=>t.l.length-(intOf (a.tmps.getD 40 undef)).toNat)
      ⟨0,_,_,_,_,_,_,_,_,_,_,_,_,_,_,_,_,_,_,_,_,_,_,_,_,_,_,_,_,_,_,_,_,_,_,_,_,_,_,_,_,_,rfl,Nat.zero_le _,Bi.nil,ak.out,af.out⟩ ?_
     clear ak af bf d8
     rintro a wi ⟨j,y,cd,ce,cf,cg,ci,cj,cm,cn,co,cp,cq,cr,cu,cv,cw,cx,cz,ch,c0,c1,c2,c3,c4,c5,c7,c8,c9,da,db,dc,dd,de,df,dg,di,dj,dk,dl,dm,dn,rfl,hj,aq,au,hx⟩
     have ae:=Jh aq
     have ak:=Jh au
     have af:=Jh hx
     have ev:=hx.size
     obtain ⟨ay,cy,hy,ea⟩:=aq.open
     have a7:((t.l.take j).map fun x=>F8 aa x.l).length=j:=by simp;omega
     rw [a7] at hy
     subst hy
     clear aq au hx ea
     by_cases bi:j<t.l.length
     ·obtain ⟨q1,q2,ca,b9,bm⟩:=Ts.get d0.out bi
      have a1:(t.l.take (j+1)).map (fun x=>F8 aa x.l)=(t.l.take j).map (fun x=>F8 aa x.l)++[F8 aa t.l[j].l]:=by
       rw [Ba _ _ bi,List.map_append];rfl
      have i2:=I2.out _ (List.getElem_mem bi)
      generalize t.l[j]=x at *
      obtain ⟨be,a0⟩:∃ be,(t.l.take j).map (fun x=>F8 aa x.l)=be:=⟨_,rfl⟩
      rw [a0] at ae a1 a7
      have bh:=Jh a1
      have dy:=Jh bm
      have du:=Jh i2
      have dt:=Jh (ca.ext af.out)
      have bv:=Jh a7
      have dw:=b9.one
      have dx:=bm.one
      clear a1 bm i2 ca a7 a0 b9
      have an:=Ab wi (.cells (x.cells q1 q2).toArray 44)
      have bg:=Blk.new wi (x.cells q1 q2).toArray 44
      have bo:(wi.alloc (.cells (x.cells q1 q2).toArray 44)).heap.size=wi.heap.size+1:=by simp
      go_upto_region 15 with (first | ((with_reducible show Jl 44);refine Aa rfl 44 _ rfl rfl (dt.out) Aw rfl ?_) | ((with_reducible show Js 44);refine Ad rfl 44 _ _ rfl rfl (by first | rfl | simp) rfl Aw (rfl) rfl (by simp [dw,dx,Bc]) ?_))
      generalize wi.alloc _=w5 at *
      obtain ⟨B5,d3⟩:∃ B5,wi.heap.size=B5:=⟨_,rfl⟩
      rw [d3] at bg bo ⊢
      have g5:=bg.has 5 _ rfl
      have bu:=Jh (du.out w5 ov q2 (Ints.ext HO.out (af.out.trans an)) (dy.out.ext (af.out.trans an)))
      go_wp2_with (first | (go_at_call 33;refine bu.out.mono ?_;rintro r w6 ⟨v6,rfl,a8,ba⟩) | ((with_reducible show Jw (Op.buildSlice _ _ _));refine Hid.out ?_))
      refine Jh ?_
      obtain ⟨a6,c6,cc,-⟩:=a8.open
      have d1:=Jh (show v6.cells=[v6].toArray by rw [cc];rfl)
      clear cc
      refine B9 (v:=v6) rfl _ _ rfl Qd rfl (cs:=[v6]) d1.out rfl (by decide) ?_
      have ac:=Ab w6 (.cells [v6].toArray 49)
      have b7:=Blk.new w6 [v6].toArray 49
      have am:=(an.trans ba).trans ac
      have a3:=am.size
      have a5:=ae.out.since (Al.of_ext am)
      have b0:=(a8.ext ac).fv
      have bk:v6.oneCell'=true:=a8.cells.one
      have ax:∀ q,Value.ownBlock (.slice ay j cy)=some q->q<w5.heap.size:=fun q hq=>by have:=(ae.out.lt q hq).2;omega
      have b4:=b0.st (N:=w.heap.size) (by have:=an.size;omega) ax
      have ap:=ak.out.ext am
      have b5:=af.out.trans am
      generalize w6.alloc _=w7 at *
      have dz:=Jh b4
      have ec:=Jh ax
      clear b4 b0 ax
      go_wp2_with ((with_reducible show Jw (Op.call { callee:=.builtin .append,args:=_,argTypes:=_ }));refine Hid.out ?_)
      refine Jh ?_
      refine De rfl _ _ _ rfl Qd rfl a5 rfl (cs:=[v6]) rfl b7.has (by simp [bk]) dz.out (by rw [bv.out];omega) (by omega) ?_
      intro g8 ei w8 ai ag
      rw [bv.out] at ai ⊢
      have ah:Au w.heap.size u bs w8:=ap.grown ag fun q hq e=>by
       obtain ⟨-,gn,b8⟩:=a5.blk e.symm
       exact ap.ne b8 (by decide) hq rfl
      have a2:Ext w w8:=Ext.grownO b5 ag (fun q hq=>(a5.blk hq).1)
      rw [<-bh.out] at ai
      have d2:=Jh ai
      have aw:=Jh ah
      clear ai ah ag ap a5 b7 ac am b5 a3 a8 ba an bg g5 bo
      go_wp2_with fail
      exact ⟨⟨j+1,_,_,_,_,_,_,_,_,_,_,_,_,_,_,_,_,_,_,_,_,_,_,_,_,_,_,_,_,_,_,_,_,_,_,_,_,_,_,_,_,_,rfl,by omega,d2.out,aw.out,a2⟩,by simp [intOf];omega⟩
     ·obtain rfl:j=t.l.length:=by omega
      rw [List.take_length] at ae
      have d5:(((t.l.map fun x=>F8 aa x.l).headD [])).length<=1073741824:=by
       cases hq:t.l with
       | nil=>simp
       | cons y0 l0 =>
        have hy:y0∈t.l:=by rw [hq];simp
        have e1:=(Ng aa y0 (bz.out y0 hy)).2
        have e2:=Ca y0
        have e3:=Bf Aq t.l y0 hy
        have e4:=bx.out
        simp only [List.map_cons,List.headD_cons]
        omega
      have bw:=Jh (Uc _ _ wi ae.out.intsL (by simp;exact dv.out) d5)
      go_wp2_with (first | (go_at_call 48;refine bw.out.mono ?_;rintro r w7 ⟨v7,rfl,az,ac⟩) | ((with_reducible show Jw (Op.call { callee:=.builtin .append,args:=_,argTypes:=_ }));refine Hid.out ?_))
      refine Jh ?_
      have aj:=bp.out
      rw [av.out] at aj
      have a3:=ac.size
      refine Ik rfl _ _ rfl rfl (ak.out.ext ac) rfl az.cells (by omega) (by omega) ?_
      intro v8 w8 ao ag
      have a2:Ext w w8:=Ext.grownO (af.out.trans ac) ag (fun j hj=>(ak.out.at hj).1)
      rw [<-av.out,<-a4.out] at ao
      have aw:=Jh ao
      clear ao ag az ac aj a3
      go_wp2_with fail
      exact ⟨⟨k+1,_,_,_,_,_,_,_,_,_,_,_,_,_,_,_,_,_,_,_,_,_,_,_,_,_,_,_,_,_,_,_,_,_,_,_,_,_,_,_,_,_,_,_,_,_,_,_,rfl,by omega,aw.out,a2⟩,by simp [intOf];omega⟩
    ·have b2:(t.op==2)=false:=by rw [beq_eq_false_iff_ne];omega
     have b3:(t.op==3)=true:=by rw [o2];rfl
     have bj:=((Gb _ _).1 bb.out).2.1 (by omega)
     have ab:=ar.out
     rw [if_neg o1,if_pos (by omega)] at ab
     have av:=Jh ab
     have bd:=((Gb _ _).1 bb.out).2.2
     have bz:=Jh bd
     have d6:=Ca t
     have br:=ed.out
     have bx:=Jh (show Ap Aq t.l<=1048576 by omega)
     have gr:=Nat.le_trans (A8 Aq t.l fun t _=>F9 t) bx.out
     obtain ⟨gm,bt,ot,ct,rfl,gp,gq,b6,cb⟩:=dh.out.open
     obtain rfl:=b6 bj
     have d0:=Jh cb
     have dv:=Jh bj
     clear ab ar o1 o2 bd d6 br b6 cb bj
     have g5:=bf.out.has 5 _ rfl
     go_wp2_with fail
     clear g0 g5 b2
     refine wp_loop (fun a wi=>∃ (j:Nat) (y cd ce cf cg ci cj cm cn co cp cq cr cu cv cw cx cz ch c0 c1 c2 c3 c4 c5 c7 c8 c9 da db dc dd de df dg di dj dk dl dm dn:Value),a=⟨#[ov,.slice (some ⟨bl,ol,Option.none⟩) l.length cl,undef,undef,.slice Option.none 0 0,u,undef,.pointer (some ⟨B4,0,Option.none⟩),y,undef,cd,.slice (some ⟨bl,ol,Option.none⟩) l.length cl,.int .i64 l.length,.int .i64 (k:Int),.bool true,ce,cf,cg,ci,cj,cm,cn,co,cp,cq,cr,cu,cv,cw,cx,cz,ch,c0,c1,c2,c3,c4,c5,.slice (some ⟨bt,ot,Option.none⟩) t.l.length ct,.int .i64 t.l.length,.int .i64 (j:Int),c7,c8,c9,da,db,dc,dd,de,df,dg,di,dj,dk,dl,dm,dn,undef,undef,undef,undef],[]⟩ /\
      j<=t.l.length/\Bi Qs 49 1 w.heap.size y ((t.l.take j).map fun x=>F8 aa x.l) wi/\Au w.heap.size u bs wi/\Ext w wi) (fun a _=>t.l.length-(intOf (a.tmps.getD 40 undef)).toNat)
      ⟨0,_,_,_,_,_,_,_,_,_,_,_,_,_,_,_,_,_,_,_,_,_,_,_,_,_,_,_,_,_,_,_,_,_,_,_,_,_,_,_,_,_,rfl,Nat.zero_le _,Bi.nil,ak.out,af.out⟩ ?_
     clear ak af bf d8
     rintro a wi ⟨j,y,cd,ce,cf,cg,ci,cj,cm,cn,co,cp,cq,cr,cu,cv,cw,cx,cz,ch,c0,c1,c2,c3,c4,c5,c7,c8,c9,da,db,dc,dd,de,df,dg,di,dj,dk,dl,dm,dn,rfl,hj,aq,au,hx⟩
     have ae:=Jh aq
     have ak:=Jh au
     have af:=Jh hx
     have ev:=hx.size
     obtain ⟨ay,cy,hy,ea⟩:=aq.open
     have a7:((t.l.take j).map fun x=>F8 aa x.l).length=j:=by simp;omega
     rw [a7] at hy
     subst hy
     clear aq au hx ea
     by_cases bi:j<t.l.length
     ·obtain ⟨q1,q2,ca,b9,bm⟩:=Ts.get d0.out bi
      have a1:(t.l.take (j+1)).map (fun x=>F8 aa x.l)=(t.l.take j).map (fun x=>F8 aa x.l)++[F8 aa t.l[j].l]:=by
       rw [Ba _ _ bi,List.map_append];rfl
      have i2:=I2.out _ (List.getElem_mem bi)
      generalize t.l[j]=x at *
      obtain ⟨be,a0⟩:∃ be,(t.l.take j).map (fun x=>F8 aa x.l)=be:=⟨_,rfl⟩
      rw [a0] at ae a1 a7
      have bh:=Jh a1
      have dy:=Jh bm
      have du:=Jh i2
      have dt:=Jh (ca.ext af.out)
      have bv:=Jh a7
      have dw:=b9.one
      have dx:=bm.one
      clear a1 bm i2 ca a7 a0 b9
      have an:=Ab wi (.cells (x.cells q1 q2).toArray 44)
      have bg:=Blk.new wi (x.cells q1 q2).toArray 44
      have bo:(wi.alloc (.cells (x.cells q1 q2).toArray 44)).heap.size=wi.heap.size+1:=by simp
      go_upto_region 15 with (first | ((with_reducible show Jl 44);refine Aa rfl 44 _ rfl rfl (dt.out) Aw rfl ?_) | ((with_reducible show Js 44);refine Ad rfl 44 _ _ rfl rfl (by first | rfl | simp) rfl Aw (rfl) rfl (by simp [dw,dx,Bc]) ?_))
      generalize wi.alloc _=w5 at *
      obtain ⟨B5,d3⟩:∃ B5,wi.heap.size=B5:=⟨_,rfl⟩
      rw [d3] at bg bo ⊢
      have g5:=bg.has 5 _ rfl
      have bu:=Jh (du.out w5 ov q2 (Ints.ext HO.out (af.out.trans an)) (dy.out.ext (af.out.trans an)))
      go_wp2_with (first | (go_at_call 33;refine bu.out.mono ?_;rintro r w6 ⟨v6,rfl,a8,ba⟩) | ((with_reducible show Jw (Op.buildSlice _ _ _));refine Hid.out ?_))
      refine Jh ?_
      obtain ⟨a6,c6,cc,-⟩:=a8.open
      have d1:=Jh (show v6.cells=[v6].toArray by rw [cc];rfl)
      clear cc
      refine B9 (v:=v6) rfl _ _ rfl Qd rfl (cs:=[v6]) d1.out rfl (by decide) ?_
      have ac:=Ab w6 (.cells [v6].toArray 49)
      have b7:=Blk.new w6 [v6].toArray 49
      have am:=(an.trans ba).trans ac
      have a3:=am.size
      have a5:=ae.out.since (Al.of_ext am)
      have b0:=(a8.ext ac).fv
      have bk:v6.oneCell'=true:=a8.cells.one
      have ax:∀ q,Value.ownBlock (.slice ay j cy)=some q->q<w5.heap.size:=fun q hq=>by have:=(ae.out.lt q hq).2;omega
      have b4:=b0.st (N:=w.heap.size) (by have:=an.size;omega) ax
      have ap:=ak.out.ext am
      have b5:=af.out.trans am
      generalize w6.alloc _=w7 at *
      have dz:=Jh b4
      have ec:=Jh ax
      clear b4 b0 ax
      go_wp2_with ((with_reducible show Jw (Op.call { callee:=.builtin .append,args:=_,argTypes:=_ }));refine Hid.out ?_)
      refine Jh ?_
      refine De rfl _ _ _ rfl Qd rfl a5 rfl (cs:=[v6]) rfl b7.has (by simp [bk]) dz.out (by rw [bv.out];omega) (by omega) ?_
      intro g8 ei w8 ai ag
      rw [bv.out] at ai ⊢
      have ah:Au w.heap.size u bs w8:=ap.grown ag fun q hq e=>by
       obtain ⟨-,gn,b8⟩:=a5.blk e.symm
       exact ap.ne b8 (by decide) hq rfl
      have a2:Ext w w8:=Ext.grownO b5 ag (fun q hq=>(a5.blk hq).1)
      rw [<-bh.out] at ai
      have d2:=Jh ai
      have aw:=Jh ah
      clear ai ah ag ap a5 b7 ac am b5 a3 a8 ba an bg g5 bo
      go_wp2_with fail
      exact ⟨⟨j+1,_,_,_,_,_,_,_,_,_,_,_,_,_,_,_,_,_,_,_,_,_,_,_,_,_,_,_,_,_,_,_,_,_,_,_,_,_,_,_,_,_,rfl,by omega,d2.out,aw.out,a2⟩,by simp [intOf];omega⟩
     ·obtain rfl:j=t.l.length:=by omega
      rw [List.take_length] at ae
      have d5:(((t.l.map fun x=>F8 aa x.l).headD [])).length<=1073741824:=by
       cases hq:t.l with
       | nil=>simp
       | cons y0 l0 =>
        have hy:y0∈t.l:=by rw [hq];simp
        have e1:=(Ng aa y0 (bz.out y0 hy)).2
        have e2:=Ca y0
        have e3:=Bf Aq t.l y0 hy
        have e4:=bx.out
        simp only [List.map_cons,List.headD_cons]
        omega
      have bw:=Jh (Uc _ _ wi ae.out.intsL (by simp;exact dv.out) d5)
      go_wp2_with (first | (go_at_call 48;refine bw.out.mono ?_;rintro r w7 ⟨v7,rfl,az,ac⟩) | ((with_reducible show Jw (Op.call { callee:=.builtin .append,args:=_,argTypes:=_ }));refine Hid.out ?_))
      refine Jh ?_
      have aj:=bp.out
      rw [av.out] at aj
      have a3:=ac.size
      refine Ik rfl _ _ rfl rfl (ak.out.ext ac) rfl az.cells (by omega) (by omega) ?_
      intro v8 w8 ao ag
      have a2:Ext w w8:=Ext.grownO (af.out.trans ac) ag (fun j hj=>(ak.out.at hj).1)
      rw [<-av.out,<-a4.out] at ao
      have aw:=Jh ao
      clear ao ag az ac aj a3
      go_wp2_with fail
      exact ⟨⟨k+1,_,_,_,_,_,_,_,_,_,_,_,_,_,_,_,_,_,_,_,_,_,_,_,_,_,_,_,_,_,_,_,_,_,_,_,_,_,_,_,_,_,_,_,_,_,_,_,rfl,by omega,aw.out,a2⟩,by simp [intOf];omega⟩
   ·have b2:(t.op==2)=false:=by rw [beq_eq_false_iff_ne];omega
    have b3:(t.op==3)=false:=by rw [beq_eq_false_iff_ne];omega
    have ab:=ar.out
    rw [if_neg o1,if_neg o2] at ab
    have av:=Jh ab
    have bu:=Jh (I1.out w4 ov s2 (Ints.ext HO.out af.out) (dh.out.ext af.out))
    have g5:=bf.out.has 5 _ rfl
    clear ab ar o1 o2
    go_wp2_with (first | (go_at_call 33;refine bu.out.mono ?_;rintro r w7 ⟨v7,rfl,az,ac⟩) | ((with_reducible show Jw (Op.call { callee:=.builtin .append,args:=_,argTypes:=_ }));refine Hid.out ?_))
    refine Jh ?_
    have aj:=bp.out
    rw [av.out] at aj
    have hz:=af.out.size
    have a3:=ac.size
    refine Ik rfl _ _ rfl rfl (ak.out.ext ac) rfl az.cells (by omega) (by omega) ?_
    intro v8 w8 ao ag
    have a2:Ext w w8:=Ext.grownO (af.out.trans ac) ag (fun j hj=>(ak.out.at hj).1)
    rw [<-av.out,<-a4.out] at ao
    have aw:=Jh ao
    clear ao ag az ac aj hz a3
    go_wp2_with fail
    exact ⟨⟨k+1,_,_,_,_,_,_,_,_,_,_,_,_,_,_,_,_,_,_,_,_,_,_,_,_,_,_,_,_,_,_,_,_,_,_,_,_,_,_,_,_,_,_,_,_,_,_,_,rfl,by omega,aw.out,a2⟩,by simp [intOf];omega⟩
 ·obtain rfl:k=l.length:=by omega
  rw [List.take_length] at bc
  have aj:=ee.out l.length
  rw [List.take_length] at aj
  go_wp2_with (first
   | (go_at_call 46;refine (Ru _ _ _ _ bc.out (by omega)).mono ?_;rintro r w2 ⟨rfl,es,en⟩;have gs:Ext w w2:=Ext.grownO HX.out en (fun k hk=>(bc.out.at hk).1);have ef:=Jh es;clear es en)
   | (go_at_call 47;refine (Mz _ _ _ _ ef.out).mono ?_;rintro r w3 ⟨v3,rfl,gz,et,eo⟩;have gt:Ext w w3:=Ext.grownO gs eo (fun k hk=>(ef.out.at hk).1);have gj:=Jh et;clear et eo))
  go_ret
  exact ⟨_,rfl,gj.out,gt⟩
end Go.Proofs.YtbliplladmamoaaGreat
