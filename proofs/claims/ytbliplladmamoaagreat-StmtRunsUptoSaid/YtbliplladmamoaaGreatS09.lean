/- Laws and walks that a claim of this seat leans on: Numbers, SameE. -/
import Derived.Test.YtbliplladmamoaaGreatS06
import Derived.Test.YtbliplladmamoaaGreatSStmtS
import Derived.Test.YtbliplladmamoaaGreatS05
import Derived.Test.YtbliplladmamoaaGreatS03
import Derived.Test.YtbliplladmamoaaGreatS00
set_option maxRecDepth 100000
set_option maxHeartbeats 8000000
set_option linter.all false
namespace Go.Proofs.YtbliplladmamoaaGreat
open Go.RowKit
/-! ### numbers: the bits of these spans, rising -/
def Fs (offs:List Int) (s:Cb):List Int:=(List.range (s.hi-s.lo+1).toNat).map fun (j:Nat)=>offs.getD s.sig.toNat 0+(s.lo+(j:Int))
def Dt (offs:List Int) (xs:List Cb):List Int:=(xs.map (Fs offs)).flatten
def Dl (offs:List Int) (xs:List Cb):List Int:=Lib.compact (F4 (Dt offs xs))
def H9 (offs:List Int) (s:Cb):Prop:=0<=s.sig/\s.sig<offs.length/\0<=s.lo/\s.lo<=64/\s.hi<=63
theorem Sg (j:List Int) (s:Cb) (h:H9 j s):(Fs j s).length<=64:=by
 unfold H9 at h
 simp [Fs];omega
theorem Ll (j:List Int) (xs:List Cb) (h:∀ s∈xs,H9 j s):(Dt j xs).length<=64*xs.length:=by
 induction xs with
 | nil=>simp [Dt]
 | cons x xs ih =>
  have h1:=Sg j x (h x (by simp))
  have h2:=ih fun s hs=>h s (by simp [hs])
  simp only [Dt,List.map_cons,List.flatten_cons,List.length_append,List.length_cons] at h2 ⊢
  omega
theorem Iu (aa:List Int) (xs:List Cb) (ov pv:Value) (w:World) (ho:Ints w ov aa) (hp:Ac8 w pv xs) (bs:∀ s∈xs,H9 aa s) (a3:∀ o∈aa,0<=o/\o<=1099511627776) (dx:xs.length<=1073741824) :
  Calls Tryz.prog 30 #[ov,pv] w fun r w'=>∃ v,r=.returned v/\Au w.heap.size v (Dl aa xs) w'/\Ext w w':=by
 obtain ⟨ao,bo,oo,co,rfl,dr,dt,bg,bt⟩:=ho.open
 obtain ⟨ap,bp,op,cp,rfl,du,dv,bi,bu⟩:=hp.open
 have bc:=Jh bs
 have c9:=Jh a3
 have c5:=Jh bg
 have c6:=Jh bi
 have da:=Jh bt
 have db:=Jh bu
 clear bs a3 bg bi bt bu ho hp
 go_enter Tryz.func30,Tryz.ntmps30
 go_wp2_with fail
 refine wp_loop (fun a wr=>∃ (k:Nat) (u x7 x8 bz bh b0 b1 b2 b3 b4 b5 b6 b7 b8 b9 ca cb cc cd ce cf cg ci cj a6 a7 a8 a9 ba:Value),a=⟨#[.slice ao aa.length co,.slice ap xs.length cp,undef,undef,.slice Option.none 0 0,u,undef,x7,x8,.slice ap xs.length cp,.int .i64 xs.length,.int .i64 (k:Int),bz,bh,b0,b1,b2,b3,b4,b5,b6,b7,b8,b9,ca,cb,cc,cd,ce,cf,cg,ci,cj,a6,a7,a8,a9,ba],[]⟩ /\
  k<=xs.length/\Au w.heap.size u (Dt aa (xs.take k)) wr/\Ext w wr) (fun a _=>xs.length-(intOf (a.tmps.getD 11 undef)).toNat)
  ⟨0,_,_,_,_,_,_,_,_,_,_,_,_,_,_,_,_,_,_,_,_,_,_,_,_,_,_,_,_,_,rfl,Nat.zero_le _,Au.nil _ _,Below.refl _ _⟩ ?_
 rintro a wr ⟨k,u,x7,x8,bz,bh,b0,b1,b2,b3,b4,b5,b6,b7,b8,b9,ca,cb,cc,cd,ce,cf,cg,ci,cj,a6,a7,a8,a9,ba,rfl,hk,ai,hx⟩
 have ac:=Jh ai
 have HX:=Jh hx
 have d3:=hx.size
 obtain ⟨au,cu,hu,dk⟩:=ai.open
 obtain ⟨ln,am⟩:∃ ln,(Dt aa (xs.take k)).length=ln:=⟨_,rfl⟩
 have dy:ln<=64*k:=by
  rw [<-am]
  refine Nat.le_trans (Ll aa _ fun s hs=>bc.out s (List.mem_of_mem_take hs)) ?_
  simp;omega
 rw [am] at hu
 clear ai hx dk
 subst hu
 by_cases a1:k<xs.length
 ·obtain rfl:=c6.out (by omega)
  have aq:Has w bp (op+k*3) xs[k].cells:=db.out.get (List.getElem?_eq_getElem a1)
  have br:=bc.out _ (List.getElem_mem a1)
  have al:Dt aa (xs.take (k+1))=Dt aa (xs.take k)++Fs aa xs[k]:=by
   unfold Dt
   rw [Ba _ _ a1,List.map_append,List.flatten_append]
   simp only [List.map_cons,List.map_nil,List.flatten_cons,List.flatten_nil,List.append_nil]
  generalize xs[k]=s at *
  generalize Dt aa (xs.take k)=pre at *
  have ay:=Jh al
  have c7:=Jh (aq.ext HX.out)
  clear al aq
  obtain ⟨n1,n2,n3,n4,n5⟩:=br
  have bx:=Ab wr (.cells s.cells.toArray 70)
  have bj:=Blk.new wr s.cells.toArray 70
  have di:=ac.out.ext bx
  have d2:(wr.alloc (.cells s.cells.toArray 70)).heap.size=wr.heap.size+1:=by simp
  go_upto_region 5 with (first | ((with_reducible show Jl 70);refine Aa rfl 70 _ rfl rfl (c7.out) Ha rfl ?_) | ((with_reducible show Js 70);refine Ad rfl 70 _ _ rfl rfl (by first | rfl | simp) rfl Ha (rfl) rfl (by simp [Bc]) ?_))
  generalize wr.alloc _=w4 at *
  have g2:=bj.has 2 _ rfl
  go_wp2_with fail
  clear g2
  refine wp_loop (fun a wi=>∃ (j:Nat) (ii:Int) (v cl cm cn cq cr ct cw cx cy cz ch c0 c1 c2 c3 c4:Value),a=⟨#[.slice ao aa.length co,.slice (some ⟨bp,op,Option.none⟩) xs.length cp,undef,undef,.slice Option.none 0 0,v,undef,.pointer (some ⟨wr.heap.size,0,Option.none⟩),.int .i64 ii,.slice (some ⟨bp,op,Option.none⟩) xs.length cp,.int .i64 xs.length,.int .i64 (k:Int),.bool true,.pointer (some ⟨bp,op+k*3,Option.none⟩),.agg s.cells.toArray,.pointer (some ⟨wr.heap.size,2,Option.none⟩),.int .i64 s.lo,cl,cm,cn,cq,cr,ct,cw,cx,cy,cz,ch,c0,c1,c2,c3,c4,a6,a7,a8,a9,ba],[]⟩ /\
   ii=s.lo+j/\j<=(s.hi-s.lo+1).toNat/\Au w.heap.size v (pre++(Fs aa s).take j) wi/\Ext w wi/\Blk wi wr.heap.size s.cells.toArray 70) (fun a _=>((s.hi-s.lo+1)-((intOf (a.tmps.getD 8 undef))-s.lo)).toNat)
   ⟨0,s.lo,_,_,_,_,_,_,_,_,_,_,_,_,_,_,_,_,_,rfl,by simp,Nat.zero_le _,by simpa using di,HX.out.trans bx,bj⟩ ?_
  rintro a wi ⟨j,ii,v,cl,cm,cn,cq,cr,ct,cw,cx,cy,cz,ch,c0,c1,c2,c3,c4,rfl,ae,hj,ab,a5,ah⟩
  have dz:=a5.size
  obtain ⟨av,cv,hv,dl⟩:=ab.open
  have ar:(pre++(Fs aa s).take j).length<=ln+j:=by rw [List.length_append,am];simp;omega
  have d0:(Fs aa s).length=(s.hi-s.lo+1).toNat:=by simp [Fs]
  obtain ⟨lv,a2⟩:∃ lv,(pre++(Fs aa s).take j).length=lv:=⟨_,rfl⟩
  rw [a2] at hv ar
  subst hv
  have be:=Jh ab
  have az:=Jh a5
  have ax:=Jh ah
  have c8:=Jh a2
  clear ab a5 a2 dl
  have g1:=ah.has 1 _ rfl
  have g0:=ah.has 0 _ rfl
  by_cases dh:ii<=s.hi
  ·have bq:j<(Fs aa s).length:=by omega
   obtain ⟨q,hq⟩:∃ q:Nat,s.sig=q:=⟨s.sig.toNat,by omega⟩
   have ag:q<aa.length:=by omega
   obtain rfl:=c5.out (by omega)
   have bf:wi.cell? ⟨bo,oo+q,Option.none⟩=some (.int .i64 aa[q]):=by
    have:=((da.out.get (List.getElem?_eq_getElem ag)).ext az.out) 0 _ rfl
    simpa using this
   have a3:=c9.out _ (List.getElem_mem ag)
   have aw:(Fs aa s)[j]=aa[q]+ii:=by simp [Fs,hq,List.getElem?_eq_getElem ag,ae]
   have a4:=Ba (Fs aa s) j bq
   rw [aw] at a4
   generalize aa[q]=oq at *
   have de:=Jh a4
   rw [hq] at g0
   clear a4 aw
   have bb:=Jh ae
   have dw:ii<=63/\0<=ii:=by omega
   clear ae
   have af:=Ab wi (.cells [Value.int .i64 (oq+ii)].toArray 3)
   have bk:=Blk.new wi [Value.int .i64 (oq+ii)].toArray 3
   have an:=be.out.ext af
   go_wp2_with (first | ((with_reducible show Jw (Op.buildSlice _ _ _));refine B9 rfl _ _ rfl Dh rfl (cs:=[Value.int .i64 (oq+ii)]) rfl rfl (by decide) ?_) | ((with_reducible show Jw (Op.call { callee:=.builtin .append,args:=_,argTypes:=_ }));refine Hid.out ?_))
   refine Jh ?_
   have ae:=bb.out
   have dj:(wi.alloc (.cells [Value.int .i64 (oq+ii)].toArray 3)).heap.size=wi.heap.size+1:=by simp
   refine P4 (m:=1) (news:=[oq+ii]) rfl _ _ rfl rfl an rfl (fun _=>Nat.lt_of_lt_of_le Nat.zero_lt_one (Nat.le_refl 1)) rfl (Lt bk.has) (by rw [c8.out];omega) (by omega) ?_
   intro g7 dq w7 ak a0
   generalize wi.alloc _=w6 at *
   have df:Blk w7 wr.heap.size s.cells.toArray 70:=(a0.block _ (ax.out.ext af).lt (fun e=>an.ne (ax.out.ext af) rfl e.symm rfl)).trans (ax.out.ext af)
   have dp:Ext w w7:=Ext.grownO (az.out.trans af) a0 (fun k hk=>(an.at hk).1)
   rw [List.append_assoc,<-de.out] at ak
   clear ar g0 g1 bf bk an af dj a0 ae
   generalize (pre++(Fs aa s).take j).length+1=l7 at *
   go_wp2_with fail
   have ae:=bb.out
   exact ⟨⟨j+1,ii+1,_,_,_,_,_,_,_,_,_,_,_,_,_,_,_,_,_,rfl,by omega,by omega,ak,dp,df⟩,by simp [intOf];omega⟩
  ·have dg:j=(Fs aa s).length:=by omega
   have aj:Au w.heap.size (.slice av lv cv) (Dt aa (xs.take (k+1))) wi:=by
    rw [ay.out]
    have:=be.out
    rw [dg,List.take_length] at this
    exact this
   have dd:=Jh aj
   clear aj g0
   go_wp2_with fail
   exact ⟨⟨k+1,_,⟨rfl,by omega⟩,by omega,dd.out,az.out⟩,by simp [intOf];omega⟩
 ·obtain rfl:k=xs.length:=by omega
  rw [List.take_length] at ac am
  go_wp2_with (first
   | (go_at_call 46;refine (Ru _ _ _ _ ac.out (by omega)).mono ?_;rintro r w2 ⟨rfl,bv,bl⟩;have dm:Ext w w2:=Ext.grownO HX.out bl (fun k hk=>(ac.out.at hk).1);have bd:=Jh bv;clear bv bl)
   | (go_at_call 47;refine (Mz _ _ _ _ bd.out).mono ?_;rintro r w3 ⟨v3,rfl,d1,bw,bm⟩;have dn:Ext w w3:=Ext.grownO dm bm (fun k hk=>(bd.out.at hk).1);have dc:=Jh bw;clear bw bm))
  go_ret
  exact ⟨_,rfl,dc.out,dn⟩
theorem Oy:H7 Tryz.prog 22 37 4 40:=⟨Tryz.underlying22,by kernel_rfl,by decide,by decide⟩
theorem D7.at {W:World} {cs:List Value} {x:Ai} {b o:Nat} (h:Has W b o cs) (hv:D7 W cs x):C6 W x b o:=by
 subst hv;exact h
theorem Acn {w:World} (l:List Ai):∀ (b o:Nat),Rows 4 (C6 w) l b o->Has w b o (l.map Ai.cells).flatten:=by
 induction l with
 | nil=>intro b o _ j u hj;simp at hj
 | cons x l ih =>
  intro b o h j u hj
  rw [List.map_cons,List.flatten_cons] at hj
  by_cases aa:j<x.cells.length
  ·rw [List.getElem?_append_left aa] at hj
   exact h.1 j u hj
  ·rw [List.getElem?_append_right (by omega)] at hj
   have:=ih b (o+4) h.2 (j-4) u hj
   have h4:x.cells.length=4:=rfl
   rw [show o+j=o+4+(j-4) by omega];exact this
theorem Y6 (l:List Ai):(l.map Ai.cells).flatten.length=l.length*4:=by
 induction l with
 | nil=>rfl
 | cons x l ih=>rw [List.map_cons,List.flatten_cons,List.length_append,ih];show 4+l.length*4=(l.length+1)*4;omega
theorem Afi (l:List Ai):(l.map Ai.cells).flatten.all (·.oneCell')=true:=by
 rw [List.all_eq_true]
 intro v hv
 obtain ⟨cs,j,hv⟩:=List.mem_flatten.1 hv
 obtain ⟨x,-,rfl⟩:=List.mem_map.1 j
 have:x.cells.all (·.oneCell')=true:=rfl
 exact List.all_eq_true.1 this v hv
def Sx (w:World) (l:List Ai) (r:Ending) (w':World):Prop:=∃ a cap,r=.returned (.slice a l.length cap)/\Ext w w'/\∀ W,Al w.heap.size w' W->Cq W (.slice a l.length cap) l
theorem Xa (l:List Ai) (s:Value) (w:World) (h:Cq w s l) (hl:l.length<=1048576) :
  Calls Tryz.prog 58 #[s] w (Sx w l):=by
 obtain ⟨a,b,o,cap,hs,al,am,ha,hr⟩:=h.open
 subst hs
 have ak:=fun W=>Lib.run_eql_slice_nil (P:=Tryz.prog) W 22 37 a l.length cap 0 0 Tryz.underlying22
 cases a with
 | none =>
  have h0:l.length=0:=by
   by_cases hh:0<l.length
   ·have:=ha hh;cases this
   ·omega
  have H0:=Jh h0
  clear h0 ha hr h
  go_enter Tryz.func58,Tryz.ntmps58
  go_wp2_with fail
  go_ret
  obtain rfl:l=[]:=List.eq_nil_of_length_eq_zero H0.out
  exact ⟨Option.none,0,rfl,Below.refl _ _,fun W _=>Sl.nil _ _⟩
 | some ad =>
  have HR:=Jh hr
  have HA:=Jh ha
  have HX:=Jh (Ab w (.cells #[] 37))
  have af:=Jh (World.ownsRow_made (size:=4) (base:=w.heap.size) (e:=37) w #[] 0 (Nat.le_refl _) (by decide) rfl)
  have aa:∀ j u,(l.map Ai.cells).flatten[j]? = some u->(w.alloc (.cells #[] 37)).cell? (ad.add j)=some u:=by
   intro j u hj
   have ap:j<l.length*4:=by rw [<-Y6];exact (List.getElem?_eq_some_iff.1 hj).1
   have ag:0<l.length:=by omega
   obtain rfl:=Option.some.inj (HA.out ag)
   have ae:(⟨b,o,none⟩:Addr).add j=⟨b,o+j,none⟩:=by unfold Addr.add;split<;>simp_all
   rw [ae]
   exact ((Acn l b o HR.out).ext HX.out) j u hj
  have HC:=Jh aa
  clear aa hr ha h
  go_enter Tryz.func58,Tryz.ntmps58
  go_wp2_with (first | ((with_reducible show Jw (Op.buildSlice _ _ _));refine Hz rfl _ rfl Oy ?_) | ((with_reducible show Jw (Op.call { callee:=.builtin .append,args:=_,argTypes:=_ }));refine Nt rfl _ _ _ rfl Oy rfl af.out rfl (fun h=>by cases h) (Y6 l) HC.out (Afi l) (by omega) (by simp) ?_;rw [Nat.zero_add];intro g4 ac w4 ab ai an))
  go_ret
  have aj:Ext w w4:=Below.grown HX.out ai HX.out.size (fun k hk=>by cases hk;exact Nat.le_refl _)
  refine ⟨_,ac,rfl,aj,fun W hW=>?_⟩
  refine Bi.sl (V:=D7) (At:=C6) (e:=37) (N:=w.heap.size) (w:=w4) (fun _ _ _ _ _ h hv=>D7.at h hv) ?_ hW
  refine ⟨l.map Ai.cells,by simpa using ab,by simp,?_,?_⟩
  ·intro cs h;obtain ⟨x,-,rfl⟩:=List.mem_map.1 h;rfl
  ·intro i hi ao W _ _
   simp [D7]
def Gj (a b:List C0):Bool:=Bg eqP a b
def Ga (a b:List Chk):Bool:=Bg eqC a b
theorem Zk (x y:Bb) (v v':Value) (w:World) (h:Ck w v x) (h':Ck w v' y) (hs:x.signals=y.signals) :
  Calls Tryz.prog 36 #[v,v'] w fun r w'=>r=.returned (.bool (Gj x.procs y.procs&&Ga x.checks y.checks))/\Ext w w':=by
 obtain ⟨sv,pv,cv,rfl,hS,hP,hC⟩:=h
 obtain ⟨am,al,ae,rfl,aa,ag,af⟩:=h'
 rw [<-hs] at aa
 clear hs
 obtain ⟨p2,h2⟩:∃ p,Gj x.procs y.procs=p:=⟨_,rfl⟩
 have an:Bg eqP x.procs y.procs=p2:=h2
 rw [h2]
 have ao:=Ab w (.cells [sv,pv,cv].toArray 26)
 have ai:=Ab (w.alloc (.cells [sv,pv,cv].toArray 26)) (.cells [am,al,ae].toArray 26)
 have aq:=(Has.alloc w [sv,pv,cv] 26).ext ai
 have aj:=Has.alloc (w.alloc (.cells [sv,pv,cv].toArray 26)) [am,al,ae] 26
 rw [World.size_alloc] at aj
 have hX:=ao.trans ai
 have ar:=fun W (hx:Ext _ W)=>Na x.signals sv am W ((hS.ext hX).ext hx) ((aa.ext hX).ext hx)
 have ak:=fun W (hx:Ext _ W)=>Qk 61 eqP x.procs y.procs pv al W ((hP.ext hX).ext hx) ((ag.ext hX).ext hx) Yi
  (fun wr hx k hk a3 cs ab h h'=>Xf _ _ cs ab wr h h')
 have au:=fun W (hx:Ext _ W)=>P6 64 eqC x.checks y.checks cv ae W ((hC.ext hX).ext hx) ((af.ext hX).ext hx) Yj
  (fun wr hx k hk a3 cs ab h h'=>Xg _ _ cs ab wr h h')
 obtain ⟨xs,bs,os,a7,e1,-,-,-,-⟩:=hS.open
 obtain ⟨ap,bp,op,a6,e2,-,-,-,-⟩:=hP.open
 obtain ⟨ac,bc,oc,a5,e3,-,-,-,-⟩:=hC.open
 obtain ⟨bi,bd,bg,ax,ay,-,-,-,-⟩:=aa.open
 obtain ⟨a9,bb,bf,aw,az,-,-,-,-⟩:=ag.open
 obtain ⟨a8,ba,be,av,ah,-,-,-,-⟩:=af.open
 subst e1;subst e2;subst e3;subst ay;subst az;subst ah
 rw [an] at ak
 clear ao ai hS hP hC aa ag af h2 an
 go_enter Tryz.func36,Tryz.ntmps36
 go_upto_region 1 with fail
 generalize (w.alloc _).alloc _=w0 at *
 have Q1:=Jh ar
 have Q2:=Jh ak
 have Q3:=Jh au
 have B1:=Jh aq
 have B2:=Jh aj
 clear ar ak au aq aj
 have a0:=B1.out 0 _ rfl
 have c0:=B2.out 0 _ rfl
 cases p2
 ·go_wp2_with (first | (go_at_call 66;refine (Q1.out _ (Below.refl _ _)).mono ?_;rintro r w1 ⟨rfl,j⟩;have a1:=(B1.out.ext j) 1 _ rfl;have c1:=(B2.out.ext j) 1 _ rfl) | (go_at_call 67;refine (Q2.out _ j).mono ?_;rintro r w2 ⟨rfl,u⟩))
  all_goals go_ret
  all_goals exact ⟨rfl,hX.trans (j.trans u)⟩
 ·go_wp2_with (first | (go_at_call 66;refine (Q1.out _ (Below.refl _ _)).mono ?_;rintro r w1 ⟨rfl,j⟩;have a1:=(B1.out.ext j) 1 _ rfl;have c1:=(B2.out.ext j) 1 _ rfl) | (go_at_call 67;refine (Q2.out _ j).mono ?_;rintro r w2 ⟨rfl,u⟩;have a2:=(B1.out.ext (j.trans u)) 2 _ rfl;have c2:=(B2.out.ext (j.trans u)) 2 _ rfl) | (go_at_call 68;refine (Q3.out _ (j.trans u)).mono ?_;rintro r w3 ⟨rfl,a4⟩))
  all_goals go_ret
  all_goals exact ⟨Af (by rw [Bool.true_and];rfl),hX.trans ((j.trans u).trans a4)⟩
end Go.Proofs.YtbliplladmamoaaGreat
