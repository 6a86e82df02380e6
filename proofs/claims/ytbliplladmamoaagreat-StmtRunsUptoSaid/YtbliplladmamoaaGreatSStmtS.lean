/- Laws and walks that a claim of this seat leans on: StmtS. -/
import Derived.Test.YtbliplladmamoaaGreatS08
import Derived.Deep.DeepCutAuto
import Derived.Deep.CutBlock
import Derived.Test.YtbliplladmamoaaGreatS00
set_option maxRecDepth 100000
set_option maxHeartbeats 8000000
set_option linter.all false
namespace Go.Proofs.YtbliplladmamoaaGreat
open Go.RowKit
def Ac9 (w:World) (B:Nat) (sl:Value) (q:T × Int) (r:Ending) (w':World):Prop :=
 ∃ cs',r=.returned (.agg cs'.toArray)/\Blk w' B #[sl,.int .i64 q.2] 102/\w.grownBy w' (some B)/\FV VT w.heap.size w' cs' q.1
def N5 (ls:List Ai) (x:T):Prop:=∀ (ck:Bool) (lab:Int) (B:Nat) (sl:Value) (err:Int) (cs:List Value) (w wb:World),Blk w B #[sl,.int .i64 err] 102->Ext wb w->wb.heap.size<=B ->
 Cq wb sl ls->VT wb cs x->x.wf->Nb ls x->Aq x<=1048576 ->
 Calls Tryz.prog 59 #[.pointer (some ⟨B,0,none⟩),.agg cs.toArray,.bool ck,.int .i64 lab] w (Ac9 w B sl (szT ls ck x lab err))
theorem FV.one {N:Nat} {w:World} {cs:List Value} {x:T} (h:FV VT N w cs x):cs.all (·.oneCell')=true:=h.here.one
theorem FV.len {N:Nat} {w:World} {cs:List Value} {x:T} (h:FV VT N w cs x):cs.length=6:=by obtain ⟨s,s',rfl,-⟩:=h.here;rfl
theorem FV.oneE {N:Nat} {w:World} {cs:List Value} {x:E} (h:FV VE N w cs x):cs.all (·.oneCell')=true:=h.here.one
theorem FV.lenE {N:Nat} {w:World} {cs:List Value} {x:E} (h:FV VE N w cs x):cs.length=8:=by obtain ⟨s,rfl,-⟩:=h.here;rfl
theorem Bi.head {e:TypeId} {N:Nat} {v:Value} {r:List E} {w:World} (h:Bi VE e 8 N v r w) (h0:0<r.length):∃ g cap,v=.slice (some ⟨g,0,none⟩) r.length cap/\w.cell? ⟨g,1,none⟩=some (.int .i64 (Ao.hdW r)):=by
 obtain ⟨css,h1,h2,h3,h4⟩:=h
 rcases h1.2 with ⟨rfl,ab⟩ | ⟨g,cap,u,rfl,hb,aa,af,ac,ae,j⟩
 ·omega
 ·refine ⟨g,cap,rfl,?_⟩
  cases css with
  | nil=>simp at h2;omega
  | cons c css =>
   cases r with
   | nil=>simp at h0
   | cons y r =>
    obtain ⟨s,hs,-⟩:=h4 0 (by simp) (by simp) w (Nat.le_refl _) (fun _ _ _ _=>rfl)
    simp only [Jb] at hs
    rw [cell_of_row w g 1 u e (0,0) aa]
    have:(u.toList.take ((y::r).length*8))[1]? = some (.int .i64 y.w):=by rw [j,hs];rfl
    rw [List.getElem?_take] at this
    split at this
    ·simp only [Array.getElem?_toList] at this;exact this
    ·cases this
theorem Ext.grownO {w0 w w':World} {R:Option Nat} (h:Ext w0 w) (hg:w.grownBy w' R) (hR:∀ k,R=some k->w0.heap.size<=k):Ext w0 w':=Below.grown h hg h.size hR
theorem Mj {a w w':World} {B:Nat} {R:Option Nat} (h:a.grownBy w (some B)) (hg:w.grownBy w' R) (hR:∀ k,R=some k->a.heap.size<=k):a.grownBy w' (some B) :=
 ⟨hg.os.trans h.os,hg.tape.trans h.tape,hg.output.trans h.output,Nat.le_trans h.size hg.size,fun j hj u=>(hg.block j (Nat.lt_of_lt_of_le hj h.size) (by intro e;have:=hR j e.symm;omega)).trans (h.block j hj u)⟩
theorem Blk.grownO {w w':World} {B:Nat} {cs:Array Value} {T:TypeId} {R:Option Nat} (h:Blk w B cs T) (hg:w.grownBy w' R) (hR:∀ k,R=some k->B<k):Blk w' B cs T :=
 (hg.block B h.lt (by intro e;have:=hR B e.symm;omega)).trans h
abbrev Uo:List Value:=[.int .i64 0,.int .i64 0,.int .i64 0,.int .i64 0,.slice Option.none 0 0,.slice Option.none 0 0]
theorem Rw (ls:List Ai) (t:T) (ih:∀ x∈t.l,N5 ls x):N5 ls t:=by
 intro ck ao B sl ak cs w wb hB dn bm hS hV dl dc hn
 have IH:=Jh ih
 clear ih
 have HS:=Jh hS
 have cr:=Jh ((T.wf_iff _).1 dl)
 obtain ⟨dq,dr,dt,du⟩:=(Hu ls t).1 dc
 have cm:=Jh dq
 have bq:=Jh dr
 have cn:=Jh dt
 have co:=Jh du
 clear hS dl dc dq dr dt du
 have HM:=Jh (Ns ls ck t ao ak)
 have er:=Ca t
 have da:=A8 nodes t.e (fun x _=>Gh x)
 have db:=A8 Aq t.l (fun x _=>F9 x)
 obtain ⟨s1,s2,rfl,c3,c5⟩:=hV
 obtain ⟨a',b',o',bc,d5,eb,ec,df,dg⟩:=HS.out.open
 obtain ⟨ae,be,oe,ap,d7,ed,ee,c6,c7⟩:=c3.open
 obtain ⟨a4,bt,ot,aq,d8,ef,eg,dj,dk⟩:=c5.open
 subst d5
 subst d7
 subst d8
 have dx:=Jh df
 have dz:=Jh dg
 have dv:=Jh c6
 have dw:=Jh c7
 have dh:=Jh dj
 have d0:=Jh dk
 clear df dg c6 c7 dj dk c3 c5
 have ea:=hB.lt
 have HX:=(Ab w (.cells (t.cells (.slice ae t.e.length ap) (.slice a4 t.l.length aq)).toArray 44)).alloc (.cells Uo.toArray 44)
 have cy:=(Blk.new w (t.cells (.slice ae t.e.length ap) (.slice a4 t.l.length aq)).toArray 44).alloc (.cells Uo.toArray 44)
 have a5:=Blk.new (w.alloc (.cells (t.cells (.slice ae t.e.length ap) (.slice a4 t.l.length aq)).toArray 44)) Uo.toArray 44
 rw [World.size_alloc] at a5
 have K0:=Jh cy
 have K1:=Jh a5
 have KB:=Jh (hB.ext HX)
 have bv:=Jh (dn.trans HX)
 have et:((w.alloc (.cells (t.cells (.slice ae t.e.length ap) (.slice a4 t.l.length aq)).toArray 44)).alloc (.cells Uo.toArray 44)).heap.size=w.heap.size+1+1:=by simp
 clear cy a5 hB dn
 go_enter Tryz.func59,Tryz.ntmps59
 go_upto_region 1 with fail
 generalize (w.alloc _).alloc _=w0 at *
 have q0:=K0.out.has 0 _ rfl
 go_upto_block 0 with (fail)
 go_cut [9,10] (fun u _ wr=>u=.int .i64 (szW t ao)/\Blk wr B #[.slice a' ls.length bc,.int .i64 (Da ls ck t ak)] 102/\w0.grownBy wr (some B))
 case first =>
  by_cases o1:t.op=1
  ·obtain ⟨i1,i2,i3,i4,i5⟩:=cm.out o1
   obtain ⟨k,hk⟩:=Int.eq_ofNat_of_zero_le i1
   have dp:k<ls.length:=by omega
   have he:=Cq.get (dz.out.mono fun x _ b o h=>C6.ext' bv.out h) dp
   obtain rfl:=dx.out (by omega)
   have c9:Fg ls t.sig=ls[k].kind:=by simp [Fg,hk,dp]
   have g2:=he 2 _ rfl
   have a6:Da ls ck t ak=if ak=0/\(ls[k].kind=1\/ck≠decide (ls[k].kind=4)) then 85 else ak:=by unfold Da;rw [c9];simp [o1]
   have hw:szW t ao=t.hi-t.lo+1:=by unfold szW;rw [if_pos o1]
   have HW:=Jh hw
   have cc:=Jh a6
   have b1:(t.op==1)=true:=by rw [beq_iff_eq];exact o1
   have q1:=K0.out.has 1 _ rfl
   rw [hk] at q1
   have q2:=K0.out.has 2 _ rfl
   have q3:=K0.out.has 3 _ rfl
   have p0:=KB.out.cell 0
   have p1:=KB.out.cell 1
   have f1:=KB.out.frozen 1
   simp only [List.getElem?_toArray,List.getElem?_cons_zero,List.getElem?_cons_succ] at p0 p1
   clear he c9 hk o1 hw a6 i1 i2
   generalize ls[k].kind=kd at *
   have cv:=Jh KB.out.drew
   obtain ⟨c0,cz⟩:∃ c,(ak==0)=c:=⟨_,rfl⟩
   obtain ⟨c1,ch⟩:∃ c,(kd==1)=c:=⟨_,rfl⟩
   obtain ⟨c4,c2⟩:∃ c,(kd==4)=c:=⟨_,rfl⟩
   have ej:=Jh cz
   have em:=Jh ch
   have en:=Jh c2
   have c8:(if ak=0/\(kd=1\/ck≠decide (kd=4)) then (85:Int) else ak)=if (c0&&(c1||(ck != c4)))=true then 85 else ak:=by
    rw [<-cz,<-ch,<-c2]
    congr 1
    rw [Bool.and_eq_true,Bool.or_eq_true,beq_iff_eq,beq_iff_eq,bne_iff_ne]
    have:(kd==4)=decide (kd=4):=by rw [Bool.eq_iff_iff];simp
    rw [this]
   have bl:=Jh (cc.out.trans c8)
   clear c8 cc
   go_wp2_with fail
   go_region
   cases c0
   ·go_wp2_with fail
    all_goals go_meet
    all_goals exact ⟨by rw [HW.out],by rw [bl.out];exact cv.out,Hm (Cr _ _)⟩
   ·cases c1
    ·cases c4<;>cases ck
     all_goals (go_wp2_with fail)
     all_goals go_meet
     all_goals first
      | exact ⟨by rw [HW.out],by rw [bl.out];exact cv.out,Hm (Cr _ _)⟩
      | exact ⟨by rw [HW.out],by rw [bl.out];exact (KB.out.set 1 (.int .i64 85)).drew,Hm (Ay _ _ _ _)⟩
    ·go_wp2_with fail
     all_goals go_meet
     all_goals exact ⟨by rw [HW.out],by rw [bl.out];exact (KB.out.set 1 (.int .i64 85)).drew,Hm (Ay _ _ _ _)⟩
  ·have b1:(t.op==1)=false:=by rw [beq_eq_false_iff_ne];exact o1
   by_cases o2:t.op=2
   ·have b2:(t.op==2)=true:=by rw [beq_iff_eq];exact o2
    have he:Da ls ck t ak=ak:=by unfold Da;rw [if_neg (fun h=>o1 h.1)]
    have hw:szW t ao = -1:=by unfold szW;rw [if_neg o1,if_pos o2]
    have HE:=Jh he
    have HW:=Jh hw
    clear o1 o2 he hw
    go_wp2_with fail
    all_goals go_meet
    all_goals exact ⟨by rw [HW.out],by rw [HE.out];exact KB.out,Cr _ _⟩
   ·have b2:(t.op==2)=false:=by rw [beq_eq_false_iff_ne];exact o2
    have he:Da ls ck t ak=ak:=by unfold Da;rw [if_neg (fun h=>o1 h.1)]
    have HE:=Jh he
    by_cases o3:t.op=3
    ·have b3:(t.op==3)=true:=by rw [beq_iff_eq];exact o3
     have hw:szW t ao=0:=by unfold szW;rw [if_neg o1,if_neg o2,if_pos o3]
     have HW:=Jh hw
     clear o1 o2 o3 he hw
     go_wp2_with fail
     all_goals go_meet
     all_goals exact ⟨by rw [HW.out],by rw [HE.out];exact KB.out,Cr _ _⟩
    ·have b3:(t.op==3)=false:=by rw [beq_eq_false_iff_ne];exact o3
     have hw:szW t ao=ao:=by unfold szW;rw [if_neg o1,if_neg o2,if_neg o3]
     have HW:=Jh hw
     clear o1 o2 o3 he hw
     go_wp2_with fail
     all_goals go_meet
     all_goals exact ⟨by rw [HW.out],by rw [HE.out];exact KB.out,Cr _ _⟩
 case rest =>
  obtain ⟨rfl,b0,a7⟩:=hcut
  obtain ⟨w1,ca⟩:∃ x,szW t ao=x:=⟨_,rfl⟩
  obtain ⟨e0,a6⟩:∃ x,Da ls ck t ak=x:=⟨_,rfl⟩
  have hm:=HM.out
  rw [ca,a6] at hm
  rw [a6] at b0
  rw [ca]
  have cg:=Jh hm
  have cu:=Jh b0
  have bw:=Jh (K0.out.grown a7 (by omega))
  have ct:=Jh (K1.out.grown a7 (by omega))
  have ba:=Jh (bv.out.grown a7 bm)
  have ce:=Jh a7
  have d6:=a7.size
  clear hm b0 a7 ca a6 HM KB K0 K1 bv q0
  have q4:=bw.out.has 4 _ rfl
  go_wp2_with fail
  clear q4
  go_loopw [11,13,62] (fun u _ i wr=>∃ (k:Nat) (v:Value),v=u/\k<=t.e.length/\i=.int .i64 k/\Bi VE 40 8 w0.heap.size v (Fi e0 w1 (t.e.take k)).1 wr/\Blk wr B #[.slice a' ls.length bc,.int .i64 (Fi e0 w1 (t.e.take k)).2] 102
   /\ Blk wr w.heap.size (t.cells (.slice ae t.e.length ap) (.slice a4 t.l.length aq)).toArray 44/\Blk wr (w.heap.size+1) Uo.toArray 44/\Ext wb wr/\w.grownBy wr (some B)/\w0.heap.size<=wr.heap.size) (fun _ _ i _=>t.e.length-(intOf i).toNat)
  case atStart=>exact ⟨0,_,rfl,Nat.zero_le _,rfl,Bi.nil,cu.out,bw.out,ct.out,ba.out,A5 (It HX B) ce.out,d6⟩
  case round =>
   obtain ⟨k,v,rfl,hk,rfl,aa,r0,r1,r2,hB,hG,di⟩:=hrel
   have ab:=Jh aa
   have R0:=Jh r0
   have R1:=Jh r1
   have R2:=Jh r2
   have HG:=Jh hG
   clear aa r0 r1 r2 hG
   by_cases a0:k<t.e.length
   ·obtain ⟨cs,bf,b5,az⟩:=VE.get (dw.out.mono fun x _ b o h=>EAt.ext' hB h) a0
    obtain rfl:=dv.out (by omega)
    have am:t.e[k]∈t.e:=List.getElem_mem a0
    have d4:=Bf nodes t.e _ am
    have bd:=Uh e0 w1 t.e k a0
    have ac:=Jh (Ab wr (.cells cs.toArray 40))
    have br:=Jh (Has.alloc wr cs 40)
    have HC:=Jh (Rc t.e[k] w1 B _ _ cs _ (R0.out.ext ac.out) (az.ext ac.out) (cr.out.2.2.2.2.1 _ am) (cn.out _ am) (by omega))
    have bu:=Jh az
    have bs:=Jh bf
    clear bf az
    generalize t.e[k]=ek at *
    have ar:=Jh bd
    clear bd
    obtain ⟨q,hq⟩:∃ q,szE (Fi e0 w1 (t.e.take k)).2 ek w1=q:=⟨_,rfl⟩
    rw [hq] at ar HC
    clear hq
    have dm:wr.heap.size<(wr.alloc (.cells cs.toArray 40)).heap.size:=by simp
    have aw:(Fi e0 w1 (t.e.take k)).1.length=k:=by rw [Ij,List.length_take];omega
    have ax:=Jh aw
    clear aw
    obtain ⟨rr,bk⟩:∃ rr,(Fi e0 w1 (t.e.take k)).1=rr:=⟨_,rfl⟩
    rw [bk] at ab ar ax
    clear bk
    go_upto_region 16 with (first | ((with_reducible show Jl 40);refine Aa rfl 40 _ rfl rfl (bs.out) Ah b5 ?_) | ((with_reducible show Js 40);refine Ad rfl 40 _ _ rfl rfl (by first | rfl | simp) rfl Ah (b5) rfl (bu.out.one) ?_))
    have eo:=Jh ac.out
    generalize wr.alloc _=w2 at *
    go_wp2_with (first | ((with_reducible show Jl 40);refine Aa rfl 40 _ rfl rfl (br.out) Ah b5 ?_) | (go_at_call 60;refine HC.out.mono ?_;rintro r w3 ⟨an,rfl,bx,ag,av⟩;have aj:=Jh av;clear av) | ((with_reducible show Jw (Op.buildSlice _ _ _));refine B9 rfl _ _ rfl Qt rfl (cs:=an) rfl aj.out.lenE (by decide) ?_) | ((with_reducible show Jw (Op.call { callee:=.builtin .append,args:=_,argTypes:=_ }));refine De (V:=VE) rfl _ _ _ rfl Qt rfl (((ab.out.since (Al.of_ext ac.out)).since (Al.of_grown ag (by omega))).since (Al.of_ext (Ab w3 (.cells an.toArray 40)))) rfl aj.out.lenE (Has.alloc w3 an 40) aj.out.oneE ((aj.out.ext (Ab w3 (.cells an.toArray 40))).st (N:=w0.heap.size) (by omega) (fun k hk=>by have:=(ab.out.lt k hk).2;omega)) (by rw [ax.out];omega) (by have:=ag.size;simp;omega) ?_;rw [ax.out];intro g4 cx w4 a1 al))
    have ai:=Ab w3 (.cells an.toArray 40)
    have hR:∀ j,v.ownBlock=some j->w0.heap.size<=j:=fun j hj=>(ab.out.lt j hj).1
    have bg:=Mj (A5 (A5 (A5 HG.out (It ac.out B)) ag) (It ai B)) al (fun j hj=>by have:=hR j hj;omega)
    have bz:=(((hB.trans ac.out).grown ag bm).trans ai).grownO al (fun j hj=>by have:=hR j hj;have:=ba.out.size;omega)
    have bj:=(bx.ext ai).grownO al (fun j hj=>by have:=hR j hj;omega)
    have b6:=((((R1.out.ext ac.out).grown ag (by omega)).ext ai).grownO al (fun j hj=>by have:=hR j hj;omega))
    have b7:=((((R2.out.ext ac.out).grown ag (by omega)).ext ai).grownO al (fun j hj=>by have:=hR j hj;omega))
    have b8:w0.heap.size<=w4.heap.size:=by have h2:=ac.out.size;have h3:=ag.size;have h4:=ai.size;have h5:=al.size;omega
    go_roundw
    case rel=>exact ⟨k+1,_,rfl,by omega,by go_num,by rw [ar.out];exact a1,by rw [ar.out];exact bj,b6,b7,bz,bg,b8⟩
    case measure=>simp [intOf];omega
   ·obtain rfl:k=t.e.length:=by omega
    have aa:=ab.out
    have au:=R0.out
    rw [List.take_length] at aa au
    obtain ⟨re,dd⟩:∃ x,Fi e0 w1 t.e=x:=⟨_,rfl⟩
    have bi:=Ij e0 w1 t.e
    have hm:=cg.out
    rw [dd] at aa au hm bi
    have ci:=Jh hm
    have ay:=Jh aa
    have RB:=Jh au
    have bp:=Jh bi
    clear hm aa au dd bi ab R0 cg cu bw ct ba ce
    have q0:=R1.out.has 0 _ rfl
    have q5:=R1.out.has 5 _ rfl
    obtain ⟨af,ah⟩:∃ x,(if t.op=3 then Ao.hdW re.1 else ao)=x:=⟨_,rfl⟩
    have hm:=ci.out
    rw [ah] at hm
    have cj:=Jh hm
    have cf:=Jh ah
    clear hm ah ci
    go_upto_if 76 with fail
    go_cut [3] (fun u d9=>u=.int .i64 af/\wr=d9)
    case first =>
     by_cases o3:t.op=3
     ·obtain ⟨g,cap,rfl,ep⟩:=ay.out.head (by rw [bp.out];exact bq.out o3)
      have eq:0<re.1.length:=by rw [bp.out];exact bq.out o3
      have hv:af=Ao.hdW re.1:=by rw [<-cf.out,if_pos o3]
      have HV:=Jh hv
      have b3:(t.op==3)=true:=by rw [beq_iff_eq];exact o3
      clear hv o3
      go_wp2_with fail
      go_meet
      exact ⟨by rw [HV.out],rfl⟩
     ·have hv:af=ao:=by rw [<-cf.out,if_neg o3]
      have HV:=Jh hv
      have b3:(t.op==3)=false:=by rw [beq_eq_false_iff_ne];exact o3
      clear hv o3
      go_wp2_with fail
      go_meet
      exact ⟨by rw [HV.out],rfl⟩
    case rest =>
     obtain ⟨rfl,rfl⟩:=hcut
     clear q0
     go_wp2_with fail
     clear q5
     have cb:=Jh hB
     have es:=di
     clear hB di da
     obtain ⟨wE,rfl⟩:∃ x,x=wr:=⟨_,rfl⟩
     obtain ⟨aE,a2,rfl,-⟩:=ay.out.open
     go_loopw [14,16,84] (fun u _ i wr=>∃ (k:Nat) (v:Value),v=u/\k<=t.l.length/\i=.int .i64 k/\Bi VT 44 6 wE.heap.size v (Cm ls ck af re.2 (t.l.take k)).1 wr/\Blk wr B #[.slice a' ls.length bc,.int .i64 (Cm ls ck af re.2 (t.l.take k)).2] 102
      /\ Blk wr w.heap.size (t.cells (.slice ae t.e.length ap) (.slice a4 t.l.length aq)).toArray 44/\Blk wr (w.heap.size+1) Uo.toArray 44/\Ext wb wr/\w.grownBy wr (some B)/\Al w0.heap.size wE wr) (fun _ _ i _=>t.l.length-(intOf i).toNat)
     case atStart=>exact ⟨0,_,rfl,Nat.zero_le _,rfl,Bi.nil,RB.out,R1.out,R2.out,cb.out,HG.out,Al.refl _ _⟩
     case round =>
      obtain ⟨k,v,rfl,hk,rfl,aa,r0,r1,r2,hB,hG,b9⟩:=hrel
      have ab:=Jh aa
      have R0:=Jh r0
      have bb:=Jh r1
      have cw:=Jh r2
      have cd:=Jh hG
      have cp:=Jh b9
      have ei:=b9.1
      clear aa r0 r1 r2 hG b9 RB R1 R2 HG cb
      by_cases a0:k<t.l.length
      ·obtain ⟨cs,bf,b4,az⟩:=VT.get d0.out a0
       obtain rfl:=dh.out (by omega)
       have am:t.l[k]∈t.l:=List.getElem_mem a0
       have d4:=Bf Aq t.l _ am
       have bd:=Mq ls ck af re.2 t.l k a0
       have ac:=Jh (Ab wr (.cells cs.toArray 44))
       have br:=Jh (Has.alloc wr cs 44)
       have HC:=Jh (IH.out _ am ck af B _ _ cs _ wb (R0.out.ext ac.out) (hB.trans ac.out) bm HS.out az (cr.out.2.2.2.2.2 _ am) (co.out _ am) (by omega))
       have bu:=Jh az
       have bs:=Jh (bf.ext hB)
       clear bf az
       generalize t.l[k]=ek at *
       have ar:=Jh bd
       clear bd
       obtain ⟨q,hq⟩:∃ q,szT ls ck ek af (Cm ls ck af re.2 (t.l.take k)).2=q:=⟨_,rfl⟩
       rw [hq] at ar HC
       clear hq
       have dm:wr.heap.size<(wr.alloc (.cells cs.toArray 44)).heap.size:=by simp
       have aw:(Cm ls ck af re.2 (t.l.take k)).1.length=k:=by rw [Hc,List.length_take];omega
       have ax:=Jh aw
       clear aw
       obtain ⟨rr,bk⟩:∃ rr,(Cm ls ck af re.2 (t.l.take k)).1=rr:=⟨_,rfl⟩
       rw [bk] at ab ar ax
       clear bk
       go_upto_region 24 with (first | ((with_reducible show Jl 44);refine Aa rfl 44 _ rfl rfl (bs.out) Aw b4 ?_) | ((with_reducible show Js 44);refine Ad rfl 44 _ _ rfl rfl (by first | rfl | simp) rfl Aw (b4) rfl (bu.out.one) ?_))
       generalize wr.alloc _=w2 at *
       go_wp2_with (first | ((with_reducible show Jl 44);refine Aa rfl 44 _ rfl rfl (br.out) Aw b4 ?_) | (go_at_call 59;refine HC.out.mono ?_;rintro r w3 ⟨an,rfl,bx,ag,av⟩;have aj:=Jh av;clear av) | ((with_reducible show Jw (Op.buildSlice _ _ _));refine B9 rfl _ _ rfl Nh rfl (cs:=an) rfl aj.out.len (by decide) ?_) | ((with_reducible show Jw (Op.call { callee:=.builtin .append,args:=_,argTypes:=_ }));refine De (V:=VT) rfl _ _ _ rfl Nh rfl (((ab.out.since (Al.of_ext ac.out)).since (Al.of_grown ag (by omega))).since (Al.of_ext (Ab w3 (.cells an.toArray 44)))) rfl aj.out.len (Has.alloc w3 an 44) aj.out.one ((aj.out.ext (Ab w3 (.cells an.toArray 44))).st (N:=wE.heap.size) (by omega) (fun k hk=>by have:=(ab.out.lt k hk).2;omega)) (by rw [ax.out];omega) (by have:=ag.size;simp;omega) ?_;rw [ax.out];intro g4 cx w4 a1 al))
       have ai:=Ab w3 (.cells an.toArray 44)
       have hR:∀ j,v.ownBlock=some j->wE.heap.size<=j:=fun j hj=>(ab.out.lt j hj).1
       have bg:=Mj (A5 (A5 (A5 cd.out (It ac.out B)) ag) (It ai B)) al (fun j hj=>by have:=hR j hj;omega)
       have bz:=(((hB.trans ac.out).grown ag bm).trans ai).grownO al (fun j hj=>by have:=hR j hj;omega)
       have bj:=(bx.ext ai).grownO al (fun j hj=>by have:=hR j hj;omega)
       have b6:=((((bb.out.ext ac.out).grown ag (by omega)).ext ai).grownO al (fun j hj=>by have:=hR j hj;omega))
       have b7:=((((cw.out.ext ac.out).grown ag (by omega)).ext ai).grownO al (fun j hj=>by have:=hR j hj;omega))
       have b8:Al w0.heap.size wE w4:=⟨by have h2:=ac.out.size;have h3:=ag.size;have h4:=ai.size;have h5:=al.size;omega,fun b h1 h2=>by
        have h3:=ac.out.size
        have h4:=ag.size
        have h5:=ai.size
        exact (al.block b (by omega) (by intro e;have:=hR b e.symm;omega)).trans ((ai.block b (by omega)).trans ((ag.block b (by omega) (by intro e;injection e;omega)).trans ((ac.out.block b (by omega)).trans (cp.out.2 b h1 h2))))⟩
       go_roundw
       case rel=>exact ⟨k+1,_,rfl,by omega,by go_num,by rw [ar.out];exact a1,by rw [ar.out];exact bj,b6,b7,bz,bg,b8⟩
       case measure=>simp [intOf];omega
      ·obtain rfl:k=t.l.length:=by omega
       have aa:=ab.out
       have au:=R0.out
       rw [List.take_length] at aa au
       obtain ⟨rq,de⟩:∃ x,Cm ls ck af re.2 t.l=x:=⟨_,rfl⟩
       have hm:=cj.out
       rw [de] at aa au hm
       have cl:=Jh hm
       have a9:=Jh aa
       have RB:=Jh au
       clear hm aa au de ab R0 cj db
       obtain ⟨aQ,a3,rfl,-⟩:=a9.out.open
       have bh:=bb.out.frozen
       have z4:=bb.out.has 4 _ rfl
       have z5:=bb.out.has 5 _ rfl
       have r4:=bh 4
       have r5:=bh 5
       clear bh
       go_upto_region 27 with fail
       have a5:=(bb.out.set 4 (.slice aE re.1.length a2)).set 5 (.slice aQ rq.1.length a3)
       have d1:Blk _ w.heap.size (T.cells ⟨t.op,t.sig,t.hi,t.lo,re.1,rq.1⟩ (.slice aE re.1.length a2) (.slice aQ rq.1.length a3)).toArray 44:=a5
       have a8:=A5 (Ay wr w.heap.size 4 (.slice aE re.1.length a2)) (Ay _ w.heap.size 5 (.slice aQ rq.1.length a3))
       have d3:=cw.out.grown a8 (by omega)
       have bj:=RB.out.grown a8 (by omega)
       have bg:=Mj cd.out a8 (fun j hj=>by injection hj;omega)
       have cq:=Jh (cp.out.trans (Al.of_grown a8 (by omega)))
       have dy:=Jh (Al.of_grown (N:=wE.heap.size) a8 (by omega))
       clear a5 z4 z5 r4 r5 a8
       generalize (wr.setCell _ _).setCell _ _=wy at *
       go_wp2_with (first | ((with_reducible show Jl 44);refine Aa rfl 44 _ rfl rfl (d1.has) Aw rfl ?_) | ((with_reducible show Js 44);refine Ac rfl 44 _ _ rfl d3 rfl (cs:=T.cells ⟨t.op,t.sig,t.hi,t.lo,re.1,rq.1⟩ (.slice aE re.1.length a2) (.slice aQ rq.1.length a3)) rfl Aw rfl rfl rfl ?_;intro w7 d2 bo))
       refine Av rfl rfl d2.has Aw rfl rfl ⟨_,rfl,?_,Mj bg bo (fun j hj=>by injection hj;omega),?_⟩
       ·rw [cl.out];exact bj.grown bo (by omega)
       ·rw [cl.out]
        intro W hW
        refine ⟨_,_,rfl,?_,?_⟩
        ·exact ay.out.sl (V:=VE) (At:=EAt) (fun _ _ _ _ _ h hv=>VE.at h hv) ((cq.out.trans (Al.of_grown bo (by omega))).trans (hW.mono (by omega)))
        ·exact a9.out.sl (V:=VT) (At:=TAt) (fun _ _ _ _ _ h hv=>VT.at h hv) ((dy.out.trans (Al.of_grown bo (by omega))).trans (hW.mono (by omega)))
theorem Qa (ls:List Ai) (t:T):N5 ls t:=T.ind (P:=N5 ls) (fun t ih=>Rw ls t ih) t
end Go.Proofs.YtbliplladmamoaaGreat
