/- Laws and walks that a claim of this seat leans on: Check, Bits, NumL, Alw. -/
import Derived.Test.YtbliplladmamoaaGreatSSizeD
import Derived.Test.YtbliplladmamoaaGreatS09
import Derived.Test.YtbliplladmamoaaGreatS06
import Derived.Deep.Upon
import Derived.Test.YtbliplladmamoaaGreatS00
set_option maxRecDepth 100000
set_option maxHeartbeats 8000000
set_option linter.all false
namespace Go.Proofs.YtbliplladmamoaaGreat
open Go.RowKit
def By (d:Bb):Int:=match Dp d with
 | .error g=>g
 | .ok y=>if (Gj y.procs d.procs&&Ga y.checks d.checks)=true then 0 else 90
theorem M5 {d y:Bb} (h:Dp d=.ok y):y.signals=d.signals:=by
 unfold Dp at h
 repeat' split at h
 all_goals first | (cases h;done) | (injection h with h;rw [<-h])
structure Bb.ok (d:Bb):Prop where
 wf:d.wf
 nodes:C3 d<=1048576
 signals:d.signals.length<=1048576
 procs:d.procs.length<=1048576
 checks:d.checks.length<=1048576
theorem Le (d:Bb) (v:Value) (w:World) (h:Ck w v d) (u:d.ok) :
  Calls Tryz.prog 18 #[v] w fun r w'=>r=.returned (.int .i64 (By d))/\Ext w w':=by
 have HF:=Jh h
 obtain ⟨sv,pv,cv,rfl,hS,hP,hC⟩:=h
 have HX:=Jh (Ab w (.cells [sv,pv,cv].toArray 26))
 have HB:=Jh (Has.alloc w [sv,pv,cv] 26)
 have HM:=Jh (show By d=_ from by unfold By;rfl)
 have ab:=Jh (Zl d _ _ (HF.out.ext HX.out) u.wf u.nodes u.signals u.procs u.checks)
 obtain ⟨xs,bs,os,av,e1,-,-,-,-⟩:=hS.open
 obtain ⟨ap,bp,op,au,e2,-,-,-,-⟩:=hP.open
 obtain ⟨ac,bc,oc,ar,e3,-,-,-,-⟩:=hC.open
 subst e1;subst e2;subst e3
 clear hS hP hC
 go_enter Tryz.func18,Tryz.ntmps18
 go_upto_region 1 with fail
 generalize w.alloc _=w0 at *
 cases hs:Dp d with
 | error g =>
  have hm:=HM.out
  rw [hs] at ab hm
  have aa:=Jh hm
  have hg:g≠0:=by
   unfold Dp at hs
   repeat' split at hs
   all_goals first | (injection hs with hs;rw [<-hs];decide) | (injection hs with hs;rw [<-hs];assumption) | (cases hs)
  have b1:(g==0)=false:=by rw [beq_eq_false_iff_ne];exact hg
  clear hs hm hg HM
  go_upto_region 2 with (first | ((with_reducible show Jl 26);refine Aa rfl 26 _ rfl rfl (HB.out) Aj rfl ?_) | (go_at_call 35;refine ab.out.mono ?_;rintro r w1 hq;rcases hq with ⟨g',h1,-,rfl,ae⟩ | ⟨y,a,b,c,h1,-⟩) | ((with_reducible show Js 26);refine Ad rfl 26 _ _ rfl rfl (by first | rfl | simp) rfl Aj (rfl) rfl (by rfl) ?_))
  ·obtain rfl:g=g':=by injection h1
   have j:=Jh (ae.alloc (.cells Fk.toArray 26))
   clear h1
   generalize w1.alloc _=w2 at *
   go_wp2_with fail
   go_ret
   exact ⟨Bv aa.out.symm,HX.out.trans j.out⟩
 | ok y =>
  have am:=M5 hs
  have hm:=HM.out
  rw [hs] at ab hm
  have aa:=Jh hm
  have aq:=Jh am
  clear hs hm am HM
  go_upto_region 2 with (first | ((with_reducible show Jl 26);refine Aa rfl 26 _ rfl rfl (HB.out) Aj rfl ?_) | (go_at_call 35;refine ab.out.mono ?_;rintro r w1 hq;rcases hq with ⟨g',h1,-⟩ | ⟨y',a,b,c,h1,rfl,ag,ae⟩) | ((with_reducible show Js 26);refine Ad rfl 26 _ _ rfl rfl (by first | rfl | simp) rfl Aj (rfl) rfl (by (obtain ⟨s',p',c',e,q1,q2,q3⟩:=ag;injection e with e;injection e with e;injection e with e1 e2;injection e2 with e2 e3;injection e3 with e3 e4;subst e1;subst e2;subst e3;simp [q1.one,q2.one,q3.one])) ?_))
  ·obtain rfl:y=y':=by injection h1
   have j:=ae.alloc (.cells [a,b,c].toArray 26)
   have ao:=Jh (Has.alloc w1 [a,b,c] 26)
   have an:=ag.ext (Ab w1 (.cells [a,b,c].toArray 26))
   have af:=Jh (fun W (hx:Ext _ W)=>Zk y d _ _ W (an.ext hx) (HF.out.ext ((HX.out.trans j).trans hx)) aq.out)
   have aj:=Jh (HB.out.ext j)
   have al:=Jh (HX.out.trans j)
   clear h1 ag an j ae
   generalize w1.alloc _=w2 at *
   obtain ⟨p,hp⟩:∃ p,(Gj y.procs d.procs&&Ga y.checks d.checks)=p:=⟨_,rfl⟩
   have hm:=aa.out
   try simp only at hm
   rw [hp] at af hm
   have ak:=Jh hm
   clear hm hp aa
   cases p
   ·go_wp2_with (first | ((with_reducible show Jl 26);refine Aa rfl 26 _ rfl rfl (ao.out) Aj rfl ?_) | ((with_reducible show Jl 26);refine Aa rfl 26 _ rfl rfl (aj.out) Aj rfl ?_) | (go_at_call 36;refine (af.out _ (Below.refl _ _)).mono ?_;rintro r w3 ⟨rfl,ai⟩))
    all_goals go_ret
    all_goals exact ⟨Bv (by rw [ak.out];rfl),al.out.trans ai⟩
   ·go_wp2_with (first | ((with_reducible show Jl 26);refine Aa rfl 26 _ rfl rfl (ao.out) Aj rfl ?_) | ((with_reducible show Jl 26);refine Aa rfl 26 _ rfl rfl (aj.out) Aj rfl ?_) | (go_at_call 36;refine (af.out _ (Below.refl _ _)).mono ?_;rintro r w3 ⟨rfl,ai⟩))
    all_goals go_ret
    all_goals exact ⟨Bv (by rw [ak.out];rfl),al.out.trans ai⟩
/-! ### stmt.Bits: where each signal's bits begin -/
theorem Ip {d:Bb} (h:By d=0):C4 d=true:=by
 unfold By at h
 cases hs:Dp d with
 | error g =>
  exfalso
  rw [hs] at h
  simp only at h
  subst h
  unfold Dp at hs
  repeat' split at hs
  all_goals first | (cases hs;done) | (injection hs with hs;first | exact absurd hs (by decide) | (rename_i j;exact j hs))
 | ok y =>
  unfold Dp at hs
  repeat' split at hs
  all_goals first | (cases hs;done) | skip
  rename_i j _ _
  simpa using j
theorem Ags (j:List (List UInt8)) (l:List Ai) (h:Cp j l=true):∀ x∈l,1<=x.w/\x.w<=64:=by
 induction l generalizing j with
 | nil=>intro x hx;cases hx
 | cons y l ih =>
  rw [Cp,Bool.and_eq_true] at h
  intro x hx
  cases hx with
  | head =>
   have:=h.1
   unfold Py at this
   simp only [Bool.and_eq_true,decide_eq_true_eq] at this
   omega
  | tail _ hx=>exact ih _ h.2 x hx
theorem Dv {d:Bb} (h:By d=0):∀ x∈d.signals,1<=x.w/\x.w<=64:=by
 have h1:=Ip h
 unfold C4 at h1
 simp only [Bool.and_eq_true] at h1
 exact Ags _ _ h1.1.1
def H8 (ls:List Ai) (k:Nat):Int:=((ls.take k).map (·.w)).sum
def D0 (ls:List Ai) (k:Nat):List Int:=(List.range (k+1)).map (H8 ls)
theorem Uf (ls:List Ai) (k:Nat) (h:k<ls.length):H8 ls (k+1)=H8 ls k+ls[k].w:=by
 unfold H8
 rw [Ba _ _ h,List.map_append,List.sum_append]
 simp
theorem Aag (ls:List Ai) (k:Nat):D0 ls (k+1)=D0 ls k++[H8 ls (k+1)]:=by
 unfold D0;rw [List.range_succ,List.map_append];rfl
theorem Gs (ls:List Ai) (k:Nat):(D0 ls k).length=k+1:=by simp [D0]
theorem Aaf (ls:List Ai) (k:Nat):(D0 ls k)[k]? = some (H8 ls k):=by simp [D0]
theorem V2 (ls:List Ai) (h:∀ x∈ls,1<=x.w/\x.w<=64):∀ k,k<=ls.length->0<=H8 ls k/\H8 ls k<=64*k:=by
 intro k
 induction k with
 | zero=>intro _;simp [H8]
 | succ k ih =>
  intro hk
  have h1:=ih (by omega)
  have h2:=h _ (List.getElem_mem (show k<ls.length by omega))
  rw [Uf ls k (by omega)]
  omega
theorem Acu {ae:Array Oper} {o:Oper} {a:Act} {w:World} {K:Act->World->Prop} {Q:Exit->Act->World->Prop} {E:Prop} (hw:Region.wanted o (yielded ae a.tmps)=true) (s x:Operand)
  (ho:o.op=.call { callee:=.builtin .append,args:=#[s,x],argTypes:=#[49,49] }) {N:Nat} {v:Value} {l:List Int} (hs:a.eval s=v) (ac:Au N v l w)
  {ad:Addr} {m c:Nat} (hx:a.eval x=.slice (some ad) m c) (hm:v=.slice none 0 0->0<m) {news:List Int} (hl:news.length=m)
  (ab:∀ j u,(news.map (Value.int .i64))[j]? = some u->w.cell? (ad.add j)=some u) (hn:l.length+m<=1099511627776) (aa:N<=w.heap.size)
  (h:∀ g cap w',Au N (.slice (some ⟨g,0,none⟩) (l.length+m) cap) (l++news) w'->w.grownBy w' v.ownBlock->K (a.put o.dst (.slice (some ⟨g,0,none⟩) (l.length+m) cap)) w') :
  if Region.wanted o (yielded ae a.tmps)=true then Oper.wp Tryz.prog o a w K Q else E:=by
 rw [if_pos hw]
 obtain ⟨g,cap,w',hr,h2,h3⟩:=Ro (ty:=o.type) (c:=c) ac hm hl ab hn aa
 unfold Oper.wp execOp
 simp only [ho,resolve,invoke,builtin,Sem.run_bind,Sem.run_pure,Result.andThen_ok,List.map_toArray,List.map_cons,List.map_nil,hs,hx]
 rw [hr]
 exact h g cap w' h2 h3
theorem Au.one {N B:Nat} {W:World} {x:Int} (h:Blk W B #[.int .i64 x] 3) (hN:N<=B):Au N (.slice (some ⟨B,0,none⟩) 1 1) [x] W :=
 ⟨rfl,.inr ⟨B,1,_,rfl,hN,h,Nat.le_refl _,by decide,rfl,rfl⟩⟩
theorem Au.open1 {N:Nat} {v:Value} {l:List Int} {w:World} (h:Au N v l w) (hl:0<l.length):∃ g cap,v=.slice (some ⟨g,0,none⟩) l.length cap/\N<=g/\∀ i x,l[i]? = some x->w.cell? ⟨g,i,none⟩=some (.int .i64 x):=by
 rcases h.2 with ⟨rfl,h0⟩ | ⟨g,cap,u,rfl,hb,hg,ac,aa,ab,j⟩
 ·omega
 ·refine ⟨g,cap,rfl,hb,fun i x hx=>?_⟩
  have:=Hw (N:=N) (cap:=cap) (size:=1) hg j i (.int .i64 x) (by simp [hx])
  rwa [Nat.zero_add] at this
theorem Qj (d:Bb) (v:Value) (w:World) (h:Ck w v d) (a6:d.ok) :
  Calls Tryz.prog 15 #[v] w fun r w'=>∃ u,r=.returned (.tuple #[u,.int .i64 (if By d=0 then 0 else 1)])/\Au w.heap.size u (if By d=0 then D0 d.signals d.signals.length else []) w'/\Ext w w':=by
 have HF:=Jh h
 obtain ⟨sv,pv,cv,rfl,hS,hP,hC⟩:=h
 have b5:[sv,pv,cv].all (·.oneCell')=true:=by simp [hS.one,hP.one,hC.one]
 have HX:=Jh (Ab w (.cells [sv,pv,cv].toArray 26))
 have HB:=Jh (Blk.new w [sv,pv,cv].toArray 26)
 have ao:=Jh (Le d _ _ (HF.out.ext HX.out) a6)
 have bu:=Jh a6.signals
 obtain ⟨a0,b0,o0,c0,rfl,ca,cb,ha,hr⟩:=hS.open
 have HA:=Jh ha
 have HR:=Jh hr
 clear hS hP hC ha hr
 go_enter Tryz.func15,Tryz.ntmps15
 go_upto_region 1 with fail
 have cd:(w.alloc (.cells [.slice a0 d.signals.length c0,pv,cv].toArray 26)).heap.size=w.heap.size+1:=by simp
 generalize w.alloc _=w1 at *
 by_cases ab:By d=0
 ·have a9:=Dv ab
  rw [ab] at ao
  have HW:=Jh a9
  have ae:=Jh ab
  clear a9 ab
  go_wp2_with (first | ((with_reducible show Jl 26);refine Aa rfl 26 _ rfl rfl (HB.out.has) Aj rfl ?_) | (go_at_call 18;refine ao.out.mono ?_;rintro r w2 ⟨rfl,aj⟩;obtain ⟨B2,bx⟩:∃ y,w2.heap.size=y:=⟨_,rfl⟩;have au:=Ab w2 (.cells [Value.int .i64 0].toArray 3);have az:=Blk.new w2 [Value.int .i64 0].toArray 3;have aw:=Jh (HX.out.trans aj);have z0:=((HB.out.ext aj).ext au).has 0 _ rfl) | ((with_reducible show Jw (Op.buildSlice _ _ _));refine B9 rfl _ _ rfl Dh rfl (cs:=[Value.int .i64 0]) rfl rfl (by decide) ?_))
  have b6:=aw.out.size
  have a7:=Au.one (N:=w.heap.size) az (by omega)
  have ax:=aw.out.trans au
  rw [bx] at *
  generalize w2.alloc _=w3 at *
  refine wp_loop (fun a wr=>∃ (k:Nat) (u x6 ba bb bc bd be bf bg bi bj bk bl bm bo bp bq br bs:Value),a=⟨#[.agg #[.slice a0 d.signals.length c0,pv,cv],.pointer (some ⟨w.heap.size,0,Option.none⟩),.slice Option.none 0 0,.int .i64 0,u,undef,x6,.agg #[.slice a0 d.signals.length c0,pv,cv],.int .i64 0,.bool false,.slice (some ⟨B2,0,Option.none⟩) 1 1,.pointer (some ⟨w.heap.size,0,Option.none⟩),.slice a0 d.signals.length c0,.int .i64 d.signals.length,.int .i64 (k:Int),ba,bb,bc,bd,be,bf,bg,bi,bj,bk,bl,bm,bo,bp,bq,br,bs],[]⟩ /\
   k<=d.signals.length/\Au w.heap.size u (D0 d.signals k) wr/\Ext w wr) (fun a _=>d.signals.length-(intOf (a.tmps.getD 14 undef)).toNat)
   ⟨0,_,_,_,_,_,_,_,_,_,_,_,_,_,_,_,_,_,_,_,rfl,Nat.zero_le _,a7,ax⟩ ?_
  rintro a wr ⟨k,u,x6,ba,bb,bc,bd,be,bf,bg,bi,bj,bk,bl,bm,bo,bp,bq,br,bs,rfl,hk,an,hx⟩
  have ac:=Jh an
  have aq:=Jh hx
  have cf:=hx.size
  clear an hx a7 ax au az z0
  obtain ⟨g,cap,hu,hg,a1⟩:=ac.out.open1 (by rw [Gs];omega)
  rw [Gs] at hu
  subst hu
  by_cases ag:k<d.signals.length
  ·obtain rfl:=HA.out (by omega)
   have a4:Has wr b0 (o0+k*4) d.signals[k].cells:=Cq.get (HR.out.mono fun x _ b o h=>C6.ext' aq.out h) ag
   have cg:=HW.out _ (List.getElem_mem ag)
   have a8:=Uf d.signals k ag
   have b8:=V2 d.signals HW.out k hk
   have b4:=V2 d.signals HW.out (k+1) ag
   have a2:=a1 k _ (Aaf d.signals k)
   have af:=Aag d.signals k
   have a5:=Gs d.signals k
   have cc:=bu.out
   generalize d.signals[k]=x at *
   generalize H8 d.signals k=s0 at *
   generalize H8 d.signals (k+1)=s1 at *
   generalize D0 d.signals k=l0 at *
   have ap:=Jh af
   have al:=Jh a5
   have bw:=Jh a8
   have bt:=Jh a2
   clear af a1 a5 a2
   have av:=Ab wr (.cells x.cells.toArray 37)
   have bz:=Blk.new wr x.cells.toArray 37
   have b1:=ac.out.ext av
   have ce:(wr.alloc (.cells x.cells.toArray 37)).heap.size=wr.heap.size+1:=by simp
   have am:(wr.alloc (.cells x.cells.toArray 37)).cell? ⟨g,k,none⟩=some (.int .i64 s0):=by
    have:=Has.ext (cs:=[.int .i64 s0]) (b:=g) (o:=k) (w:=wr) (fun j u hj=>by
     cases j with
     | zero=>simp at hj;subst hj;exact bt.out
     | succ j=>simp at hj) av
    exact this 0 _ rfl
   clear a8
   go_upto_region 7 with (first | ((with_reducible show Jl 37);refine Aa rfl 37 _ rfl rfl (a4) Br rfl ?_) | ((with_reducible show Js 37);refine Ad rfl 37 _ _ rfl rfl (by first | rfl | simp) rfl Br (rfl) rfl (by rfl) ?_))
   generalize wr.alloc _=w4 at *
   refine wp_region_held_drew (S:=fun W3=>Blk W3 wr.heap.size x.cells.toArray 37) (by kernel_rfl) bz.drew (fun hH=>?_)
   try simp only [J]
   (refine Ji 0 _ rfl hH ?_;try simp only [J])
   (refine Ji 1 _ rfl hH ?_;try simp only [J])
   (refine Ji 2 _ rfl hH ?_;try simp only [J])
   (refine Jt 3 (.int .i64 ((k+1:Nat):Int)) rfl (yif_load1 rfl (by intro W3 hW;clear hW;go_simp)) hH ?_;try simp only [J])
   (refine Jt 4 (.int .i64 (k:Int)) rfl (yif_load1 rfl (by intro W3 hW;clear hW;go_simp;rw [IntKind.wrap_i64];omega)) hH ?_;try simp only [J])
   (refine Jt 5 (.pointer (some ⟨g,k,Option.none⟩)) rfl (yif_load1 rfl (by intro W3 hW;clear hW;go_simp;intro h;omega)) hH ?_;try simp only [J])
   (refine Ji 7 _ rfl hH ?_;try simp only [J])
   (refine Jt 8 (.int .i64 x.w) rfl (yif_load1 rfl (by intro W3 hW;have hw:=hW.has 1 _ rfl;clear hW;go_simp)) hH ?_;try simp only [J])
   refine Jr 6 rfl fun K hK=>?_
   have a3:w4.drew.cell? ⟨g,k,none⟩=some (.int .i64 s0):=am
   go_simp
   refine hK.out _ _ hH (fun hH=>?_)
   clear hK K a3
   try simp only [J]
   (refine Jt 9 (.int .i64 s1) rfl (yif_load1 rfl (by intro W3 hW;clear hW;go_simp;have e:=bw.out;rw [IntKind.wrap_i64];omega)) hH ?_;try simp only [J])
   refine Jr 10 rfl fun K hK=>?_
   refine Dg rfl _ _ rfl Dh rfl (cs:=[.int .i64 s1]) rfl rfl (by decide) ?_
   have ak:=Ab w4.drew (.cells [Value.int .i64 s1].toArray 3)
   have ah:=Blk.new w4.drew [Value.int .i64 s1].toArray 3
   have ai:Au w.heap.size _ l0 _:=((b1.ext (Below.drew (Below.refl _ _))).ext ak)
   have b2:(w4.drew.alloc (.cells [Value.int .i64 s1].toArray 3)).heap.size=w4.heap.size+1:=by simp [World.heap_drew]
   have ay:Ext w _:=((aq.out.trans av).drew).trans ak
   refine hK.out _ _ (hH.ext ak) (fun hH=>?_)
   clear hK K
   try simp only [J]
   generalize w4.drew.alloc _=w5 at *
   refine Jr 11 rfl fun K hK=>?_
   refine Acu (m:=1) (news:=[s1]) rfl _ _ rfl rfl ai rfl (fun _=>Nat.lt_of_lt_of_le Nat.zero_lt_one (Nat.le_refl 1)) rfl (Lt ah.has) (by rw [al.out];omega) (by omega) ?_
   intro g7 b3 w7 aa ar
   rw [<-ap.out] at aa
   rw [al.out] at aa ⊢
   have b7:Ext w w7:=Ext.grownO ay ar (fun j hj=>(ai.at hj).1)
   have bh:Blk w7 wr.heap.size x.cells.toArray 37:=(ar.block _ hH.lt (fun e=>ai.ne hH rfl e.symm rfl)).trans hH
   refine hK.out _ _ bh (fun hH=>?_)
   clear hK K
   try simp only [J]
   (refine Ji 12 _ rfl hH ?_;try simp only [J])
   refine Jz ?_
   clear am ah ai ak b2 ay ar
   have bv:=Jh aa
   clear aa
   go_wp2_with fail
   exact ⟨⟨k+1,_,⟨rfl,by omega⟩,by omega,bv.out⟩,by simp [intOf];omega⟩
  ·obtain rfl:k=d.signals.length:=by omega
   go_wp2_with fail
   refine bodyPost_ret (v:=.tuple #[.slice (some ⟨g,0,Option.none⟩) (d.signals.length+1) cap,.int .i64 0]) (by simp [results,Tryz.results15,go_sem]) rfl ⟨.slice (some ⟨g,0,Option.none⟩) (d.signals.length+1) cap,by first | rfl | rw [if_pos ae.out],by first | exact ac.out | (rw [if_pos ae.out];exact ac.out),aq.out⟩
 ·have b9:(By d==0)=false:=by rw [beq_eq_false_iff_ne];exact ab
  have ae:=Jh ab
  clear ab
  go_wp2_with (first | ((with_reducible show Jl 26);refine Aa rfl 26 _ rfl rfl (HB.out.has) Aj rfl ?_) | (go_at_call 18;refine ao.out.mono ?_;rintro r w2 ⟨rfl,aj⟩))
  refine bodyPost_ret (v:=.tuple #[.slice Option.none 0 0,.int .i64 1]) (by simp [results,Tryz.results15,go_sem]) rfl ⟨.slice Option.none 0 0,by first | rfl | rw [if_neg ae.out],by first | exact Au.nil _ _ | (rw [if_neg ae.out];exact Au.nil _ _),HX.out.trans aj⟩
/-! ### plain: the numbers of bits rise, each once -/
theorem K7 (d:Array Int):∀ m x,x∈Lib.compactUpTo d m↔∃ j,j<m/\d[j]! = x:=by
 intro m
 induction m with
 | zero=>intro x;simp [Lib.compactUpTo]
 | succ m ih =>
  intro x
  rw [Lib.compactUpTo_succ,List.mem_append,ih]
  constructor
  ·rintro (⟨j,hj,rfl⟩ | h)
   ·exact ⟨j,by omega,rfl⟩
   ·split at h
    ·simp at h;exact ⟨m,by omega,h.symm⟩
    ·cases h
  ·rintro ⟨j,hj,rfl⟩
   by_cases u:j<m
   ·exact .inl ⟨j,u,rfl⟩
   ·have:j=m:=by omega
    subst this
    by_cases hk:Lib.keeps d j=true
    ·exact .inr (by rw [if_pos hk];simp)
    ·simp only [Lib.keeps,decide_eq_true_eq,not_or,Decidable.not_not] at hk
     exact .inl ⟨j-1,by omega,hk.2.symm⟩
theorem Q4 (d:Array Int) (hs:∀ i j,i<=j->j<d.size->d[i]!<=d[j]!):∀ m,m<=d.size->(Lib.compactUpTo d m).Pairwise (·<·)/\∀ x∈Lib.compactUpTo d m,∀ j,m<=j+1->j<d.size->x<=d[j]!:=by
 intro m
 induction m with
 | zero=>intro _;simp [Lib.compactUpTo]
 | succ m ih =>
  intro hm
  obtain ⟨h1,h2⟩:=ih (by omega)
  constructor
  ·rw [Lib.compactUpTo_succ,List.pairwise_append]
   refine ⟨h1,?_,?_⟩
   ·split<;>simp
   ·intro x hx y hy
    split at hy
    ·rename_i hk
     simp at hy
     subst hy
     simp only [Lib.keeps,decide_eq_true_eq] at hk
     rcases hk with hk | hk
     ·subst hk;simp [Lib.compactUpTo] at hx
     ·by_cases h0:m=0
      ·subst h0;simp [Lib.compactUpTo] at hx
      ·have q1:=h2 x hx (m-1) (by omega) (by omega)
       have q2:=hs (m-1) m (by omega) (by omega)
       omega
    ·cases hy
  ·intro x hx j hj u
   obtain ⟨i,hi,rfl⟩:=(K7 d _ x).1 hx
   exact hs i j (by omega) u
theorem Acq (l:List Int) (x:Int):x∈F4 l↔x∈l:=by unfold F4;exact List.mem_mergeSort
theorem V0 (l:List Int):(F4 l).Pairwise (·<=·):=by
 have:=List.pairwise_mergeSort (le:=fun x y:Int=>decide (x<=y)) (fun a b c h1 h2=>by simp at *;omega) (fun a b=>by simp;omega) l
 unfold F4
 exact this.imp fun h=>by simpa using h
def Sj (l:List Int):List Int:=Lib.compact (F4 l)
theorem Kc (l:List Int) (x:Int):x∈Sj l↔x∈l:=by
 rw [<-Acq l x]
 unfold Sj Lib.compact
 rw [K7]
 constructor
 ·rintro ⟨j,hj,rfl⟩
  have:j<(F4 l).toArray.size:=by simpa using hj
  rw [getElem!_pos (F4 l).toArray j this]
  simp
 ·intro h
  obtain ⟨j,hj,rfl⟩:=List.getElem_of_mem h
  refine ⟨j,hj,?_⟩
  have:j<(F4 l).toArray.size:=by simpa using hj
  rw [getElem!_pos (F4 l).toArray j this]
  simp
theorem Agq (l:List Int):(Sj l).Pairwise (·<·):=by
 unfold Sj Lib.compact
 refine (Q4 (F4 l).toArray (fun i j u hj=>?_) (F4 l).length (by simp)).1
 have hi:i<(F4 l).toArray.size:=by omega
 rw [getElem!_pos (F4 l).toArray j hj,getElem!_pos (F4 l).toArray i hi]
 simp only [Jd]
 by_cases e:i=j
 ·subst e;exact Int.le_refl _
 ·exact List.pairwise_iff_getElem.1 (V0 l) i j (by simpa using hi) (by simpa using hj) (by omega)
theorem Ahi (l r:List Int) (hl:l.Pairwise (·<·)) (hr:r.Pairwise (·<·)) (h:∀ x,x∈l↔x∈r):l=r:=by
 induction l generalizing r with
 | nil=>cases r with
  | nil=>rfl
  | cons y r=>exact absurd ((h y).2 (by simp)) (by simp)
 | cons x l ih =>
  cases r with
  | nil=>exact absurd ((h x).1 (by simp)) (by simp)
  | cons y r =>
   obtain ⟨a1,a2⟩:=List.pairwise_cons.1 hl
   obtain ⟨b1,b2⟩:=List.pairwise_cons.1 hr
   have j:x=y:=by
    have h1:x∈y::r:=(h x).1 (by simp)
    have h2:y∈x::l:=(h y).2 (by simp)
    cases h1 with
    | head=>rfl
    | tail _ h1 =>
     cases h2 with
     | head=>rfl
     | tail _ h2=>have:=b1 x h1;have:=a1 y h2;omega
   subst j
   rw [ih r a2 b2 fun z=>?_]
   constructor
   ·intro hz
    have h1:z∈x::r:=(h z).1 (by simp [hz])
    cases h1 with
    | head=>exact absurd (a1 _ hz) (by omega)
    | tail _ h1=>exact h1
   ·intro hz
    have h1:z∈x::l:=(h z).2 (by simp [hz])
    cases h1 with
    | head=>exact absurd (b1 _ hz) (by omega)
    | tail _ h1=>exact h1
theorem Vr (l r:List Int) (hr:r.Pairwise (·<·)) (h:∀ x,x∈l↔x∈r):Sj l=r :=
 Ahi _ _ (Agq l) hr fun x=>by rw [Kc,h]
theorem Kt (j:List Int) (xs:List Cb):Dl j xs=Sj (Dt j xs):=rfl
theorem Ri (u:List Int) (s:Cb) (x:Int):x∈Fs u s↔∃ j:Int,s.lo<=j/\j<=s.hi/\x=u.getD s.sig.toNat 0+j:=by
 unfold Fs
 rw [List.mem_map]
 constructor
 ·rintro ⟨j,hj,rfl⟩
  rw [List.mem_range] at hj
  exact ⟨s.lo+j,by omega,by omega,rfl⟩
 ·rintro ⟨j,h1,h2,rfl⟩
  exact ⟨(j-s.lo).toNat,by rw [List.mem_range];omega,by congr 1;omega⟩
theorem Vj (u:List Int) (xs:List Cb) (x:Int):x∈Dl u xs↔∃ s∈xs,∃ j:Int,s.lo<=j/\j<=s.hi/\x=u.getD s.sig.toNat 0+j:=by
 rw [Kt,Kc]
 unfold Dt
 simp only [List.mem_flatten,List.mem_map]
 constructor
 ·rintro ⟨l,⟨s,hs,rfl⟩,hx⟩
  exact ⟨s,hs,(Ri _ _ _).1 hx⟩
 ·rintro ⟨s,hs,h⟩
  exact ⟨_,⟨s,hs,rfl⟩,(Ri _ _ _).2 h⟩
/-! ### plain: of lists without doubles one stands in another -/
/-! ### plain: where each signal's bits begin -/
/-! ### append of numbers, of whatever slice -/
theorem Afc {w:World} {N:Nat} {v:Value} {l:List Int} (aa:Au N v l w) {ty:TypeId} {x:Value} {news:List Int} (hx:Ints w x news) (hn:l.length+news.length<=1099511627776) (ab:N<=w.heap.size) :
  ∃ v' w',(Builtin.append_ #[49,49] ty #[v,x]).run Tryz.prog w=.ok v' w'/\Au N v' (l++news) w'/\w.grownBy w' v.ownBlock:=by
 obtain ⟨a,b,o,cap,rfl,al,am,ha,hr⟩:=hx.open
 by_cases h0:0<news.length
 ·obtain rfl:=ha h0
  obtain ⟨g,ai,w',h1,h2,h3⟩:=Ro (ty:=ty) (c:=cap) (m:=news.length) aa (fun _=>h0) rfl (ad:=⟨b,o,none⟩) (news:=news) (fun j u hj=>by
   rw [List.getElem?_map] at hj
   cases hq:news[j]? with
   | none=>rw [hq] at hj;cases hj
   | some y =>
    rw [hq] at hj
    have ae:(⟨b,o,none⟩:Addr).add j=⟨b,o+j,none⟩:=by unfold Addr.add;split<;>simp_all
    rw [ae]
    have:=(hr.get hq) 0 _ rfl
    simp only [Nat.mul_one,Nat.add_zero] at this
    rw [this]
    exact hj) hn ab
  exact ⟨_,w',h1,h2,h3⟩
 ·obtain rfl:news=[]:=List.eq_nil_of_length_eq_zero (by omega)
  obtain ⟨ht,ac,ao,ak⟩:=Dh
  cases hi:Tryz.prog.info? 3 with
  | none=>simp [hi] at ac
  | some i =>
   have af:Src Tryz.prog i.size 49 (.slice a 0 cap) 0 [] w:=by
    cases a with
    | none=>exact Src.ofNil w ht cap
    | some a=>exact Src.ofSlice w ht a 0 cap [] (by simp) (by intro j u hj;simp at hj) (by simp)
   obtain ⟨av,cv,hv,-⟩:=aa.open
   have ag:l.length<=cv:=by
    rcases aa.2 with ⟨e,h0⟩ | ⟨g,c2,aj,e,hb,hg,an,-⟩
    ·rw [hv] at e;injection e with _ e2 e3;omega
    ·rw [hv] at e;injection e with _ e2 e3;omega
   refine ⟨v,w,?_,by rw [List.append_nil];exact aa,⟨rfl,rfl,rfl,Nat.le_refl _,fun _ _ _=>rfl⟩⟩
   rw [hv]
   exact run_append_nothing w 49 49 ty 3 i ht hi av l.length cv ag _ af
theorem Ik {aa:Array Oper} {rest:List Oper} {o:Oper} {a:Act} {w:World} {Q:Exit->Act->World->Prop} (hw:Region.wanted o (yielded aa a.tmps)=true) (s x:Operand)
  (ho:o.op=.call { callee:=.builtin .append,args:=#[s,x],argTypes:=#[49,49] }) {N:Nat} {v:Value} {l:List Int} (hs:a.eval s=v) (ab:Au N v l w)
  {xv:Value} (hx:a.eval x=xv) {news:List Int} (u:Ints w xv news) (hn:l.length+news.length<=1099511627776) (j:N<=w.heap.size)
  (h:∀ v' w',Au N v' (l++news) w'->w.grownBy w' v.ownBlock->wpList Tryz.prog aa Q rest (a.put o.dst v') w') :
  wpList Tryz.prog aa Q (o::rest) a w :=
 BigFrame.wpList_want hw fun _ hK=>by
  obtain ⟨v',w',hr,h2,h3⟩:=Afc (ty:=o.type) ab u hn j
  unfold Oper.wp execOp
  simp only [ho,resolve,invoke,builtin,Sem.run_bind,Sem.run_pure,Result.andThen_ok,List.map_toArray,List.map_cons,List.map_nil,hs,hx]
  rw [hr]
  exact hK _ _ (h v' w' h2 h3)
theorem Qd:H7 Tryz.prog 91 49 1 24:=⟨Tryz.underlying91,by kernel_rfl,by decide,by decide⟩
/-! ### always: what statements write on each way -/
def Lm (offs:List Int):T->List Int × List Int
 | ⟨op,sig,hi,lo,_,l⟩ =>
  let r:=Sj (fsts l)
  (if op=1 then Dl offs [⟨sig,hi,lo⟩] else if op=2\/op=3 then Vk (snds l) else r,r)
where
 fsts:List T->List Int
  | []=>[]
  | t::l=>(Lm offs t).1++fsts l
 snds:List T->List (List Int)
  | []=>[]
  | t::l=>(Lm offs t).2::snds l
theorem Lm.fsts_eq (j:List Int) (l:List T):Lm.fsts j l=(l.map fun t=>(Lm j t).1).flatten:=by
 induction l with
 | nil=>rfl
 | cons x l ih=>simp [Lm.fsts,ih]
theorem Lm.snds_eq (j:List Int) (l:List T):Lm.snds j l=l.map fun t=>(Lm j t).2:=by
 induction l with
 | nil=>rfl
 | cons x l ih=>simp [Lm.snds,ih]
def alt (offs:List Int) (t:T):List Int:=(Lm offs t).1
def Nf (offs:List Int) (l:List T):List Int:=(l.map (alt offs)).flatten
def F8 (offs:List Int) (l:List T):List Int:=Sj (Nf offs l)
theorem Adb (j:List Int) (t:T):(Lm j t).2=F8 j t.l:=by
 cases t;simp only [Lm,Lm.fsts_eq];rfl
theorem U2 (j:List Int) (t:T):alt j t=if t.op=1 then Dl j [Fh t] else if t.op=2\/t.op=3 then Vk (t.l.map fun x=>F8 j x.l) else F8 j t.l:=by
 have h:=Adb j
 cases t with
 | mk op sig hi lo e l =>
  unfold alt
  simp only [Lm,Lm.fsts_eq,Lm.snds_eq,Fh]
  simp only [h]
  rfl
theorem Abm (j:List Int) (l:List T) (k:Nat) (h:k<l.length):Nf j (l.take (k+1))=Nf j (l.take k)++alt j l[k]:=by
 unfold Nf
 rw [Ba _ _ h,List.map_append,List.flatten_append]
 simp only [List.map_cons,List.map_nil,List.flatten_cons,List.flatten_nil,List.append_nil]
theorem Px (l:List Int):(Sj l).length<=l.length:=by
 have h1:=Lib.compact_length_le (F4 l)
 have h2:(F4 l).length=l.length:=List.length_mergeSort _
 unfold Sj;omega
def Hf (offs:List Int):T->Prop
 | ⟨op,sig,hi,lo,_,l⟩=>(op=1->H9 offs ⟨sig,hi,lo⟩)/\(op=2\/op=3->0<l.length)/\oks l
where oks:List T->Prop
 | []=>True
 | t::l=>Hf offs t/\oks l
theorem Hf.oks_iff (j:List Int) (l:List T):Hf.oks j l↔∀ t∈l,Hf j t:=by
 induction l with
 | nil=>simp [Hf.oks]
 | cons e l ih=>simp [Hf.oks,ih]
theorem Gb (j:List Int) (t:T):Hf j t↔(t.op=1->H9 j (Fh t))/\(t.op=2\/t.op=3->0<t.l.length)/\∀ x∈t.l,Hf j x:=by
 cases t;simp [Hf,Hf.oks_iff,Fh]
theorem Ng (j:List Int) (t:T) (h:Hf j t):(alt j t).length<=64*Aq t/\(F8 j t.l).length<=64*Ap Aq t.l:=by
 induction t using T.ind with
 | h t ih =>
  obtain ⟨h1,h2,h3⟩:=(Gb _ _).1 h
  have u:∀ l:List T,(∀ x∈l,x∈t.l)->(Nf j l).length<=64*Ap Aq l:=by
   intro l
   induction l with
   | nil=>intro _;simp [Nf]
   | cons y l ih2 =>
    intro hm
    have q1:=(ih y (hm y (by simp)) (h3 y (hm y (by simp)))).1
    have q2:=ih2 fun z hz=>hm z (by simp [hz])
    simp only [Nf,List.map_cons,List.flatten_cons,List.length_append,Ap] at q2 ⊢
    omega
  have hk:=u t.l fun _ h=>h
  have hm:(F8 j t.l).length<=64*Ap Aq t.l:=Nat.le_trans (Px _) hk
  refine ⟨?_,hm⟩
  rw [U2]
  have hn:=Ca t
  by_cases e1:t.op=1
  ·rw [if_pos e1]
   have:(Dl j [Fh t]).length<=64:=by
    refine Nat.le_trans (Px _) (Nat.le_trans (Ll j [Fh t] ?_) (by simp))
    intro s hs
    simp at hs
    subst hs
    exact h1 e1
   omega
  ·rw [if_neg e1]
   by_cases e2:t.op=2\/t.op=3
   ·rw [if_pos e2]
    have h0:=h2 e2
    cases hl:t.l with
    | nil=>rw [hl] at h0;simp at h0
    | cons y l =>
     have hy:y∈t.l:=by rw [hl];simp
     have q1:=(ih y hy (h3 y hy)).2
     have q2:=Ca y
     have q3:=Bf Aq t.l y hy
     have q4:(Vk (List.map (fun x=>F8 j x.l) (y::l))).length<=(F8 j y.l).length:=by
      unfold Vk
      exact List.length_filter_le _ _
     omega
   ·rw [if_neg e2]
    omega
end Go.Proofs.YtbliplladmamoaaGreat
