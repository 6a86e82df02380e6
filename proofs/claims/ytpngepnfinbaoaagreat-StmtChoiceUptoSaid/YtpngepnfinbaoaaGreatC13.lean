/- Laws and walks that a claim of this seat leans on: Check, Bits, NumL, Alw. -/
import Derived.Test.YtpngepnfinbaoaaGreatCSizeD
import Derived.Test.YtpngepnfinbaoaaGreatC09
import Derived.Test.YtpngepnfinbaoaaGreatC06
import Derived.Deep.Upon
import Derived.Test.YtpngepnfinbaoaaGreatC00
set_option maxRecDepth 100000
set_option maxHeartbeats 8000000
set_option linter.all false
namespace Go.Proofs.YtpngepnfinbaoaaGreat
open Go.RowKit
def checkM (d:Flat):Int:=match sizeD d with
 | .error g=>g
 | .ok y=>if (sameProcs y.procs d.procs&&sameChecks y.checks d.checks)=true then 0 else 90
theorem sizeD_signals {d y:Flat} (h:sizeD d=.ok y):y.signals=d.signals:=by
 unfold sizeD at h
 repeat' split at h
 all_goals first | (cases h;done) | (injection h with h;rw [<-h])
structure Flat.ok (d:Flat):Prop where
 wf:d.wf
 nodes:mNodes d<=1048576
 signals:d.signals.length<=1048576
 procs:d.procs.length<=1048576
 checks:d.checks.length<=1048576
theorem Check_calls (d:Flat) (v:Value) (w:World) (h:FlatV w v d) (hok:d.ok) :
  Calls Tryz.prog 8 #[v] w fun r w'=>r=.returned (.int .i64 (checkM d))/\Ext w w':=by
 have HF:=Jh h
 obtain ⟨sv,pv,cv,rfl,hS,hP,hC⟩:=h
 have HX:=Jh (ext_alloc w (.cells [sv,pv,cv].toArray 26))
 have HB:=Jh (Has.alloc w [sv,pv,cv] 26)
 have HM:=Jh (show checkM d=_ from by unfold checkM;rfl)
 have HSZ:=Jh (Size_calls d _ _ (HF.out.ext HX.out) hok.wf hok.nodes hok.signals hok.procs hok.checks)
 obtain ⟨xs,bs,os,caps,e1,-,-,-,-⟩:=hS.open
 obtain ⟨ap,bp,op,capp,e2,-,-,-,-⟩:=hP.open
 obtain ⟨ac,bc,oc,capc,e3,-,-,-,-⟩:=hC.open
 subst e1;subst e2;subst e3
 clear hS hP hC
 go_enter Tryz.func8,Tryz.ntmps8
 go_upto_region 1 with fail
 generalize w.alloc _=w0 at *
 cases hs:sizeD d with
 | error g =>
  have hm:=HM.out
  rw [hs] at HSZ hm
  have HM2:=Jh hm
  have hg:g≠0:=by
   unfold sizeD at hs
   repeat' split at hs
   all_goals first | (injection hs with hs;rw [<-hs];decide) | (injection hs with hs;rw [<-hs];assumption) | (cases hs)
  have b1:(g==0)=false:=by rw [beq_eq_false_iff_ne];exact hg
  clear hs hm hg HM
  go_upto_region 2 with (first | ((with_reducible show Jl 26);refine Jm 26 (HB.out) agg_Flat rfl ?_) | (go_at_call 20;refine HSZ.out.mono ?_;rintro r w1 hq;rcases hq with ⟨g',h1,-,rfl,hx1⟩ | ⟨y,a,b,c,h1,-⟩) | ((with_reducible show Js 26);refine wpList_store_new rfl 26 _ _ rfl rfl (by first | rfl | simp) rfl agg_Flat (rfl) rfl (by rfl) ?_))
  ·obtain rfl:g=g':=by injection h1
   have hx2:=Jh (hx1.alloc (.cells zero3.toArray 26))
   clear h1
   generalize w1.alloc _=w2 at *
   go_wp2_with fail
   go_ret
   exact ⟨ret_int HM2.out.symm,HX.out.trans hx2.out⟩
 | ok y =>
  have hsy:=sizeD_signals hs
  have hm:=HM.out
  rw [hs] at HSZ hm
  have HM2:=Jh hm
  have HSY:=Jh hsy
  clear hs hm hsy HM
  go_upto_region 2 with (first | ((with_reducible show Jl 26);refine Jm 26 (HB.out) agg_Flat rfl ?_) | (go_at_call 20;refine HSZ.out.mono ?_;rintro r w1 hq;rcases hq with ⟨g',h1,-⟩ | ⟨y',a,b,c,h1,rfl,hv1,hx1⟩) | ((with_reducible show Js 26);refine wpList_store_new rfl 26 _ _ rfl rfl (by first | rfl | simp) rfl agg_Flat (rfl) rfl (by (obtain ⟨s',p',c',e,q1,q2,q3⟩:=hv1;injection e with e;injection e with e;injection e with e1 e2;injection e2 with e2 e3;injection e3 with e3 e4;subst e1;subst e2;subst e3;simp [q1.one,q2.one,q3.one])) ?_))
  ·obtain rfl:y=y':=by injection h1
   have hx2:=hx1.alloc (.cells [a,b,c].toArray 26)
   have hy2:=Jh (Has.alloc w1 [a,b,c] 26)
   have hv2:=hv1.ext (ext_alloc w1 (.cells [a,b,c].toArray 26))
   have HSM:=Jh (fun W (hx:Ext _ W)=>Same_calls y d _ _ W (hv2.ext hx) (HF.out.ext ((HX.out.trans hx2).trans hx)) HSY.out)
   have HB2:=Jh (HB.out.ext hx2)
   have HX2:=Jh (HX.out.trans hx2)
   clear h1 hv1 hv2 hx2 hx1
   generalize w1.alloc _=w2 at *
   obtain ⟨p,hp⟩:∃ p,(sameProcs y.procs d.procs&&sameChecks y.checks d.checks)=p:=⟨_,rfl⟩
   have hm:=HM2.out
   try simp only at hm
   rw [hp] at HSM hm
   have HM3:=Jh hm
   clear hm hp HM2
   cases p
   ·go_wp2_with (first | ((with_reducible show Jl 26);refine Jm 26 (hy2.out) agg_Flat rfl ?_) | ((with_reducible show Jl 26);refine Jm 26 (HB2.out) agg_Flat rfl ?_) | (go_at_call 21;refine (HSM.out _ (Below.refl _ _)).mono ?_;rintro r w3 ⟨rfl,hx3⟩))
    all_goals go_ret
    all_goals exact ⟨ret_int (by rw [HM3.out];rfl),HX2.out.trans hx3⟩
   ·go_wp2_with (first | ((with_reducible show Jl 26);refine Jm 26 (hy2.out) agg_Flat rfl ?_) | ((with_reducible show Jl 26);refine Jm 26 (HB2.out) agg_Flat rfl ?_) | (go_at_call 21;refine (HSM.out _ (Below.refl _ _)).mono ?_;rintro r w3 ⟨rfl,hx3⟩))
    all_goals go_ret
    all_goals exact ⟨ret_int (by rw [HM3.out];rfl),HX2.out.trans hx3⟩
/-! ### stmt.Bits: where each signal's bits begin -/
theorem checkM_shaped {d:Flat} (h:checkM d=0):shapedM d=true:=by
 unfold checkM at h
 cases hs:sizeD d with
 | error g =>
  exfalso
  rw [hs] at h
  simp only at h
  subst h
  unfold sizeD at hs
  repeat' split at hs
  all_goals first | (cases hs;done) | (injection hs with hs;first | exact absurd hs (by decide) | (rename_i hne;exact hne hs))
 | ok y =>
  unfold sizeD at hs
  repeat' split at hs
  all_goals first | (cases hs;done) | skip
  rename_i hne _ _
  simpa using hne
theorem sigs_w1 (seen:List (List UInt8)) (l:List Signal) (h:sigsOk seen l=true):∀ x∈l,1<=x.w/\x.w<=64:=by
 induction l generalizing seen with
 | nil=>intro x hx;cases hx
 | cons y l ih =>
  rw [sigsOk,Bool.and_eq_true] at h
  intro x hx
  cases hx with
  | head =>
   have:=h.1
   unfold sigOk at this
   simp only [Bool.and_eq_true,decide_eq_true_eq] at this
   omega
  | tail _ hx=>exact ih _ h.2 x hx
theorem checkM_w {d:Flat} (h:checkM d=0):∀ x∈d.signals,1<=x.w/\x.w<=64:=by
 have h1:=checkM_shaped h
 unfold shapedM at h1
 simp only [Bool.and_eq_true] at h1
 exact sigs_w1 _ _ h1.1.1
def sumW (ls:List Signal) (k:Nat):Int:=((ls.take k).map (·.w)).sum
def offsM (ls:List Signal) (k:Nat):List Int:=(List.range (k+1)).map (sumW ls)
theorem sumW_succ (ls:List Signal) (k:Nat) (h:k<ls.length):sumW ls (k+1)=sumW ls k+ls[k].w:=by
 unfold sumW
 rw [take_snoc _ _ h,List.map_append,List.sum_append]
 simp
theorem offsM_succ (ls:List Signal) (k:Nat):offsM ls (k+1)=offsM ls k++[sumW ls (k+1)]:=by
 unfold offsM;rw [List.range_succ,List.map_append];rfl
theorem offsM_length (ls:List Signal) (k:Nat):(offsM ls k).length=k+1:=by simp [offsM]
theorem offsM_last (ls:List Signal) (k:Nat):(offsM ls k)[k]? = some (sumW ls k):=by simp [offsM]
theorem sumW_le (ls:List Signal) (h:∀ x∈ls,1<=x.w/\x.w<=64):∀ k,k<=ls.length->0<=sumW ls k/\sumW ls k<=64*k:=by
 intro k
 induction k with
 | zero=>intro _;simp [sumW]
 | succ k ih =>
  intro hk
  have h1:=ih (by omega)
  have h2:=h _ (List.getElem_mem (show k<ls.length by omega))
  rw [sumW_succ ls k (by omega)]
  omega
theorem step_appI {ops:Array Oper} {o:Oper} {a:Act} {w:World} {K:Act->World->Prop} {Q:Exit->Act->World->Prop} {E:Prop} (hw:Region.wanted o (yielded ops a.tmps)=true) (s x:Operand)
  (ho:o.op=.call { callee:=.builtin .append,args:=#[s,x],argTypes:=#[53,53] }) {N:Nat} {v:Value} {l:List Int} (hs:a.eval s=v) (hown:IntRow N v l w)
  {ad:Addr} {m c:Nat} (hx:a.eval x=.slice (some ad) m c) (hm:v=.slice none 0 0->0<m) {news:List Int} (hl:news.length=m)
  (hnews:∀ j u,(news.map (Value.int .i64))[j]? = some u->w.cell? (ad.add j)=some u) (hn:l.length+m<=1099511627776) (hbase:N<=w.heap.size)
  (h:∀ g cap w',IntRow N (.slice (some ⟨g,0,none⟩) (l.length+m) cap) (l++news) w'->w.grownBy w' v.ownBlock->K (a.put o.dst (.slice (some ⟨g,0,none⟩) (l.length+m) cap)) w') :
  if Region.wanted o (yielded ops a.tmps)=true then Oper.wp Tryz.prog o a w K Q else E:=by
 rw [if_pos hw]
 obtain ⟨g,cap,w',hr,h2,h3⟩:=run_appI (ty:=o.type) (c:=c) hown hm hl hnews hn hbase
 unfold Oper.wp execOp
 simp only [ho,resolve,invoke,builtin,Sem.run_bind,Sem.run_pure,Result.andThen_ok,List.map_toArray,List.map_cons,List.map_nil,hs,hx]
 rw [hr]
 exact h g cap w' h2 h3
theorem IntRow.one {N B:Nat} {W:World} {x:Int} (h:Blk W B #[.int .i64 x] 3) (hN:N<=B):IntRow N (.slice (some ⟨B,0,none⟩) 1 1) [x] W :=
 ⟨rfl,.inr ⟨B,1,_,rfl,hN,h,Nat.le_refl _,by decide,rfl,rfl⟩⟩
theorem IntRow.open1 {N:Nat} {v:Value} {l:List Int} {w:World} (h:IntRow N v l w) (hl:0<l.length):∃ g cap,v=.slice (some ⟨g,0,none⟩) l.length cap/\N<=g/\∀ i x,l[i]? = some x->w.cell? ⟨g,i,none⟩=some (.int .i64 x):=by
 rcases h.2 with ⟨rfl,h0⟩ | ⟨g,cap,cur,rfl,hb,hg,hnc,hcm,hcs,htake⟩
 ·omega
 ·refine ⟨g,cap,rfl,hb,fun i x hx=>?_⟩
  have:=flat_own (N:=N) (cap:=cap) (size:=1) hg htake i (.int .i64 x) (by simp [hx])
  rwa [Nat.zero_add] at this
theorem Bits_calls (d:Flat) (v:Value) (w:World) (h:FlatV w v d) (hok:d.ok) :
  Calls Tryz.prog 17 #[v] w fun r w'=>∃ u,r=.returned (.tuple #[u,.int .i64 (if checkM d=0 then 0 else 1)])/\IntRow w.heap.size u (if checkM d=0 then offsM d.signals d.signals.length else []) w'/\Ext w w':=by
 have HF:=Jh h
 obtain ⟨sv,pv,cv,rfl,hS,hP,hC⟩:=h
 have hone:[sv,pv,cv].all (·.oneCell')=true:=by simp [hS.one,hP.one,hC.one]
 have HX:=Jh (ext_alloc w (.cells [sv,pv,cv].toArray 26))
 have HB:=Jh (Blk.new w [sv,pv,cv].toArray 26)
 have HCK:=Jh (Check_calls d _ _ (HF.out.ext HX.out) hok)
 have HLN:=Jh hok.signals
 obtain ⟨a0,b0,o0,c0,rfl,hc1,hc2,ha,hr⟩:=hS.open
 have HA:=Jh ha
 have HR:=Jh hr
 clear hS hP hC ha hr
 go_enter Tryz.func17,Tryz.ntmps17
 go_upto_region 1 with fail
 have hs1:(w.alloc (.cells [.slice a0 d.signals.length c0,pv,cv].toArray 26)).heap.size=w.heap.size+1:=by simp
 generalize w.alloc _=w1 at *
 by_cases hck:checkM d=0
 ·have hww:=checkM_w hck
  rw [hck] at HCK
  have HW:=Jh hww
  have HC0:=Jh hck
  clear hww hck
  go_wp2_with (first | ((with_reducible show Jl 26);refine Jm 26 (HB.out.has) agg_Flat rfl ?_) | (go_at_call 8;refine HCK.out.mono ?_;rintro r w2 ⟨rfl,hx2⟩;obtain ⟨B2,hB2⟩:∃ y,w2.heap.size=y:=⟨_,rfl⟩;have hx3:=ext_alloc w2 (.cells [Value.int .i64 0].toArray 3);have hb3:=Blk.new w2 [Value.int .i64 0].toArray 3;have HX2:=Jh (HX.out.trans hx2);have z0:=((HB.out.ext hx2).ext hx3).has 0 _ rfl) | ((with_reducible show Jw (Op.buildSlice _ _ _));refine wpList_bs1 rfl _ _ rfl appInt rfl (cs:=[Value.int .i64 0]) rfl rfl (by decide) ?_))
  have hsz2:=HX2.out.size
  have hr3:=IntRow.one (N:=w.heap.size) hb3 (by omega)
  have hX3:=HX2.out.trans hx3
  rw [hB2] at *
  generalize w2.alloc _=w3 at *
  refine wp_loop (fun a wr=>∃ (k:Nat) (u x6 x15 x16 x17 x18 x19 x20 x21 x22 x23 x24 x25 x26 x27 x28 x29 x30 x31:Value),a=⟨#[.agg #[.slice a0 d.signals.length c0,pv,cv],.pointer (some ⟨w.heap.size,0,Option.none⟩),.slice Option.none 0 0,.int .i64 0,u,undef,x6,.agg #[.slice a0 d.signals.length c0,pv,cv],.int .i64 0,.bool false,.slice (some ⟨B2,0,Option.none⟩) 1 1,.pointer (some ⟨w.heap.size,0,Option.none⟩),.slice a0 d.signals.length c0,.int .i64 d.signals.length,.int .i64 (k:Int),x15,x16,x17,x18,x19,x20,x21,x22,x23,x24,x25,x26,x27,x28,x29,x30,x31],[]⟩ /\
   k<=d.signals.length/\IntRow w.heap.size u (offsM d.signals k) wr/\Ext w wr) (fun a _=>d.signals.length-(intOf (a.tmps.getD 14 undef)).toNat)
   ⟨0,_,_,_,_,_,_,_,_,_,_,_,_,_,_,_,_,_,_,_,rfl,Nat.zero_le _,hr3,hX3⟩ ?_
  rintro a wr ⟨k,u,x6,x15,x16,x17,x18,x19,x20,x21,x22,x23,x24,x25,x26,x27,x28,x29,x30,x31,rfl,hk,hrow,hx⟩
  have HROW:=Jh hrow
  have HXR:=Jh hx
  have hsz:=hx.size
  clear hrow hx hr3 hX3 hx3 hb3 z0
  obtain ⟨g,cap,hu,hg,hgc⟩:=HROW.out.open1 (by rw [offsM_length];omega)
  rw [offsM_length] at hu
  subst hu
  by_cases hlt:k<d.signals.length
  ·obtain rfl:=HA.out (by omega)
   have hhas:Has wr b0 (o0+k*4) d.signals[k].cells:=Sigs.get (HR.out.mono fun x _ b o h=>SigAt.ext' HXR.out h) hlt
   have hwk:=HW.out _ (List.getElem_mem hlt)
   have hsw:=sumW_succ d.signals k hlt
   have hbd:=sumW_le d.signals HW.out k hk
   have hbd2:=sumW_le d.signals HW.out (k+1) hlt
   have hgk:=hgc k _ (offsM_last d.signals k)
   have hsucc:=offsM_succ d.signals k
   have hln:=offsM_length d.signals k
   have hdl:=HLN.out
   generalize d.signals[k]=x at *
   generalize sumW d.signals k=s0 at *
   generalize sumW d.signals (k+1)=s1 at *
   generalize offsM d.signals k=l0 at *
   have HSUCC:=Jh hsucc
   have HLN0:=Jh hln
   have HSW:=Jh hsw
   have HGK:=Jh hgk
   clear hsucc hgc hln hgk
   have hx4:=ext_alloc wr (.cells x.cells.toArray 50)
   have hb4:=Blk.new wr x.cells.toArray 50
   have hr4:=HROW.out.ext hx4
   have hs4:(wr.alloc (.cells x.cells.toArray 50)).heap.size=wr.heap.size+1:=by simp
   have hgk4:(wr.alloc (.cells x.cells.toArray 50)).cell? ⟨g,k,none⟩=some (.int .i64 s0):=by
    have:=Has.ext (cs:=[.int .i64 s0]) (b:=g) (o:=k) (w:=wr) (fun j u hj=>by
     cases j with
     | zero=>simp at hj;subst hj;exact HGK.out
     | succ j=>simp at hj) hx4
    exact this 0 _ rfl
   clear hsw
   go_upto_region 7 with (first | ((with_reducible show Jl 50);refine Jm 50 (hhas) agg_Signal rfl ?_) | ((with_reducible show Js 50);refine wpList_store_new rfl 50 _ _ rfl rfl (by first | rfl | simp) rfl agg_Signal (rfl) rfl (by rfl) ?_))
   generalize wr.alloc _=w4 at *
   refine wp_region_held_drew (S:=fun W3=>Blk W3 wr.heap.size x.cells.toArray 50) (by kernel_rfl) hb4.drew (fun hH=>?_)
   try simp only [J]
   (refine Jt 0 (_) rfl (yif_load1 rfl fun _ _=>rfl) hH ?_;try simp only [J])
   (refine Jt 1 (_) rfl (yif_load1 rfl fun _ _=>rfl) hH ?_;try simp only [J])
   (refine Jt 2 (_) rfl (yif_load1 rfl fun _ _=>rfl) hH ?_;try simp only [J])
   (refine Jt 3 (.int .i64 ((k+1:Nat):Int)) rfl (yif_load1 rfl (by intro W3 hW;clear hW;go_simp)) hH ?_;try simp only [J])
   (refine Jt 4 (.int .i64 (k:Int)) rfl (yif_load1 rfl (by intro W3 hW;clear hW;go_simp;rw [IntKind.wrap_i64];omega)) hH ?_;try simp only [J])
   (refine Jt 5 (.pointer (some ⟨g,k,Option.none⟩)) rfl (yif_load1 rfl (by intro W3 hW;clear hW;go_simp;intro h;omega)) hH ?_;try simp only [J])
   (refine Jt 7 (_) rfl (yif_load1 rfl fun _ _=>rfl) hH ?_;try simp only [J])
   (refine Jt 8 (.int .i64 x.w) rfl (yif_load1 rfl (by intro W3 hW;have hw:=hW.has 1 _ rfl;clear hW;go_simp)) hH ?_;try simp only [J])
   refine Jr 6 rfl fun K hK=>?_
   have hgk5:w4.drew.cell? ⟨g,k,none⟩=some (.int .i64 s0):=hgk4
   go_simp
   refine hK.out _ _ hH (fun hH=>?_)
   clear hK K hgk5
   try simp only [J]
   (refine Jt 9 (.int .i64 s1) rfl (yif_load1 rfl (by intro W3 hW;clear hW;go_simp;have e:=HSW.out;rw [IntKind.wrap_i64];omega)) hH ?_;try simp only [J])
   refine Jr 10 rfl fun K hK=>?_
   refine step_bs1 rfl _ _ rfl appInt rfl (cs:=[.int .i64 s1]) rfl rfl (by decide) ?_
   have hx5:=ext_alloc w4.drew (.cells [Value.int .i64 s1].toArray 3)
   have hb5:=Blk.new w4.drew [Value.int .i64 s1].toArray 3
   have hr5:IntRow w.heap.size _ l0 _:=((hr4.ext (Below.drew (Below.refl _ _))).ext hx5)
   have hs5:(w4.drew.alloc (.cells [Value.int .i64 s1].toArray 3)).heap.size=w4.heap.size+1:=by simp [World.heap_drew]
   have hX5:Ext w _:=((HXR.out.trans hx4).drew).trans hx5
   refine hK.out _ _ (hH.ext hx5) (fun hH=>?_)
   clear hK K
   try simp only [J]
   generalize w4.drew.alloc _=w5 at *
   refine Jr 11 rfl fun K hK=>?_
   refine step_appI (m:=1) (news:=[s1]) rfl _ _ rfl rfl hr5 rfl (fun _=>Nat.lt_of_lt_of_le Nat.zero_lt_one (Nat.le_refl 1)) rfl (news_has hb5.has) (by rw [HLN0.out];omega) (by omega) ?_
   intro g7 cap7 w7 hrow7 hg7
   rw [<-HSUCC.out] at hrow7
   rw [HLN0.out] at hrow7 ⊢
   have hX7:Ext w w7:=Ext.grownO hX5 hg7 (fun j hj=>(hr5.at hj).1)
   have hb7:Blk w7 wr.heap.size x.cells.toArray 50:=(hg7.block _ hH.lt (fun e=>hr5.ne hH rfl e.symm rfl)).trans hH
   refine hK.out _ _ hb7 (fun hH=>?_)
   clear hK K
   try simp only [J]
   (refine Jt 12 (_) rfl (yif_load1 rfl fun _ _=>rfl) hH ?_;try simp only [J])
   refine Jz ?_
   clear hgk4 hb5 hr5 hx5 hs5 hX5 hg7
   have HR7:=Jh hrow7
   clear hrow7
   go_wp2_with fail
   exact ⟨⟨k+1,_,⟨rfl,by omega⟩,by omega,HR7.out⟩,by simp [intOf];omega⟩
  ·obtain rfl:k=d.signals.length:=by omega
   go_wp2_with fail
   refine bodyPost_ret (v:=.tuple #[.slice (some ⟨g,0,Option.none⟩) (d.signals.length+1) cap,.int .i64 0]) (by simp [results,Tryz.results17,go_sem]) rfl ⟨.slice (some ⟨g,0,Option.none⟩) (d.signals.length+1) cap,by first | rfl | rw [if_pos HC0.out],by first | exact HROW.out | (rw [if_pos HC0.out];exact HROW.out),HXR.out⟩
 ·have hbq:(checkM d==0)=false:=by rw [beq_eq_false_iff_ne];exact hck
  have HC0:=Jh hck
  clear hck
  go_wp2_with (first | ((with_reducible show Jl 26);refine Jm 26 (HB.out.has) agg_Flat rfl ?_) | (go_at_call 8;refine HCK.out.mono ?_;rintro r w2 ⟨rfl,hx2⟩))
  refine bodyPost_ret (v:=.tuple #[.slice Option.none 0 0,.int .i64 1]) (by simp [results,Tryz.results17,go_sem]) rfl ⟨.slice Option.none 0 0,by first | rfl | rw [if_neg HC0.out],by first | exact IntRow.nil _ _ | (rw [if_neg HC0.out];exact IntRow.nil _ _),HX.out.trans hx2⟩
/-! ### plain: the numbers of bits rise, each once -/
theorem compactUpTo_mem (d:Array Int):∀ m x,x∈Lib.compactUpTo d m↔∃ j,j<m/\d[j]! = x:=by
 intro m
 induction m with
 | zero=>intro x;simp [Lib.compactUpTo]
 | succ m ih =>
  intro x
  rw [Lib.compactUpTo_succ,List.mem_append,ih]
  constructor
  ·rintro (⟨j,hj,rfl⟩ | h)
   ·exact ⟨j,by omega,rfl⟩
   ·split at h
    ·simp at h;exact ⟨m,by omega,h.symm⟩
    ·cases h
  ·rintro ⟨j,hj,rfl⟩
   by_cases hjm:j<m
   ·exact .inl ⟨j,hjm,rfl⟩
   ·have:j=m:=by omega
    subst this
    by_cases hk:Lib.keeps d j=true
    ·exact .inr (by rw [if_pos hk];simp)
    ·simp only [Lib.keeps,decide_eq_true_eq,not_or,Decidable.not_not] at hk
     exact .inl ⟨j-1,by omega,hk.2.symm⟩
theorem compactUpTo_lt (d:Array Int) (hs:∀ i j,i<=j->j<d.size->d[i]!<=d[j]!):∀ m,m<=d.size->(Lib.compactUpTo d m).Pairwise (·<·)/\∀ x∈Lib.compactUpTo d m,∀ j,m<=j+1->j<d.size->x<=d[j]!:=by
 intro m
 induction m with
 | zero=>intro _;simp [Lib.compactUpTo]
 | succ m ih =>
  intro hm
  obtain ⟨h1,h2⟩:=ih (by omega)
  constructor
  ·rw [Lib.compactUpTo_succ,List.pairwise_append]
   refine ⟨h1,?_,?_⟩
   ·split<;>simp
   ·intro x hx y hy
    split at hy
    ·rename_i hk
     simp at hy
     subst hy
     simp only [Lib.keeps,decide_eq_true_eq] at hk
     rcases hk with hk | hk
     ·subst hk;simp [Lib.compactUpTo] at hx
     ·by_cases h0:m=0
      ·subst h0;simp [Lib.compactUpTo] at hx
      ·have q1:=h2 x hx (m-1) (by omega) (by omega)
       have q2:=hs (m-1) m (by omega) (by omega)
       omega
    ·cases hy
  ·intro x hx j hj hjs
   obtain ⟨i,hi,rfl⟩:=(compactUpTo_mem d _ x).1 hx
   exact hs i j (by omega) hjs
theorem sortI_mem (l:List Int) (x:Int):x∈sortI l↔x∈l:=by unfold sortI;exact List.mem_mergeSort
theorem sortI_sorted (l:List Int):(sortI l).Pairwise (·<=·):=by
 have:=List.pairwise_mergeSort (le:=fun x y:Int=>decide (x<=y)) (fun a b c h1 h2=>by simp at *;omega) (fun a b=>by simp;omega) l
 unfold sortI
 exact this.imp fun h=>by simpa using h
def setI (l:List Int):List Int:=Lib.compact (sortI l)
theorem setI_mem (l:List Int) (x:Int):x∈setI l↔x∈l:=by
 rw [<-sortI_mem l x]
 unfold setI Lib.compact
 rw [compactUpTo_mem]
 constructor
 ·rintro ⟨j,hj,rfl⟩
  have:j<(sortI l).toArray.size:=by simpa using hj
  rw [getElem!_pos (sortI l).toArray j this]
  simp
 ·intro h
  obtain ⟨j,hj,rfl⟩:=List.getElem_of_mem h
  refine ⟨j,hj,?_⟩
  have:j<(sortI l).toArray.size:=by simpa using hj
  rw [getElem!_pos (sortI l).toArray j this]
  simp
theorem setI_lt (l:List Int):(setI l).Pairwise (·<·):=by
 unfold setI Lib.compact
 refine (compactUpTo_lt (sortI l).toArray (fun i j hij hj=>?_) (sortI l).length (by simp)).1
 have hi:i<(sortI l).toArray.size:=by omega
 rw [getElem!_pos (sortI l).toArray j hj,getElem!_pos (sortI l).toArray i hi]
 simp only [Jd]
 by_cases e:i=j
 ·subst e;exact Int.le_refl _
 ·exact List.pairwise_iff_getElem.1 (sortI_sorted l) i j (by simpa using hi) (by simpa using hj) (by omega)
theorem lt_ext (l r:List Int) (hl:l.Pairwise (·<·)) (hr:r.Pairwise (·<·)) (h:∀ x,x∈l↔x∈r):l=r:=by
 induction l generalizing r with
 | nil=>cases r with
  | nil=>rfl
  | cons y r=>exact absurd ((h y).2 (by simp)) (by simp)
 | cons x l ih =>
  cases r with
  | nil=>exact absurd ((h x).1 (by simp)) (by simp)
  | cons y r =>
   obtain ⟨a1,a2⟩:=List.pairwise_cons.1 hl
   obtain ⟨b1,b2⟩:=List.pairwise_cons.1 hr
   have hxy:x=y:=by
    have h1:x∈y::r:=(h x).1 (by simp)
    have h2:y∈x::l:=(h y).2 (by simp)
    cases h1 with
    | head=>rfl
    | tail _ h1 =>
     cases h2 with
     | head=>rfl
     | tail _ h2=>have:=b1 x h1;have:=a1 y h2;omega
   subst hxy
   rw [ih r a2 b2 fun z=>?_]
   constructor
   ·intro hz
    have h1:z∈x::r:=(h z).1 (by simp [hz])
    cases h1 with
    | head=>exact absurd (a1 _ hz) (by omega)
    | tail _ h1=>exact h1
   ·intro hz
    have h1:z∈x::l:=(h z).2 (by simp [hz])
    cases h1 with
    | head=>exact absurd (b1 _ hz) (by omega)
    | tail _ h1=>exact h1
theorem setI_eq (l r:List Int) (hr:r.Pairwise (·<·)) (h:∀ x,x∈l↔x∈r):setI l=r :=
 lt_ext _ _ (setI_lt l) hr fun x=>by rw [setI_mem,h]
theorem numbersM_set (offs:List Int) (xs:List Span):numbersM offs xs=setI (allNums offs xs):=rfl
theorem mem_numsOf (offs:List Int) (s:Span) (x:Int):x∈numsOf offs s↔∃ j:Int,s.lo<=j/\j<=s.hi/\x=offs.getD s.sig.toNat 0+j:=by
 unfold numsOf
 rw [List.mem_map]
 constructor
 ·rintro ⟨j,hj,rfl⟩
  rw [List.mem_range] at hj
  exact ⟨s.lo+j,by omega,by omega,rfl⟩
 ·rintro ⟨j,h1,h2,rfl⟩
  exact ⟨(j-s.lo).toNat,by rw [List.mem_range];omega,by congr 1;omega⟩
theorem mem_numbersM (offs:List Int) (xs:List Span) (x:Int):x∈numbersM offs xs↔∃ s∈xs,∃ j:Int,s.lo<=j/\j<=s.hi/\x=offs.getD s.sig.toNat 0+j:=by
 rw [numbersM_set,setI_mem]
 unfold allNums
 simp only [List.mem_flatten,List.mem_map]
 constructor
 ·rintro ⟨l,⟨s,hs,rfl⟩,hx⟩
  exact ⟨s,hs,(mem_numsOf _ _ _).1 hx⟩
 ·rintro ⟨s,hs,h⟩
  exact ⟨_,⟨s,hs,rfl⟩,(mem_numsOf _ _ _).2 h⟩
/-! ### plain: of lists without doubles one stands in another -/
/-! ### plain: where each signal's bits begin -/
theorem offsM_getD (ls:List Signal) (k n:Nat) (h:k<=n):(offsM ls n).getD k 0=sumW ls k:=by
 unfold offsM
 rw [List.getD_eq_getElem?_getD,List.getElem?_map,List.getElem?_range (by omega)]
 rfl
theorem sumW_mono (ls:List Signal) (hw:∀ x∈ls,1<=x.w/\x.w<=64) (i:Nat):∀ j,i<=j->j<=ls.length->sumW ls i<=sumW ls j:=by
 intro j
 induction j with
 | zero =>
  intro h _
  obtain rfl:i=0:=by omega
  exact Int.le_refl _
 | succ j ih =>
  intro h1 h2
  by_cases e:i=j+1
  ·subst e;exact Int.le_refl _
  ·have:=ih (by omega) (by omega)
   have:=hw _ (List.getElem_mem (show j<ls.length by omega))
   rw [sumW_succ ls j (by omega)]
   omega
theorem sumW_uniq (ls:List Signal) (hw:∀ x∈ls,1<=x.w/\x.w<=64) {i k:Nat} (hi:i<ls.length) (hk:k<ls.length) {b:Int} (h1:sumW ls i<=b) (h2:b<sumW ls (i+1)) (h3:sumW ls k<=b) (h4:b<sumW ls (k+1)):i=k:=by
 by_cases e:i=k
 ·exact e
 ·exfalso
  by_cases hlt:i<k
  ·have:=sumW_mono ls hw (i+1) k (by omega) (by omega);omega
  ·have:=sumW_mono ls hw (k+1) i (by omega) (by omega);omega
/-! ### append of numbers, of whatever slice -/
theorem run_appS {w:World} {N:Nat} {v:Value} {l:List Int} (hown:IntRow N v l w) {ty:TypeId} {x:Value} {news:List Int} (hx:Ints w x news) (hn:l.length+news.length<=1099511627776) (hbase:N<=w.heap.size) :
  ∃ v' w',(Builtin.append_ #[53,53] ty #[v,x]).run Tryz.prog w=.ok v' w'/\IntRow N v' (l++news) w'/\w.grownBy w' v.ownBlock:=by
 obtain ⟨a,b,o,cap,rfl,hc1,hc2,ha,hr⟩:=hx.open
 by_cases h0:0<news.length
 ·obtain rfl:=ha h0
  obtain ⟨g,cap',w',h1,h2,h3⟩:=run_appI (ty:=ty) (c:=cap) (m:=news.length) hown (fun _=>h0) rfl (ad:=⟨b,o,none⟩) (news:=news) (fun j u hj=>by
   rw [List.getElem?_map] at hj
   cases hq:news[j]? with
   | none=>rw [hq] at hj;cases hj
   | some y =>
    rw [hq] at hj
    have hadd:(⟨b,o,none⟩:Addr).add j=⟨b,o+j,none⟩:=by unfold Addr.add;split<;>simp_all
    rw [hadd]
    have:=(hr.get hq) 0 _ rfl
    simp only [Nat.mul_one,Nat.add_zero] at this
    rw [this]
    exact hj) hn hbase
  exact ⟨_,w',h1,h2,h3⟩
 ·obtain rfl:news=[]:=List.eq_nil_of_length_eq_zero (by omega)
  obtain ⟨ht,hinfo,hsz,hby⟩:=appInt
  cases hi:Tryz.prog.info? 3 with
  | none=>simp [hi] at hinfo
  | some i =>
   have hsrc:Src Tryz.prog i.size 53 (.slice a 0 cap) 0 [] w:=by
    cases a with
    | none=>exact Src.ofNil w ht cap
    | some a=>exact Src.ofSlice w ht a 0 cap [] (by simp) (by intro j u hj;simp at hj) (by simp)
   obtain ⟨av,cv,hv,-⟩:=hown.open
   have hle:l.length<=cv:=by
    rcases hown.2 with ⟨e,h0⟩ | ⟨g,c2,cur,e,hb,hg,hnc,-⟩
    ·rw [hv] at e;injection e with _ e2 e3;omega
    ·rw [hv] at e;injection e with _ e2 e3;omega
   refine ⟨v,w,?_,by rw [List.append_nil];exact hown,⟨rfl,rfl,rfl,Nat.le_refl _,fun _ _ _=>rfl⟩⟩
   rw [hv]
   exact run_append_nothing w 53 53 ty 3 i ht hi av l.length cv hle _ hsrc
theorem wpList_appS {ops:Array Oper} {rest:List Oper} {o:Oper} {a:Act} {w:World} {Q:Exit->Act->World->Prop} (hw:Region.wanted o (yielded ops a.tmps)=true) (s x:Operand)
  (ho:o.op=.call { callee:=.builtin .append,args:=#[s,x],argTypes:=#[53,53] }) {N:Nat} {v:Value} {l:List Int} (hs:a.eval s=v) (hown:IntRow N v l w)
  {xv:Value} (hx:a.eval x=xv) {news:List Int} (hnews:Ints w xv news) (hn:l.length+news.length<=1099511627776) (hbase:N<=w.heap.size)
  (h:∀ v' w',IntRow N v' (l++news) w'->w.grownBy w' v.ownBlock->wpList Tryz.prog ops Q rest (a.put o.dst v') w') :
  wpList Tryz.prog ops Q (o::rest) a w :=
 BigFrame.wpList_want hw fun _ hK=>by
  obtain ⟨v',w',hr,h2,h3⟩:=run_appS (ty:=o.type) hown hnews hn hbase
  unfold Oper.wp execOp
  simp only [ho,resolve,invoke,builtin,Sem.run_bind,Sem.run_pure,Result.andThen_ok,List.map_toArray,List.map_cons,List.map_nil,hs,hx]
  rw [hr]
  exact hK _ _ (h v' w' h2 h3)
theorem appInts:AppT Tryz.prog 125 53 1 24:=⟨Tryz.underlying125,by kernel_rfl,by decide,by decide⟩
/-! ### always: what statements write on each way -/
def altT (offs:List Int):T->List Int × List Int
 | ⟨op,sig,hi,lo,_,l⟩ =>
  let r:=setI (fsts l)
  (if op=1 then numbersM offs [⟨sig,hi,lo⟩] else if op=2\/op=3 then metM (snds l) else r,r)
where
 fsts:List T->List Int
  | []=>[]
  | t::l=>(altT offs t).1++fsts l
 snds:List T->List (List Int)
  | []=>[]
  | t::l=>(altT offs t).2::snds l
theorem altT.fsts_eq (offs:List Int) (l:List T):altT.fsts offs l=(l.map fun t=>(altT offs t).1).flatten:=by
 induction l with
 | nil=>rfl
 | cons x l ih=>simp [altT.fsts,ih]
theorem altT.snds_eq (offs:List Int) (l:List T):altT.snds offs l=l.map fun t=>(altT offs t).2:=by
 induction l with
 | nil=>rfl
 | cons x l ih=>simp [altT.snds,ih]
def alt (offs:List Int) (t:T):List Int:=(altT offs t).1
def alwP (offs:List Int) (l:List T):List Int:=(l.map (alt offs)).flatten
def alwM (offs:List Int) (l:List T):List Int:=setI (alwP offs l)
theorem altT_snd (offs:List Int) (t:T):(altT offs t).2=alwM offs t.l:=by
 cases t;simp only [altT,altT.fsts_eq];rfl
theorem alt_eq (offs:List Int) (t:T):alt offs t=if t.op=1 then numbersM offs [ownS t] else if t.op=2\/t.op=3 then metM (t.l.map fun x=>alwM offs x.l) else alwM offs t.l:=by
 have h:=altT_snd offs
 cases t with
 | mk op sig hi lo e l =>
  unfold alt
  simp only [altT,altT.fsts_eq,altT.snds_eq,ownS]
  simp only [h]
  rfl
theorem alwP_take (offs:List Int) (l:List T) (k:Nat) (h:k<l.length):alwP offs (l.take (k+1))=alwP offs (l.take k)++alt offs l[k]:=by
 unfold alwP
 rw [take_snoc _ _ h,List.map_append,List.flatten_append]
 simp only [List.map_cons,List.map_nil,List.flatten_cons,List.flatten_nil,List.append_nil]
theorem setI_length (l:List Int):(setI l).length<=l.length:=by
 have h1:=Lib.compact_length_le (sortI l)
 have h2:(sortI l).length=l.length:=List.length_mergeSort _
 unfold setI;omega
def AlwOk (offs:List Int):T->Prop
 | ⟨op,sig,hi,lo,_,l⟩=>(op=1->NumOk offs ⟨sig,hi,lo⟩)/\(op=2\/op=3->0<l.length)/\oks l
where oks:List T->Prop
 | []=>True
 | t::l=>AlwOk offs t/\oks l
theorem AlwOk.oks_iff (offs:List Int) (l:List T):AlwOk.oks offs l↔∀ t∈l,AlwOk offs t:=by
 induction l with
 | nil=>simp [AlwOk.oks]
 | cons e l ih=>simp [AlwOk.oks,ih]
theorem AlwOk_iff (offs:List Int) (t:T):AlwOk offs t↔(t.op=1->NumOk offs (ownS t))/\(t.op=2\/t.op=3->0<t.l.length)/\∀ x∈t.l,AlwOk offs x:=by
 cases t;simp [AlwOk,AlwOk.oks_iff,ownS]
theorem alw_length (offs:List Int) (t:T) (h:AlwOk offs t):(alt offs t).length<=64*nodesT t/\(alwM offs t.l).length<=64*sumBy nodesT t.l:=by
 induction t using T.ind with
 | h t ih =>
  obtain ⟨h1,h2,h3⟩:=(AlwOk_iff _ _).1 h
  have key:∀ l:List T,(∀ x∈l,x∈t.l)->(alwP offs l).length<=64*sumBy nodesT l:=by
   intro l
   induction l with
   | nil=>intro _;simp [alwP]
   | cons y l ih2 =>
    intro hm
    have q1:=(ih y (hm y (by simp)) (h3 y (hm y (by simp)))).1
    have q2:=ih2 fun z hz=>hm z (by simp [hz])
    simp only [alwP,List.map_cons,List.flatten_cons,List.length_append,sumBy] at q2 ⊢
    omega
  have hk:=key t.l fun _ h=>h
  have hm:(alwM offs t.l).length<=64*sumBy nodesT t.l:=Nat.le_trans (setI_length _) hk
  refine ⟨?_,hm⟩
  rw [alt_eq]
  have hn:=nodesT_eq t
  by_cases e1:t.op=1
  ·rw [if_pos e1]
   have:(numbersM offs [ownS t]).length<=64:=by
    refine Nat.le_trans (setI_length _) (Nat.le_trans (allNums_length offs [ownS t] ?_) (by simp))
    intro s hs
    simp at hs
    subst hs
    exact h1 e1
   omega
  ·rw [if_neg e1]
   by_cases e2:t.op=2\/t.op=3
   ·rw [if_pos e2]
    have h0:=h2 e2
    cases hl:t.l with
    | nil=>rw [hl] at h0;simp at h0
    | cons y l =>
     have hy:y∈t.l:=by rw [hl];simp
     have q1:=(ih y hy (h3 y hy)).2
     have q2:=nodesT_eq y
     have q3:=le_sumBy nodesT t.l y hy
     have q4:(metM (List.map (fun x=>alwM offs x.l) (y::l))).length<=(alwM offs y.l).length:=by
      unfold metM
      exact List.length_filter_le _ _
     omega
   ·rw [if_neg e2]
    omega
end Go.Proofs.YtpngepnfinbaoaaGreat
