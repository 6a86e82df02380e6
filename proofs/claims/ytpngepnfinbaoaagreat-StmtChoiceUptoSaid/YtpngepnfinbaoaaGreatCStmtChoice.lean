/- The law StmtChoice walked: of two processes in a choice the one is done that is told. (Printed by gen/choice.py.) -/
import Derived.Test.YtpngepnfinbaoaaGreatC23
import Derived.Test.YtpngepnfinbaoaaGreatC24
import Derived.Test.YtpngepnfinbaoaaGreatC21
import Derived.Test.YtpngepnfinbaoaaGreatC19
import Derived.Test.YtpngepnfinbaoaaGreatC16
import Derived.Test.YtpngepnfinbaoaaGreatC00
set_option maxRecDepth 100000
set_option maxHeartbeats 8000000
set_option linter.all false
namespace Go.Proofs.YtpngepnfinbaoaaGreat
open Go.RowKit
def tChoice (e:E) (a b:List T):T:=⟨2,0,0,0,[e],[⟨5,0,0,0,[],a⟩,⟨5,0,0,0,[],b⟩]⟩
def xChoice (d:Flat) (ck:Bool) (e:E) (a b:List T):Flat:=⟨d.signals,[⟨ck,[tChoice e a b]⟩],[]⟩
theorem Blk.neT {w:World} {B B':Nat} {cs cs':Array Value} {T T':TypeId} (h:Blk w B cs T) (h':Blk w B' cs' T') (hT:(T==T')=false):B≠B':=by
 rintro rfl
 unfold Blk at h h'
 rw [h] at h'
 injection h' with h'
 injection h' with _ h'
 subst h'
 simp at hT
abbrev blkL (a:Option Addr) (n c:Nat):List Value:=[.int .i64 5,.int .i64 0,.int .i64 0,.int .i64 0,.slice none 0 0,.slice a n c]
abbrev tifL (B3 B18:Nat):List Value:=[.int .i64 2,.int .i64 0,.int .i64 0,.int .i64 0,.slice (some ⟨B3,0,none⟩) 1 1,.slice (some ⟨B18,0,none⟩) 2 2]
theorem choice_Ts {W:World} {B3 B18 B20:Nat} {e:E} {s0:Value} {la ma:Option Addr} {lc mc:Nat} {a b:List T} (h3:Blk W B3 (e.cells s0).toArray 31) (h18:Blk W B18 (blkL la a.length lc++blkL ma b.length mc).toArray 39) (h20:Blk W B20 (tifL B3 B18).toArray 39)
  (he:Es W s0 e.l) (ha:Ts W (.slice la a.length lc) a) (hb:Ts W (.slice ma b.length mc) b):Ts W (.slice (some ⟨B20,0,none⟩) 1 1) [tChoice e a b]:=by
 have hd:∀ B n,Hd (.slice (some ⟨B,0,none⟩) n n) n B 0\/True:=fun _ _=>.inr trivial
 refine ⟨B20,0,⟨_,1,rfl,Nat.le_refl _,by decide,fun _=>rfl⟩,TAt_iff.2 ⟨_,_,h20.has,?_,?_⟩,trivial⟩
 ·exact ⟨B3,0,⟨_,1,rfl,Nat.le_refl _,by decide,fun _=>rfl⟩,EAt_iff.2 ⟨s0,h3.has,he⟩,trivial⟩
 ·refine ⟨B18,0,⟨_,2,rfl,Nat.le_refl _,by decide,fun _=>rfl⟩,TAt_iff.2 ⟨.slice none 0 0,.slice la a.length lc,fun j u hj=>?_,Sl.nil _ _,ha⟩,TAt_iff.2 ⟨.slice none 0 0,.slice ma b.length mc,fun j u hj=>?_,Sl.nil _ _,hb⟩,trivial⟩
  ·have hj6:j<6:=by have:=(List.getElem?_eq_some_iff.1 hj).1;simpa [T.cells] using this
   have:=h18.has j u (by rw [List.getElem?_append_left (by simp;exact hj6)];exact hj)
   exact this
  ·have hj6:j<6:=by have:=(List.getElem?_eq_some_iff.1 hj).1;simpa [T.cells] using this
   have:=h18.has (6+j) u (by rw [List.getElem?_append_right (by simp)];simpa using hj)
   rw [Nat.zero_add] at this
   rw [Nat.zero_add]
   exact this
theorem clkD_n {d:Flat} {k:Nat} (h:k<d.procs.length):clkD d (k:Int)=d.procs[k].clocked:=by
 unfold clkD;rw [Int.toNat_natCast,List.getElem?_eq_getElem h];rfl
theorem procL_n {d:Flat} {k:Nat} (h:k<d.procs.length):procL d (k:Int)=d.procs[k].l:=by
 unfold procL;rw [Int.toNat_natCast,List.getElem?_eq_getElem h]
theorem xChoice_ok {d:Flat} (hok:d.ok) (hsm:mNodes d<=2000) {P Q:Proc} (hp:P∈d.procs) (hq:Q∈d.procs) {e:E} (hwf:e.wf) (hn:2*nodes e<=1048576) (ck:Bool):(xChoice d ck e P.l Q.l).ok:=by
 have c0:i64r 0:=by unfold i64r;decide
 have c2:i64r 2:=by unfold i64r;decide
 have c5:i64r 5:=by unfold i64r;decide
 have wb:∀ R∈d.procs,T.wf ⟨5,0,0,0,[],R.l⟩:=fun R hR=>(T.wf_iff _).2 ⟨c5,c0,c0,c0,fun _ h=>(by cases h),fun t ht=>hok.wf.procs R hR t ht⟩
 refine ok_sub hok ck [tChoice e P.l Q.l] (fun t ht=>?_) ?_
 ·rw [List.mem_singleton.1 ht,T.wf_iff]
  refine ⟨c2,c0,c0,c0,fun x hx=>?_,fun x hx=>?_⟩
  ·rw [List.mem_singleton.1 hx];exact hwf
  ·rcases List.mem_cons.1 hx with rfl | hx
   ·exact wb P hp
   ·rw [List.mem_singleton.1 hx];exact wb Q hq
 ·have h1:sumBy nodesT P.l<=sumBy (fun p=>sumBy nodesT p.l) d.procs:=le_sumBy (fun p=>sumBy nodesT p.l) d.procs P hp
  have h2:sumBy nodesT Q.l<=sumBy (fun p=>sumBy nodesT p.l) d.procs:=le_sumBy (fun p=>sumBy nodesT p.l) d.procs Q hq
  unfold mNodes at hsm
  have e1:sumBy nodesT [tChoice e P.l Q.l]=nodesT (tChoice e P.l Q.l):=by simp [sumBy]
  have e2:∀ l:List T,nodesT ⟨5,0,0,0,[],l⟩=1+sumBy nodesT l:=fun l=>by rw [nodesT_eq];simp [sumBy]
  have e3:nodesT (tChoice e P.l Q.l)=1+((1+sumBy nodesT P.l)+(1+sumBy nodesT Q.l))+nodes e:=by
   rw [nodesT_eq,<-e2 P.l,<-e2 Q.l];simp [tChoice,sumBy]
  rw [e1,e3]
  omega
theorem choice_run {d:Flat} {pn qn:Nat} (hpn:pn<d.procs.length) (hqn:qn<d.procs.length) {ck:Bool} {e:E} {lp lq:List T} (hlp:procL d (pn:Int)=lp) (hlq:procL d (qn:Int)=lq) (hxok:(xChoice d ck e lp lq).ok) (hc:checkM d=0) (hx:checkM (xChoice d ck e lp lq)=0)
  (hkp:clkD d (pn:Int)=ck) (hkq:clkD d (qn:Int)=ck) (vs:List Nat):(runM (xChoice d ck e lp lq) vs 0=([],1)/\runM d vs (pn:Int)=([],1)/\runM d vs (qn:Int)=([],1)) \/
  (∃ A B,runM d vs (pn:Int)=(A,0)/\runM d vs (qn:Int)=(B,0)/\((evalM d vs e=(0,0)/\runM (xChoice d ck e lp lq) vs 0=(B,0))\/(evalM d vs e=(1,0)/\runM (xChoice d ck e lp lq) vs 0=(A,0)))):=by
 by_cases hv:valsOk d vs=true
 ·have v2:=valsOk_val2 hv
  refine .inr ⟨_,_,runM_of hc v2 (by omega) (by omega),runM_of hc v2 (by omega) (by omega),?_⟩
  have ho:=(RunOk_iff _ _ _).1 (runOk_check hxok hx ⟨ck,[tChoice e lp lq]⟩ (by simp [xChoice]) (tChoice e lp lq) (by simp))
  obtain ⟨h1,h2,h3,h4⟩:=ho.1 e (by simp [tChoice])
  have hw:e.w=1:=by
   rcases ho.2.1 with h | h | h | h | h
   ·exact absurd h.1 (by simp [tChoice])
   ·obtain ⟨-,⟨x,hx1,hx2⟩,-⟩:=h
    have:e=x:=by simpa [tChoice] using hx1
    rw [this];exact hx2
   ·exact absurd h.1 (by simp [tChoice])
   ·exact absurd h (by simp [tChoice])
   ·exact absurd h (by simp [tChoice])
  have hr:=run_chosen (ls:=d.signals) (ck:=ck) (t:=tChoice e lp lq) (a:=⟨5,0,0,0,[],lp⟩) (b:=⟨5,0,0,0,[],lq⟩) (e:=e) rfl rfl rfl hx v2
  have hlt:=ev_lt (fun x hx=>(checkM_w hc x hx).2) (vs:=vs) e h1 h2
  rw [hw] at hlt
  rw [evalM_of hc v2 h1 h3 h4]
  unfold runL
  rw [hkp,hkq,hlp,hlq]
  by_cases h0:evM vs e=0
  ·rw [if_pos h0] at hr
   exact .inl ⟨by rw [h0],hr⟩
  ·rw [if_neg h0] at hr
   have h1':evM vs e=1:=by
    have:(2:Nat)^(1:Int).toNat=2:=rfl
    omega
   exact .inr ⟨by rw [h1'],hr⟩
 ·refine .inl ⟨?_,?_,?_⟩
  ·rw [runM_eq,if_neg]
   rintro ⟨h,-⟩
   have h2:=valsOk_val2 h
   exact hv (valsOk_of hc h2)
  ·rw [runM_eq,if_neg (fun h=>hv h.1)]
  ·rw [runM_eq,if_neg (fun h=>hv h.1)]
theorem StmtChoice_calls (d:Flat) (v:Value) (vs:List Nat) (s:Value) (p q:Int) (e:E) (ev:Value) (w:World) (hF:FlatV w v d) (hok:d.ok) (hs:Us w s vs) (h64s:us64 vs) (hls:vs.length+1<=1048576) (hp:i64r p) (hq:i64r q)
  (hE:∃ s0,ev=.agg (e.cells s0).toArray/\Es w s0 e.l) (hwf:e.wf) (hn:2*nodes e<=1048576) :
  Calls Tryz.prog 3 #[v,s,.int .i64 p,.int .i64 q,ev] w fun r w'=>r=.returned (.bool true)/\Ext w w':=by
 have HF:=Jh (fun W (h:Ext w W)=>hF.ext h)
 have HFW:=Jh (fun W (h:Ext w W)=>Few_calls d v W (hF.ext h) hok.nodes hok.signals hok.procs)
 have HOK:=Jh hok
 have hlpr:=hok.procs
 have HUS:=Jh (fun W (h:Ext w W)=>hs.ext h)
 have H64:=Jh h64s
 obtain ⟨s0,rfl,hes⟩:=hE
 have HES:=Jh (fun W (h:Ext w W)=>hes.ext h)
 have hone:=hes.one
 have HWE:=Jh hwf
 have HNE:=Jh hn
 obtain ⟨sv,pv,cv,rfl,hS,hP,hC⟩:=hF
 obtain ⟨ap,bp,op,cp,rfl,hp1,hp2,hpa,hpr⟩:=hP.open
 have HPA:=Jh hpa
 have HPR:=Jh hpr
 obtain ⟨av,bv,ov,capv,rfl,-,-,-,-⟩:=hs.open
 have x1:=(ext_alloc w (.cells [sv,.slice ap d.procs.length cp,cv].toArray 26)).trans (ext_alloc _ (.cells (e.cells s0).toArray 31))
 have hD:=(Blk.new w [sv,.slice ap d.procs.length cp,cv].toArray 26).alloc (.cells (e.cells s0).toArray 31)
 have hDE:Blk ((w.alloc (.cells [sv,.slice ap d.procs.length cp,cv].toArray 26)).alloc (.cells (e.cells s0).toArray 31)) (w.heap.size+1) (e.cells s0).toArray 31:=by have:=Blk.new (w.alloc (.cells [sv,.slice ap d.procs.length cp,cv].toArray 26)) (e.cells s0).toArray 31;rwa [World.size_alloc] at this
 clear hS hP hC hok hs h64s hes hwf hn hpa hpr
 unfold i64r at hp hq
 go_enter Tryz.func3,Tryz.ntmps3
 go_upto_region 1 with fail
 generalize (w.alloc _).alloc _=w0 at *
 have HX0:=Jh x1
 have HD0:=Jh hD
 have HDE0:=Jh hDE
 obtain ⟨Bd,hBd⟩:∃ B,w.heap.size=B:=⟨_,rfl⟩
 have HBD:=Jh hBd
 rw [hBd] at HD0 HDE0 ⊢
 clear x1 hD hDE hBd
 go_upto_region 4 with (go_at_call 4;refine (live11_calls _).mono ?_;rintro r w1 ⟨rfl,hx1⟩)
 have HD:=Jh (HD0.out.ext hx1)
 have HDE:=Jh (HDE0.out.ext hx1)
 have HX:=Jh (HX0.out.trans hx1)
 clear hx1 HD0 HDE0 HX0
 obtain ⟨fw,hfw⟩:∃ fw,few11 d=fw:=⟨_,rfl⟩
 have HFV:=Jh hfw
 rw [hfw] at HFW
 clear hfw
 refine Jg w1 fun hH=>?_
 try simp only [J]
 (refine Jt 0 (.agg [sv,.slice ap d.procs.length cp,cv].toArray) rfl (yif_load rfl 26 _ rfl rfl (fun W hW=>(HD.out.ext hW).has) agg_Flat rfl) hH ?_;try simp only [J])
 (refine Jr 1 rfl fun K hK=>?_)
 go_simp
 refine (HFW.out _ (HX.out.trans hH)).mono ?_
 rintro r w2 ⟨rfl,hx2⟩
 refine hK.out _ _ (hH.trans hx2) (fun hH=>?_)
 clear hK K hx2 HFW
 try simp only [J]
 cases fw
 case false =>
  (refine Jt 2 (.bool true) rfl (yif_load1 rfl (by intro W hW;clear hW;go_simp)) hH ?_;try simp only [J])
  (refine Jt 3 (.bool true) rfl (yif_load1 rfl fun _ _=>rfl) hH ?_;try simp only [J])
  (refine Jt 4 (undef) rfl (Or.inr ⟨rfl,rfl⟩) hH ?_;try simp only [J])
  (refine Jt 5 (undef) rfl (Or.inr ⟨rfl,rfl⟩) hH ?_;try simp only [J])
  (refine Jt 6 (undef) rfl (Or.inr ⟨rfl,rfl⟩) hH ?_;try simp only [J])
  (refine Jt 7 (.bool true) rfl (yif_load1 rfl (by intro W hW;clear hW;go_simp)) hH ?_;try simp only [J])
  (refine Jt 8 (.bool true) rfl (yif_load1 rfl (by intro W hW;clear hW;go_simp)) hH ?_;try simp only [J])
  (refine Jt 9 (undef) rfl (Or.inr ⟨rfl,rfl⟩) hH ?_;try simp only [J])
  (refine Jt 10 (undef) rfl (Or.inr ⟨rfl,rfl⟩) hH ?_;try simp only [J])
  (refine Jt 11 (.bool true) rfl (yif_load1 rfl (by intro W hW;clear hW;go_simp)) hH ?_;try simp only [J])
  (refine Jt 12 (.bool true) rfl (yif_load1 rfl (by intro W hW;clear hW;go_simp)) hH ?_;try simp only [J])
  (refine Jt 13 (undef) rfl (Or.inr ⟨rfl,rfl⟩) hH ?_;try simp only [J])
  (refine Jt 14 (undef) rfl (Or.inr ⟨rfl,rfl⟩) hH ?_;try simp only [J])
  (refine Jt 15 (undef) rfl (Or.inr ⟨rfl,rfl⟩) hH ?_;try simp only [J])
  (refine Jt 16 (undef) rfl (Or.inr ⟨rfl,rfl⟩) hH ?_;try simp only [J])
  (refine Jt 17 (undef) rfl (Or.inr ⟨rfl,rfl⟩) hH ?_;try simp only [J])
  (refine Jt 18 (.bool true) rfl (yif_load1 rfl (by intro W hW;clear hW;go_simp)) hH ?_;try simp only [J])
  (refine Jt 19 (.bool true) rfl (yif_load1 rfl (by intro W hW;clear hW;go_simp)) hH ?_;try simp only [J])
  (refine Jt 20 (undef) rfl (Or.inr ⟨rfl,rfl⟩) hH ?_;try simp only [J])
  (refine Jt 21 (undef) rfl (Or.inr ⟨rfl,rfl⟩) hH ?_;try simp only [J])
  (refine Jt 22 (.bool true) rfl (yif_load1 rfl (by intro W hW;clear hW;go_simp)) hH ?_;try simp only [J])
  (refine Jt 23 (.bool true) rfl (yif_load1 rfl (by intro W hW;clear hW;go_simp)) hH ?_;try simp only [J])
  (refine Jt 24 (undef) rfl (Or.inr ⟨rfl,rfl⟩) hH ?_;try simp only [J])
  (refine Jt 25 (undef) rfl (Or.inr ⟨rfl,rfl⟩) hH ?_;try simp only [J])
  (refine Jt 26 (undef) rfl (Or.inr ⟨rfl,rfl⟩) hH ?_;try simp only [J])
  (refine Jt 27 (undef) rfl (Or.inr ⟨rfl,rfl⟩) hH ?_;try simp only [J])
  (refine Jt 28 (undef) rfl (Or.inr ⟨rfl,rfl⟩) hH ?_;try simp only [J])
  (refine Jt 29 (.bool true) rfl (yif_load1 rfl (by intro W hW;clear hW;go_simp)) hH ?_;try simp only [J])
  (refine Jt 30 (.bool true) rfl (yif_load1 rfl (by intro W hW;clear hW;go_simp)) hH ?_;try simp only [J])
  (refine Jt 31 (undef) rfl (Or.inr ⟨rfl,rfl⟩) hH ?_;try simp only [J])
  (refine Jt 32 (undef) rfl (Or.inr ⟨rfl,rfl⟩) hH ?_;try simp only [J])
  (refine Jt 33 (undef) rfl (Or.inr ⟨rfl,rfl⟩) hH ?_;try simp only [J])
  (refine Jt 34 (undef) rfl (Or.inr ⟨rfl,rfl⟩) hH ?_;try simp only [J])
  (refine Jt 35 (undef) rfl (Or.inr ⟨rfl,rfl⟩) hH ?_;try simp only [J])
  (refine Jt 36 (undef) rfl (Or.inr ⟨rfl,rfl⟩) hH ?_;try simp only [J])
  (refine Jt 37 (undef) rfl (Or.inr ⟨rfl,rfl⟩) hH ?_;try simp only [J])
  (refine Jt 38 (undef) rfl (Or.inr ⟨rfl,rfl⟩) hH ?_;try simp only [J])
  (refine Jt 39 (undef) rfl (Or.inr ⟨rfl,rfl⟩) hH ?_;try simp only [J])
  (refine Jt 40 (undef) rfl (Or.inr ⟨rfl,rfl⟩) hH ?_;try simp only [J])
  (refine Jt 41 (undef) rfl (Or.inr ⟨rfl,rfl⟩) hH ?_;try simp only [J])
  (refine Jt 42 (undef) rfl (Or.inr ⟨rfl,rfl⟩) hH ?_;try simp only [J])
  (refine Jt 43 (undef) rfl (Or.inr ⟨rfl,rfl⟩) hH ?_;try simp only [J])
  (refine Jt 44 (.bool true) rfl (yif_load1 rfl (by intro W hW;clear hW;go_simp)) hH ?_;try simp only [J])
  refine Jz ?_
  have HX3:=Jh hH
  clear hH
  go_wp2_with fail
  go_ret
  exact ⟨rfl,HX.out.trans HX3.out⟩
 (refine Jt 2 (.bool false) rfl (yif_load1 rfl (by intro W hW;clear hW;go_simp)) hH ?_;try simp only [J])
 (refine Jt 3 (.bool false) rfl (yif_load1 rfl fun _ _=>rfl) hH ?_;try simp only [J])
 (refine Jt 4 (.slice av vs.length capv) rfl (yif_load1 rfl fun _ _=>rfl) hH ?_;try simp only [J])
 (refine Jt 5 (.int .i64 vs.length) rfl (yif_load1 rfl (by intro W hW;clear hW;go_simp)) hH ?_;try simp only [J])
 by_cases hl:(100:Int)<(vs.length:Int)
 case pos =>
  (refine Jt 6 (.bool true) rfl (yif_load1 rfl (by intro W hW;clear hW;go_simp;try omega)) hH ?_;try simp only [J])
  (refine Jt 7 (.bool true) rfl (yif_load1 rfl (by intro W hW;clear hW;go_simp)) hH ?_;try simp only [J])
  (refine Jt 8 (.bool true) rfl (yif_load1 rfl (by intro W hW;clear hW;go_simp)) hH ?_;try simp only [J])
  (refine Jt 9 (undef) rfl (Or.inr ⟨rfl,rfl⟩) hH ?_;try simp only [J])
  (refine Jt 10 (undef) rfl (Or.inr ⟨rfl,rfl⟩) hH ?_;try simp only [J])
  (refine Jt 11 (.bool true) rfl (yif_load1 rfl (by intro W hW;clear hW;go_simp)) hH ?_;try simp only [J])
  (refine Jt 12 (.bool true) rfl (yif_load1 rfl (by intro W hW;clear hW;go_simp)) hH ?_;try simp only [J])
  (refine Jt 13 (undef) rfl (Or.inr ⟨rfl,rfl⟩) hH ?_;try simp only [J])
  (refine Jt 14 (undef) rfl (Or.inr ⟨rfl,rfl⟩) hH ?_;try simp only [J])
  (refine Jt 15 (undef) rfl (Or.inr ⟨rfl,rfl⟩) hH ?_;try simp only [J])
  (refine Jt 16 (undef) rfl (Or.inr ⟨rfl,rfl⟩) hH ?_;try simp only [J])
  (refine Jt 17 (undef) rfl (Or.inr ⟨rfl,rfl⟩) hH ?_;try simp only [J])
  (refine Jt 18 (.bool true) rfl (yif_load1 rfl (by intro W hW;clear hW;go_simp)) hH ?_;try simp only [J])
  (refine Jt 19 (.bool true) rfl (yif_load1 rfl (by intro W hW;clear hW;go_simp)) hH ?_;try simp only [J])
  (refine Jt 20 (undef) rfl (Or.inr ⟨rfl,rfl⟩) hH ?_;try simp only [J])
  (refine Jt 21 (undef) rfl (Or.inr ⟨rfl,rfl⟩) hH ?_;try simp only [J])
  (refine Jt 22 (.bool true) rfl (yif_load1 rfl (by intro W hW;clear hW;go_simp)) hH ?_;try simp only [J])
  (refine Jt 23 (.bool true) rfl (yif_load1 rfl (by intro W hW;clear hW;go_simp)) hH ?_;try simp only [J])
  (refine Jt 24 (undef) rfl (Or.inr ⟨rfl,rfl⟩) hH ?_;try simp only [J])
  (refine Jt 25 (undef) rfl (Or.inr ⟨rfl,rfl⟩) hH ?_;try simp only [J])
  (refine Jt 26 (undef) rfl (Or.inr ⟨rfl,rfl⟩) hH ?_;try simp only [J])
  (refine Jt 27 (undef) rfl (Or.inr ⟨rfl,rfl⟩) hH ?_;try simp only [J])
  (refine Jt 28 (undef) rfl (Or.inr ⟨rfl,rfl⟩) hH ?_;try simp only [J])
  (refine Jt 29 (.bool true) rfl (yif_load1 rfl (by intro W hW;clear hW;go_simp)) hH ?_;try simp only [J])
  (refine Jt 30 (.bool true) rfl (yif_load1 rfl (by intro W hW;clear hW;go_simp)) hH ?_;try simp only [J])
  (refine Jt 31 (undef) rfl (Or.inr ⟨rfl,rfl⟩) hH ?_;try simp only [J])
  (refine Jt 32 (undef) rfl (Or.inr ⟨rfl,rfl⟩) hH ?_;try simp only [J])
  (refine Jt 33 (undef) rfl (Or.inr ⟨rfl,rfl⟩) hH ?_;try simp only [J])
  (refine Jt 34 (undef) rfl (Or.inr ⟨rfl,rfl⟩) hH ?_;try simp only [J])
  (refine Jt 35 (undef) rfl (Or.inr ⟨rfl,rfl⟩) hH ?_;try simp only [J])
  (refine Jt 36 (undef) rfl (Or.inr ⟨rfl,rfl⟩) hH ?_;try simp only [J])
  (refine Jt 37 (undef) rfl (Or.inr ⟨rfl,rfl⟩) hH ?_;try simp only [J])
  (refine Jt 38 (undef) rfl (Or.inr ⟨rfl,rfl⟩) hH ?_;try simp only [J])
  (refine Jt 39 (undef) rfl (Or.inr ⟨rfl,rfl⟩) hH ?_;try simp only [J])
  (refine Jt 40 (undef) rfl (Or.inr ⟨rfl,rfl⟩) hH ?_;try simp only [J])
  (refine Jt 41 (undef) rfl (Or.inr ⟨rfl,rfl⟩) hH ?_;try simp only [J])
  (refine Jt 42 (undef) rfl (Or.inr ⟨rfl,rfl⟩) hH ?_;try simp only [J])
  (refine Jt 43 (undef) rfl (Or.inr ⟨rfl,rfl⟩) hH ?_;try simp only [J])
  (refine Jt 44 (.bool true) rfl (yif_load1 rfl (by intro W hW;clear hW;go_simp)) hH ?_;try simp only [J])
  refine Jz ?_
  have HX3:=Jh hH
  clear hH
  go_wp2_with fail
  go_ret
  exact ⟨rfl,HX.out.trans HX3.out⟩
 (refine Jt 6 (.bool false) rfl (yif_load1 rfl (by intro W hW;clear hW;go_simp;try omega)) hH ?_;try simp only [J])
 (refine Jt 7 (.bool false) rfl (yif_load1 rfl (by intro W hW;clear hW;go_simp)) hH ?_;try simp only [J])
 (refine Jt 8 (.bool false) rfl (yif_load1 rfl fun _ _=>rfl) hH ?_;try simp only [J])
 (refine Jt 9 (.int .i64 p) rfl (yif_load1 rfl fun _ _=>rfl) hH ?_;try simp only [J])
 by_cases h0:p<0
 case pos =>
  (refine Jt 10 (.bool true) rfl (yif_load1 rfl (by intro W hW;clear hW;go_simp;try omega)) hH ?_;try simp only [J])
  (refine Jt 11 (.bool true) rfl (yif_load1 rfl (by intro W hW;clear hW;go_simp)) hH ?_;try simp only [J])
  (refine Jt 12 (.bool true) rfl (yif_load1 rfl (by intro W hW;clear hW;go_simp)) hH ?_;try simp only [J])
  (refine Jt 13 (undef) rfl (Or.inr ⟨rfl,rfl⟩) hH ?_;try simp only [J])
  (refine Jt 14 (undef) rfl (Or.inr ⟨rfl,rfl⟩) hH ?_;try simp only [J])
  (refine Jt 15 (undef) rfl (Or.inr ⟨rfl,rfl⟩) hH ?_;try simp only [J])
  (refine Jt 16 (undef) rfl (Or.inr ⟨rfl,rfl⟩) hH ?_;try simp only [J])
  (refine Jt 17 (undef) rfl (Or.inr ⟨rfl,rfl⟩) hH ?_;try simp only [J])
  (refine Jt 18 (.bool true) rfl (yif_load1 rfl (by intro W hW;clear hW;go_simp)) hH ?_;try simp only [J])
  (refine Jt 19 (.bool true) rfl (yif_load1 rfl (by intro W hW;clear hW;go_simp)) hH ?_;try simp only [J])
  (refine Jt 20 (undef) rfl (Or.inr ⟨rfl,rfl⟩) hH ?_;try simp only [J])
  (refine Jt 21 (undef) rfl (Or.inr ⟨rfl,rfl⟩) hH ?_;try simp only [J])
  (refine Jt 22 (.bool true) rfl (yif_load1 rfl (by intro W hW;clear hW;go_simp)) hH ?_;try simp only [J])
  (refine Jt 23 (.bool true) rfl (yif_load1 rfl (by intro W hW;clear hW;go_simp)) hH ?_;try simp only [J])
  (refine Jt 24 (undef) rfl (Or.inr ⟨rfl,rfl⟩) hH ?_;try simp only [J])
  (refine Jt 25 (undef) rfl (Or.inr ⟨rfl,rfl⟩) hH ?_;try simp only [J])
  (refine Jt 26 (undef) rfl (Or.inr ⟨rfl,rfl⟩) hH ?_;try simp only [J])
  (refine Jt 27 (undef) rfl (Or.inr ⟨rfl,rfl⟩) hH ?_;try simp only [J])
  (refine Jt 28 (undef) rfl (Or.inr ⟨rfl,rfl⟩) hH ?_;try simp only [J])
  (refine Jt 29 (.bool true) rfl (yif_load1 rfl (by intro W hW;clear hW;go_simp)) hH ?_;try simp only [J])
  (refine Jt 30 (.bool true) rfl (yif_load1 rfl (by intro W hW;clear hW;go_simp)) hH ?_;try simp only [J])
  (refine Jt 31 (undef) rfl (Or.inr ⟨rfl,rfl⟩) hH ?_;try simp only [J])
  (refine Jt 32 (undef) rfl (Or.inr ⟨rfl,rfl⟩) hH ?_;try simp only [J])
  (refine Jt 33 (undef) rfl (Or.inr ⟨rfl,rfl⟩) hH ?_;try simp only [J])
  (refine Jt 34 (undef) rfl (Or.inr ⟨rfl,rfl⟩) hH ?_;try simp only [J])
  (refine Jt 35 (undef) rfl (Or.inr ⟨rfl,rfl⟩) hH ?_;try simp only [J])
  (refine Jt 36 (undef) rfl (Or.inr ⟨rfl,rfl⟩) hH ?_;try simp only [J])
  (refine Jt 37 (undef) rfl (Or.inr ⟨rfl,rfl⟩) hH ?_;try simp only [J])
  (refine Jt 38 (undef) rfl (Or.inr ⟨rfl,rfl⟩) hH ?_;try simp only [J])
  (refine Jt 39 (undef) rfl (Or.inr ⟨rfl,rfl⟩) hH ?_;try simp only [J])
  (refine Jt 40 (undef) rfl (Or.inr ⟨rfl,rfl⟩) hH ?_;try simp only [J])
  (refine Jt 41 (undef) rfl (Or.inr ⟨rfl,rfl⟩) hH ?_;try simp only [J])
  (refine Jt 42 (undef) rfl (Or.inr ⟨rfl,rfl⟩) hH ?_;try simp only [J])
  (refine Jt 43 (undef) rfl (Or.inr ⟨rfl,rfl⟩) hH ?_;try simp only [J])
  (refine Jt 44 (.bool true) rfl (yif_load1 rfl (by intro W hW;clear hW;go_simp)) hH ?_;try simp only [J])
  refine Jz ?_
  have HX3:=Jh hH
  clear hH
  go_wp2_with fail
  go_ret
  exact ⟨rfl,HX.out.trans HX3.out⟩
 (refine Jt 10 (.bool false) rfl (yif_load1 rfl (by intro W hW;clear hW;go_simp;try omega)) hH ?_;try simp only [J])
 (refine Jt 11 (.bool false) rfl (yif_load1 rfl (by intro W hW;clear hW;go_simp)) hH ?_;try simp only [J])
 (refine Jt 12 (.bool false) rfl (yif_load1 rfl fun _ _=>rfl) hH ?_;try simp only [J])
 (refine Jt 13 (.int .i64 p) rfl (yif_load1 rfl fun _ _=>rfl) hH ?_;try simp only [J])
 (refine Jt 14 (.pointer (some ⟨Bd,1,none⟩)) rfl (yif_load1 rfl (by intro W hW;clear hW;go_simp)) hH ?_;try simp only [J])
 (refine Jt 15 (.slice ap d.procs.length cp) rfl (yif_load1 rfl (by intro W hW;have y:=(HD.out.ext hW).has 1 _ rfl;rw [Nat.zero_add] at y;clear hW;go_simp)) hH ?_;try simp only [J])
 (refine Jt 16 (.int .i64 d.procs.length) rfl (yif_load1 rfl (by intro W hW;clear hW;go_simp)) hH ?_;try simp only [J])
 by_cases h1:(d.procs.length:Int)<=p
 case pos =>
  (refine Jt 17 (.bool true) rfl (yif_load1 rfl (by intro W hW;clear hW;go_simp;try omega)) hH ?_;try simp only [J])
  (refine Jt 18 (.bool true) rfl (yif_load1 rfl (by intro W hW;clear hW;go_simp)) hH ?_;try simp only [J])
  (refine Jt 19 (.bool true) rfl (yif_load1 rfl (by intro W hW;clear hW;go_simp)) hH ?_;try simp only [J])
  (refine Jt 20 (undef) rfl (Or.inr ⟨rfl,rfl⟩) hH ?_;try simp only [J])
  (refine Jt 21 (undef) rfl (Or.inr ⟨rfl,rfl⟩) hH ?_;try simp only [J])
  (refine Jt 22 (.bool true) rfl (yif_load1 rfl (by intro W hW;clear hW;go_simp)) hH ?_;try simp only [J])
  (refine Jt 23 (.bool true) rfl (yif_load1 rfl (by intro W hW;clear hW;go_simp)) hH ?_;try simp only [J])
  (refine Jt 24 (undef) rfl (Or.inr ⟨rfl,rfl⟩) hH ?_;try simp only [J])
  (refine Jt 25 (undef) rfl (Or.inr ⟨rfl,rfl⟩) hH ?_;try simp only [J])
  (refine Jt 26 (undef) rfl (Or.inr ⟨rfl,rfl⟩) hH ?_;try simp only [J])
  (refine Jt 27 (undef) rfl (Or.inr ⟨rfl,rfl⟩) hH ?_;try simp only [J])
  (refine Jt 28 (undef) rfl (Or.inr ⟨rfl,rfl⟩) hH ?_;try simp only [J])
  (refine Jt 29 (.bool true) rfl (yif_load1 rfl (by intro W hW;clear hW;go_simp)) hH ?_;try simp only [J])
  (refine Jt 30 (.bool true) rfl (yif_load1 rfl (by intro W hW;clear hW;go_simp)) hH ?_;try simp only [J])
  (refine Jt 31 (undef) rfl (Or.inr ⟨rfl,rfl⟩) hH ?_;try simp only [J])
  (refine Jt 32 (undef) rfl (Or.inr ⟨rfl,rfl⟩) hH ?_;try simp only [J])
  (refine Jt 33 (undef) rfl (Or.inr ⟨rfl,rfl⟩) hH ?_;try simp only [J])
  (refine Jt 34 (undef) rfl (Or.inr ⟨rfl,rfl⟩) hH ?_;try simp only [J])
  (refine Jt 35 (undef) rfl (Or.inr ⟨rfl,rfl⟩) hH ?_;try simp only [J])
  (refine Jt 36 (undef) rfl (Or.inr ⟨rfl,rfl⟩) hH ?_;try simp only [J])
  (refine Jt 37 (undef) rfl (Or.inr ⟨rfl,rfl⟩) hH ?_;try simp only [J])
  (refine Jt 38 (undef) rfl (Or.inr ⟨rfl,rfl⟩) hH ?_;try simp only [J])
  (refine Jt 39 (undef) rfl (Or.inr ⟨rfl,rfl⟩) hH ?_;try simp only [J])
  (refine Jt 40 (undef) rfl (Or.inr ⟨rfl,rfl⟩) hH ?_;try simp only [J])
  (refine Jt 41 (undef) rfl (Or.inr ⟨rfl,rfl⟩) hH ?_;try simp only [J])
  (refine Jt 42 (undef) rfl (Or.inr ⟨rfl,rfl⟩) hH ?_;try simp only [J])
  (refine Jt 43 (undef) rfl (Or.inr ⟨rfl,rfl⟩) hH ?_;try simp only [J])
  (refine Jt 44 (.bool true) rfl (yif_load1 rfl (by intro W hW;clear hW;go_simp)) hH ?_;try simp only [J])
  refine Jz ?_
  have HX3:=Jh hH
  clear hH
  go_wp2_with fail
  go_ret
  exact ⟨rfl,HX.out.trans HX3.out⟩
 (refine Jt 17 (.bool false) rfl (yif_load1 rfl (by intro W hW;clear hW;go_simp;try omega)) hH ?_;try simp only [J])
 (refine Jt 18 (.bool false) rfl (yif_load1 rfl (by intro W hW;clear hW;go_simp)) hH ?_;try simp only [J])
 (refine Jt 19 (.bool false) rfl (yif_load1 rfl fun _ _=>rfl) hH ?_;try simp only [J])
 (refine Jt 20 (.int .i64 q) rfl (yif_load1 rfl fun _ _=>rfl) hH ?_;try simp only [J])
 by_cases h2:q<0
 case pos =>
  (refine Jt 21 (.bool true) rfl (yif_load1 rfl (by intro W hW;clear hW;go_simp;try omega)) hH ?_;try simp only [J])
  (refine Jt 22 (.bool true) rfl (yif_load1 rfl (by intro W hW;clear hW;go_simp)) hH ?_;try simp only [J])
  (refine Jt 23 (.bool true) rfl (yif_load1 rfl (by intro W hW;clear hW;go_simp)) hH ?_;try simp only [J])
  (refine Jt 24 (undef) rfl (Or.inr ⟨rfl,rfl⟩) hH ?_;try simp only [J])
  (refine Jt 25 (undef) rfl (Or.inr ⟨rfl,rfl⟩) hH ?_;try simp only [J])
  (refine Jt 26 (undef) rfl (Or.inr ⟨rfl,rfl⟩) hH ?_;try simp only [J])
  (refine Jt 27 (undef) rfl (Or.inr ⟨rfl,rfl⟩) hH ?_;try simp only [J])
  (refine Jt 28 (undef) rfl (Or.inr ⟨rfl,rfl⟩) hH ?_;try simp only [J])
  (refine Jt 29 (.bool true) rfl (yif_load1 rfl (by intro W hW;clear hW;go_simp)) hH ?_;try simp only [J])
  (refine Jt 30 (.bool true) rfl (yif_load1 rfl (by intro W hW;clear hW;go_simp)) hH ?_;try simp only [J])
  (refine Jt 31 (undef) rfl (Or.inr ⟨rfl,rfl⟩) hH ?_;try simp only [J])
  (refine Jt 32 (undef) rfl (Or.inr ⟨rfl,rfl⟩) hH ?_;try simp only [J])
  (refine Jt 33 (undef) rfl (Or.inr ⟨rfl,rfl⟩) hH ?_;try simp only [J])
  (refine Jt 34 (undef) rfl (Or.inr ⟨rfl,rfl⟩) hH ?_;try simp only [J])
  (refine Jt 35 (undef) rfl (Or.inr ⟨rfl,rfl⟩) hH ?_;try simp only [J])
  (refine Jt 36 (undef) rfl (Or.inr ⟨rfl,rfl⟩) hH ?_;try simp only [J])
  (refine Jt 37 (undef) rfl (Or.inr ⟨rfl,rfl⟩) hH ?_;try simp only [J])
  (refine Jt 38 (undef) rfl (Or.inr ⟨rfl,rfl⟩) hH ?_;try simp only [J])
  (refine Jt 39 (undef) rfl (Or.inr ⟨rfl,rfl⟩) hH ?_;try simp only [J])
  (refine Jt 40 (undef) rfl (Or.inr ⟨rfl,rfl⟩) hH ?_;try simp only [J])
  (refine Jt 41 (undef) rfl (Or.inr ⟨rfl,rfl⟩) hH ?_;try simp only [J])
  (refine Jt 42 (undef) rfl (Or.inr ⟨rfl,rfl⟩) hH ?_;try simp only [J])
  (refine Jt 43 (undef) rfl (Or.inr ⟨rfl,rfl⟩) hH ?_;try simp only [J])
  (refine Jt 44 (.bool true) rfl (yif_load1 rfl (by intro W hW;clear hW;go_simp)) hH ?_;try simp only [J])
  refine Jz ?_
  have HX3:=Jh hH
  clear hH
  go_wp2_with fail
  go_ret
  exact ⟨rfl,HX.out.trans HX3.out⟩
 (refine Jt 21 (.bool false) rfl (yif_load1 rfl (by intro W hW;clear hW;go_simp;try omega)) hH ?_;try simp only [J])
 (refine Jt 22 (.bool false) rfl (yif_load1 rfl (by intro W hW;clear hW;go_simp)) hH ?_;try simp only [J])
 (refine Jt 23 (.bool false) rfl (yif_load1 rfl fun _ _=>rfl) hH ?_;try simp only [J])
 (refine Jt 24 (.int .i64 q) rfl (yif_load1 rfl fun _ _=>rfl) hH ?_;try simp only [J])
 (refine Jt 25 (.pointer (some ⟨Bd,1,none⟩)) rfl (yif_load1 rfl (by intro W hW;clear hW;go_simp)) hH ?_;try simp only [J])
 (refine Jt 26 (.slice ap d.procs.length cp) rfl (yif_load1 rfl (by intro W hW;have y:=(HD.out.ext hW).has 1 _ rfl;rw [Nat.zero_add] at y;clear hW;go_simp)) hH ?_;try simp only [J])
 (refine Jt 27 (.int .i64 d.procs.length) rfl (yif_load1 rfl (by intro W hW;clear hW;go_simp)) hH ?_;try simp only [J])
 by_cases h3:(d.procs.length:Int)<=q
 case pos =>
  (refine Jt 28 (.bool true) rfl (yif_load1 rfl (by intro W hW;clear hW;go_simp;try omega)) hH ?_;try simp only [J])
  (refine Jt 29 (.bool true) rfl (yif_load1 rfl (by intro W hW;clear hW;go_simp)) hH ?_;try simp only [J])
  (refine Jt 30 (.bool true) rfl (yif_load1 rfl (by intro W hW;clear hW;go_simp)) hH ?_;try simp only [J])
  (refine Jt 31 (undef) rfl (Or.inr ⟨rfl,rfl⟩) hH ?_;try simp only [J])
  (refine Jt 32 (undef) rfl (Or.inr ⟨rfl,rfl⟩) hH ?_;try simp only [J])
  (refine Jt 33 (undef) rfl (Or.inr ⟨rfl,rfl⟩) hH ?_;try simp only [J])
  (refine Jt 34 (undef) rfl (Or.inr ⟨rfl,rfl⟩) hH ?_;try simp only [J])
  (refine Jt 35 (undef) rfl (Or.inr ⟨rfl,rfl⟩) hH ?_;try simp only [J])
  (refine Jt 36 (undef) rfl (Or.inr ⟨rfl,rfl⟩) hH ?_;try simp only [J])
  (refine Jt 37 (undef) rfl (Or.inr ⟨rfl,rfl⟩) hH ?_;try simp only [J])
  (refine Jt 38 (undef) rfl (Or.inr ⟨rfl,rfl⟩) hH ?_;try simp only [J])
  (refine Jt 39 (undef) rfl (Or.inr ⟨rfl,rfl⟩) hH ?_;try simp only [J])
  (refine Jt 40 (undef) rfl (Or.inr ⟨rfl,rfl⟩) hH ?_;try simp only [J])
  (refine Jt 41 (undef) rfl (Or.inr ⟨rfl,rfl⟩) hH ?_;try simp only [J])
  (refine Jt 42 (undef) rfl (Or.inr ⟨rfl,rfl⟩) hH ?_;try simp only [J])
  (refine Jt 43 (undef) rfl (Or.inr ⟨rfl,rfl⟩) hH ?_;try simp only [J])
  (refine Jt 44 (.bool true) rfl (yif_load1 rfl (by intro W hW;clear hW;go_simp)) hH ?_;try simp only [J])
  refine Jz ?_
  have HX3:=Jh hH
  clear hH
  go_wp2_with fail
  go_ret
  exact ⟨rfl,HX.out.trans HX3.out⟩
 (refine Jt 28 (.bool false) rfl (yif_load1 rfl (by intro W hW;clear hW;go_simp;try omega)) hH ?_;try simp only [J])
 (refine Jt 29 (.bool false) rfl (yif_load1 rfl (by intro W hW;clear hW;go_simp)) hH ?_;try simp only [J])
 (refine Jt 30 (.bool false) rfl (yif_load1 rfl fun _ _=>rfl) hH ?_;try simp only [J])
 obtain ⟨pn,rfl⟩:=Int.eq_ofNat_of_zero_le (show 0<=p by omega)
 obtain ⟨qn,rfl⟩:=Int.eq_ofNat_of_zero_le (show 0<=q by omega)
 have hpn:pn<d.procs.length:=by omega
 have hqn:qn<d.procs.length:=by omega
 obtain rfl:=HPA.out (by omega)
 have HCP:=Jh (fun W (h:Ext w W)=>(Procs.get (HPR.out.mono fun x _ b o hh=>ProcAt.ext' h hh) hpn))
 have HCQ:=Jh (fun W (h:Ext w W)=>(Procs.get (HPR.out.mono fun x _ b o hh=>ProcAt.ext' h hh) hqn))
 have HKP:=Jh (clkD_n hpn)
 have HKQ:=Jh (clkD_n hqn)
 have HLP:=Jh (procL_n hpn)
 have HLQ:=Jh (procL_n hqn)
 have HPM:=Jh (List.getElem_mem hpn)
 have HQM:=Jh (List.getElem_mem hqn)
 obtain ⟨Pp,hPp⟩:∃ x,d.procs[pn]=x:=⟨_,rfl⟩
 obtain ⟨Pq,hPq⟩:∃ x,d.procs[qn]=x:=⟨_,rfl⟩
 rw [hPp] at HCP HKP HLP HPM
 rw [hPq] at HCQ HKQ HLQ HQM
 clear hPp hPq h0 h1 h2 h3 hp hq
 (refine Jt 31 (.pointer (some ⟨Bd,1,none⟩)) rfl (yif_load1 rfl (by intro W hW;clear hW;go_simp)) hH ?_;try simp only [J])
 (refine Jt 32 (.slice (some ⟨bp,op,none⟩) d.procs.length cp) rfl (yif_load1 rfl (by intro W hW;have y:=(HD.out.ext hW).has 1 _ rfl;rw [Nat.zero_add] at y;clear hW;go_simp)) hH ?_;try simp only [J])
 (refine Jt 33 (.int .i64 (pn:Int)) rfl (yif_load1 rfl fun _ _=>rfl) hH ?_;try simp only [J])
 (refine Jt 34 (.pointer (some ⟨bp,op+pn*2,none⟩)) rfl (yif_load1 rfl (by intro W hW;clear hW;go_simp;try (intro h;omega))) hH ?_;try simp only [J])
 (refine Jt 35 (.pointer (some ⟨bp,op+pn*2,none⟩)) rfl (yif_load1 rfl (by intro W hW;clear hW;go_simp)) hH ?_;try simp only [J])
 (refine Jt 36 (.bool Pp.clocked) rfl (yif_load1 rfl (by intro W hW;obtain ⟨sl,hh,-⟩:=HCP.out W (HX.out.trans hW);have y:=hh 0 _ rfl;rw [Nat.add_zero] at y;clear hW hh;go_simp)) hH ?_;try simp only [J])
 (refine Jt 37 (.pointer (some ⟨Bd,1,none⟩)) rfl (yif_load1 rfl (by intro W hW;clear hW;go_simp)) hH ?_;try simp only [J])
 (refine Jt 38 (.slice (some ⟨bp,op,none⟩) d.procs.length cp) rfl (yif_load1 rfl (by intro W hW;have y:=(HD.out.ext hW).has 1 _ rfl;rw [Nat.zero_add] at y;clear hW;go_simp)) hH ?_;try simp only [J])
 (refine Jt 39 (.int .i64 (qn:Int)) rfl (yif_load1 rfl fun _ _=>rfl) hH ?_;try simp only [J])
 (refine Jt 40 (.pointer (some ⟨bp,op+qn*2,none⟩)) rfl (yif_load1 rfl (by intro W hW;clear hW;go_simp;try (intro h;omega))) hH ?_;try simp only [J])
 (refine Jt 41 (.pointer (some ⟨bp,op+qn*2,none⟩)) rfl (yif_load1 rfl (by intro W hW;clear hW;go_simp)) hH ?_;try simp only [J])
 (refine Jt 42 (.bool Pq.clocked) rfl (yif_load1 rfl (by intro W hW;obtain ⟨sl,hh,-⟩:=HCQ.out W (HX.out.trans hW);have y:=hh 0 _ rfl;rw [Nat.add_zero] at y;clear hW hh;go_simp)) hH ?_;try simp only [J])
 by_cases hck:Pp.clocked=Pq.clocked
 case neg =>
  (refine Jt 43 (.bool true) rfl (yif_load1 rfl (by intro W hW;clear hW;go_simp;try exact hck)) hH ?_;try simp only [J])
  (refine Jt 44 (.bool true) rfl (yif_load1 rfl (by intro W hW;clear hW;go_simp)) hH ?_;try simp only [J])
  refine Jz ?_
  have HX3:=Jh hH
  clear hH
  go_wp2_with fail
  go_ret
  exact ⟨rfl,HX.out.trans HX3.out⟩
 (refine Jt 43 (.bool false) rfl (yif_load1 rfl (by intro W hW;clear hW;go_simp;try exact hck)) hH ?_;try simp only [J])
 (refine Jt 44 (.bool false) rfl (yif_load1 rfl (by intro W hW;clear hW;go_simp)) hH ?_;try simp only [J])
 refine Jz ?_
 have HX2:=Jh (HX.out.trans hH)
 have HD2:=Jh (HD.out.ext hH)
 have HE2:=Jh (HDE.out.ext hH)
 clear hH hl HD HDE HX
 have HCK:=Jh hck
 clear hck
 obtain ⟨sp,hhp,hTp⟩:=HCP.out w2 HX2.out
 obtain ⟨sq,hhq,hTq⟩:=HCQ.out w2 HX2.out
 obtain ⟨la,-,-,lc,rfl,-,-,-,-⟩:=hTp.open
 obtain ⟨ma,-,-,mc,rfl,-,-,-,-⟩:=hTq.open
 have HTP:=Jh hTp
 have HTQ:=Jh hTq
 have HLC:=Jh (fun W (h:Ext w2 W)=>(show W.cell? ⟨bp,op+pn*2+1,none⟩=some (.slice la Pp.l.length lc) from (hhp.ext h) 1 _ rfl))
 have HMC:=Jh (fun W (h:Ext w2 W)=>(show W.cell? ⟨bp,op+qn*2+1,none⟩=some (.slice ma Pq.l.length mc) from (hhq.ext h) 1 _ rfl))
 have e1:=HD2.out.has 1 _ rfl
 rw [Nat.zero_add] at e1
 have ycl:=hhp 0 _ rfl
 rw [Nat.add_zero] at ycl
 clear hhp hhq hTp hTq HCP HCQ
 obtain ⟨sg',pv',cv',he,hS,hP,hC⟩:=HF.out w2 HX2.out
 injection he with he
 simp only [Array.mk.injEq,List.cons.injEq,and_true] at he
 obtain ⟨rfl,rfl,rfl⟩:=he
 have HSG:=Jh (fun W (h:Ext w2 W)=>hS.ext h)
 have HSO:=Jh hS.one
 have HPO:=Jh hP.one
 have HCO:=Jh hC.one
 have HTS:=Jh (fun W (h:Ext w2 W) {B3 B18 B20:Nat} (h3:Blk W B3 (e.cells s0).toArray 31) (h18:Blk W B18 (blkL la Pp.l.length lc++blkL ma Pq.l.length mc).toArray 39) (h20:Blk W B20 (tifL B3 B18).toArray 39)=>choice_Ts h3 h18 h20 (HES.out W (HX2.out.trans h)) (HTP.out.ext h) (HTQ.out.ext h))
 have HFIN:=Jh (fun Bx B2 B3 B18 B20 W (h:Ext w2 W) (hb:Blk W Bx [sv,.slice (some ⟨B2,0,none⟩) 1 1,.slice none 0 0].toArray 26) (h2:Blk W B2 #[.bool Pp.clocked,.slice (some ⟨B20,0,none⟩) 1 1] 36) (h3:Blk W B3 (e.cells s0).toArray 31) (h18:Blk W B18 (blkL la Pp.l.length lc++blkL ma Pq.l.length mc).toArray 39) (h20:Blk W B20 (tifL B3 B18).toArray 39) =>
  (show ∃ (Bx':Nat) (xs:List Value),Value.pointer (some ⟨Bx,0,none⟩)=.pointer (some ⟨Bx',0,none⟩)/\xs.length=3/\Blk W Bx' xs.toArray 26/\FlatV W (.agg xs.toArray) (xChoice d Pp.clocked e Pp.l Pq.l)/\xs.all (·.oneCell')=true/\Ext w2 W from
   ⟨Bx,_,rfl,rfl,hb,⟨_,_,_,rfl,HSG.out W h,⟨B2,0,⟨_,1,rfl,Nat.le_refl _,by decide,fun _=>rfl⟩,⟨_,h2.has,HTS.out W h h3 h18 h20⟩,trivial⟩,Sl.nil _ _⟩,by rw [List.all_cons,HSO.out];rfl,h⟩))
 clear hS hP hC
 go_upto_region 7 with fail
 clear e1 ycl
 go_cut [13] from 78 to 100 (fun b wx=>∃ (Bx:Nat) (xs:List Value),b=.pointer (some ⟨Bx,0,none⟩)/\xs.length=3/\Blk wx Bx xs.toArray 26/\FlatV wx (.agg xs.toArray) (xChoice d Pp.clocked e Pp.l Pq.l)/\xs.all (·.oneCell')=true/\Ext w2 wx)
 case first =>
  refine Jg w2 fun hH=>?_
  try simp only [J]
  (refine Jt 0 (.agg [sv,.slice (some ⟨bp,op,none⟩) d.procs.length cp,cv].toArray) rfl (yif_load rfl 26 _ rfl rfl (fun W hW=>(HD2.out.ext hW).has) agg_Flat rfl) hH ?_;try simp only [J])
  (refine Jt 1 (.bool Pp.clocked) rfl (yif_load1 rfl fun _ _=>rfl) hH ?_;try simp only [J])
  (refine Jt 2 (.agg (e.cells s0).toArray) rfl (yif_load rfl 31 _ rfl rfl (fun W hW=>(HE2.out.ext hW).has) agg_E rfl) hH ?_;try simp only [J])
  (refine Jt 4 (.pointer (some ⟨Bd,1,none⟩)) rfl (yif_load1 rfl (by intro W hW;clear hW;go_simp)) hH ?_;try simp only [J])
  (refine Jt 5 (.slice (some ⟨bp,op,none⟩) d.procs.length cp) rfl (yif_load1 rfl (by intro W hW;have y:=(HD2.out.ext hW).has 1 _ rfl;rw [Nat.zero_add] at y;clear hW;go_simp)) hH ?_;try simp only [J])
  (refine Jt 6 (.int .i64 (pn:Int)) rfl (yif_load1 rfl fun _ _=>rfl) hH ?_;try simp only [J])
  (refine Jt 7 (.pointer (some ⟨bp,op+pn*2,none⟩)) rfl (yif_load1 rfl (by intro W hW;clear hW;go_simp;try (intro h;omega))) hH ?_;try simp only [J])
  (refine Jt 8 (.pointer (some ⟨bp,op+pn*2+1,none⟩)) rfl (yif_load1 rfl (by intro W hW;clear hW;go_simp)) hH ?_;try simp only [J])
  (refine Jt 9 (.slice la Pp.l.length lc) rfl (yif_load1 rfl (by intro W hW;have y:=HLC.out W hW;clear hW;go_simp)) hH ?_;try simp only [J])
  (refine Jt 11 (.pointer (some ⟨Bd,1,none⟩)) rfl (yif_load1 rfl (by intro W hW;clear hW;go_simp)) hH ?_;try simp only [J])
  (refine Jt 12 (.slice (some ⟨bp,op,none⟩) d.procs.length cp) rfl (yif_load1 rfl (by intro W hW;have y:=(HD2.out.ext hW).has 1 _ rfl;rw [Nat.zero_add] at y;clear hW;go_simp)) hH ?_;try simp only [J])
  (refine Jt 13 (.int .i64 (qn:Int)) rfl (yif_load1 rfl fun _ _=>rfl) hH ?_;try simp only [J])
  (refine Jt 14 (.pointer (some ⟨bp,op+qn*2,none⟩)) rfl (yif_load1 rfl (by intro W hW;clear hW;go_simp;try (intro h;omega))) hH ?_;try simp only [J])
  (refine Jt 15 (.pointer (some ⟨bp,op+qn*2+1,none⟩)) rfl (yif_load1 rfl (by intro W hW;clear hW;go_simp)) hH ?_;try simp only [J])
  (refine Jt 16 (.slice ma Pq.l.length mc) rfl (yif_load1 rfl (by intro W hW;have y:=HMC.out W hW;clear hW;go_simp)) hH ?_;try simp only [J])
  generalize w2.drew=W0 at *
  refine wpAnyH_ready (rs:=[3,10,22]) (by kernel_rfl) (by simp) ?_
  refine AllReadyH.cons rfl (fun K hK=>?_) (AllReadyH.cons rfl (fun K hK=>?_) (AllReadyH.cons rfl (fun K hK=>?_) (AllReadyH.nil)))
  ·
   refine step_bs1 rfl _ _ rfl appE rfl (cs:=e.cells s0) rfl rfl (by decide) ?_
   have hx:=ext_alloc W0 (.cells (e.cells s0).toArray 31)
   have HB3:=Jh (Blk.new W0 (e.cells s0).toArray 31)
   obtain ⟨B3,hB⟩:∃ B,W0.heap.size=B:=⟨_,rfl⟩
   have HSB3:=Jh (show w2.heap.size<=B3 from hB ▸ hH.size)
   rw [hB] at HB3 ⊢
   clear hB
   refine hK.out _ _ (hH.trans hx) (fun hH=>?_)
   clear hK K hx
   generalize W0.alloc _=W1 at *
   try simp only [J]
   refine wpAnyH_ready (rs:=[10,22]) (by kernel_rfl) (by simp) ?_
   refine AllReadyH.cons rfl (fun K hK=>?_) (AllReadyH.cons rfl (fun K hK=>?_) (AllReadyH.nil))
   ·
    go_simp
    refine (block11_calls la Pp.l.length lc _).mono ?_
    rintro r W2 ⟨rfl,hx⟩
    have HB3:=Jh (HB3.out.ext hx)
    refine hK.out _ _ (hH.trans hx) (fun hH=>?_)
    clear hK K hx
    try simp only [J]
    refine wpAnyH_ready (rs:=[17,22]) (by kernel_rfl) (by simp) ?_
    refine AllReadyH.cons rfl (fun K hK=>?_) (AllReadyH.cons rfl (fun K hK=>?_) (AllReadyH.nil))
    ·
     go_simp
     refine (block11_calls ma Pq.l.length mc _).mono ?_
     rintro r W3 ⟨rfl,hx⟩
     have HB3:=Jh (HB3.out.ext hx)
     refine hK.out _ _ (hH.trans hx) (fun hH=>?_)
     clear hK K hx
     try simp only [J]
     refine wpAnyH_ready (rs:=[18,22]) (by kernel_rfl) (by simp) ?_
     refine AllReadyH.cons rfl (fun K hK=>?_) (AllReadyH.cons rfl (fun K hK=>?_) (AllReadyH.nil))
     ·
      refine step_bsN rfl _ 2 _ rfl appT (vs:=[.agg [.int .i64 5,.int .i64 0,.int .i64 0,.int .i64 0,.slice none 0 0,.slice la Pp.l.length lc].toArray,.agg [.int .i64 5,.int .i64 0,.int .i64 0,.int .i64 0,.slice none 0 0,.slice ma Pq.l.length mc].toArray]) rfl rfl (css:=[[.int .i64 5,.int .i64 0,.int .i64 0,.int .i64 0,.slice none 0 0,.slice la Pp.l.length lc],[.int .i64 5,.int .i64 0,.int .i64 0,.int .i64 0,.slice none 0 0,.slice ma Pq.l.length mc]]) rfl (by simp) (by decide) (by decide) ?_
      have hx:=ext_alloc W3 (.cells ([[.int .i64 5,.int .i64 0,.int .i64 0,.int .i64 0,.slice none 0 0,.slice la Pp.l.length lc],[.int .i64 5,.int .i64 0,.int .i64 0,.int .i64 0,.slice none 0 0,.slice ma Pq.l.length mc]].flatten.toArray) 39)
      have HB18:=Jh (Blk.new W3 ([[.int .i64 5,.int .i64 0,.int .i64 0,.int .i64 0,.slice none 0 0,.slice la Pp.l.length lc],[.int .i64 5,.int .i64 0,.int .i64 0,.int .i64 0,.slice none 0 0,.slice ma Pq.l.length mc]].flatten.toArray) 39)
      obtain ⟨B18,hB⟩:∃ B,W3.heap.size=B:=⟨_,rfl⟩
      have HSB18:=Jh (show w2.heap.size<=B18 from hB ▸ hH.size)
      rw [hB] at HB18 ⊢
      clear hB
      have HB3:=Jh (HB3.out.ext hx)
      refine hK.out _ _ (hH.trans hx) (fun hH=>?_)
      clear hK K hx
      generalize W3.alloc _=W4 at *
      try simp only [J]
      (refine Jt 19 (.agg #[.int .i64 2,.int .i64 0,.int .i64 0,.int .i64 0,.slice (some ⟨B3,0,none⟩) 1 1,.slice (some ⟨B18,0,none⟩) 2 2]) rfl (yif_load1 rfl (by intro W hW;clear hW;go_simp)) hH ?_;try simp only [J])
      refine wpAnyH_ready (rs:=[20,22]) (by kernel_rfl) (by simp) ?_
      refine AllReadyH.cons rfl (fun K hK=>?_) (AllReadyH.cons rfl (fun K hK=>?_) (AllReadyH.nil))
      ·
       refine step_bs1 rfl _ _ rfl appT rfl (cs:=[.int .i64 2,.int .i64 0,.int .i64 0,.int .i64 0,.slice (some ⟨B3,0,none⟩) 1 1,.slice (some ⟨B18,0,none⟩) 2 2]) rfl rfl (by decide) ?_
       have hx:=ext_alloc W4 (.cells ([.int .i64 2,.int .i64 0,.int .i64 0,.int .i64 0,.slice (some ⟨B3,0,none⟩) 1 1,.slice (some ⟨B18,0,none⟩) 2 2]).toArray 39)
       have HB20:=Jh (Blk.new W4 ([.int .i64 2,.int .i64 0,.int .i64 0,.int .i64 0,.slice (some ⟨B3,0,none⟩) 1 1,.slice (some ⟨B18,0,none⟩) 2 2]).toArray 39)
       obtain ⟨B20,hB⟩:∃ B,W4.heap.size=B:=⟨_,rfl⟩
       have HSB20:=Jh (show w2.heap.size<=B20 from hB ▸ hH.size)
       rw [hB] at HB20 ⊢
       clear hB
       have HB3:=Jh (HB3.out.ext hx)
       have HB18:=Jh (HB18.out.ext hx)
       refine hK.out _ _ (hH.trans hx) (fun hH=>?_)
       clear hK K hx
       generalize W4.alloc _=W5 at *
       try simp only [J]
       refine wpAnyH_ready (rs:=[21,22]) (by kernel_rfl) (by simp) ?_
       refine AllReadyH.cons rfl (fun K hK=>?_) (AllReadyH.cons rfl (fun K hK=>?_) (AllReadyH.nil))
       ·
        go_simp
        refine (with_callsB (HSG.out W5 hH) HPO.out HCO.out (HTS.out W5 hH HB3.out HB18.out HB20.out)).mono ?_
        rintro r W6 ⟨B2,rfl,hb2,hx⟩
        have HB2:=Jh hb2
        clear hb2
        have HB3:=Jh (HB3.out.ext hx)
        have HB18:=Jh (HB18.out.ext hx)
        have HB20:=Jh (HB20.out.ext hx)
        refine hK.out _ _ (hH.trans hx) (fun hH=>?_)
        clear hK K hx
        try simp only [J]
        (refine Jr 22 rfl fun K hK=>?_)
        go_simp
        have hx:=ext_alloc W6 (.cells #[.slice none 0 0,.slice none 0 0,.slice none 0 0] 26)
        have HBX:=Jh (Blk.new W6 #[.slice none 0 0,.slice none 0 0,.slice none 0 0] 26)
        obtain ⟨BX,hB⟩:∃ B,W6.heap.size=B:=⟨_,rfl⟩
        have HSBX:=Jh (show w2.heap.size<=BX from hB ▸ hH.size)
        rw [hB] at HBX ⊢
        clear hB
        have HB3:=Jh (HB3.out.ext hx)
        have HB18:=Jh (HB18.out.ext hx)
        have HB20:=Jh (HB20.out.ext hx)
        have HB2:=Jh (HB2.out.ext hx)
        refine hK.out _ _ (hH.trans hx) (fun hH=>?_)
        clear hK K hx
        generalize W6.alloc _=W7 at *
        try simp only [J]
        (refine Jr 23 rfl fun K hK=>?_)
        refine step_store_blk' rfl 26 _ _ rfl HBX.out rfl (cs:=[sv,.slice (some ⟨B2,0,none⟩) 1 1,.slice none 0 0]) rfl agg_Flat rfl rfl (by rw [List.all_cons,HSO.out];rfl) ?_
        intro W8 hb9 hg9
        have hx9:=hH.grown hg9 HSBX.out
        have hfin:=HFIN.out _ _ _ _ _ _ hx9 hb9 (HB2.out.grown hg9 (HB2.out.neT HBX.out (by decide))) (HB3.out.grown hg9 (HB3.out.neT HBX.out (by decide))) (HB18.out.grown hg9 (HB18.out.neT HBX.out (by decide))) (HB20.out.grown hg9 (HB20.out.neT HBX.out (by decide)))
        refine hK.out _ _ hx9 (fun hH=>?_)
        clear hK K
        refine Jz ?_
        go_wp2_with fail
        go_meet
        exact hfin
       ·
        go_simp
        have hx:=ext_alloc W5 (.cells #[.slice none 0 0,.slice none 0 0,.slice none 0 0] 26)
        have HBX:=Jh (Blk.new W5 #[.slice none 0 0,.slice none 0 0,.slice none 0 0] 26)
        obtain ⟨BX,hB⟩:∃ B,W5.heap.size=B:=⟨_,rfl⟩
        have HSBX:=Jh (show w2.heap.size<=BX from hB ▸ hH.size)
        rw [hB] at HBX ⊢
        clear hB
        have HB3:=Jh (HB3.out.ext hx)
        have HB18:=Jh (HB18.out.ext hx)
        have HB20:=Jh (HB20.out.ext hx)
        refine hK.out _ _ (hH.trans hx) (fun hH=>?_)
        clear hK K hx
        generalize W5.alloc _=W9 at *
        try simp only [J]
        (refine Jr 21 rfl fun K hK=>?_)
        go_simp
        refine (with_callsB (HSG.out W9 hH) HPO.out HCO.out (HTS.out W9 hH HB3.out HB18.out HB20.out)).mono ?_
        rintro r W10 ⟨B2,rfl,hb2,hx⟩
        have HB2:=Jh hb2
        clear hb2
        have HB3:=Jh (HB3.out.ext hx)
        have HBX:=Jh (HBX.out.ext hx)
        have HB18:=Jh (HB18.out.ext hx)
        have HB20:=Jh (HB20.out.ext hx)
        refine hK.out _ _ (hH.trans hx) (fun hH=>?_)
        clear hK K hx
        try simp only [J]
        (refine Jr 23 rfl fun K hK=>?_)
        refine step_store_blk' rfl 26 _ _ rfl HBX.out rfl (cs:=[sv,.slice (some ⟨B2,0,none⟩) 1 1,.slice none 0 0]) rfl agg_Flat rfl rfl (by rw [List.all_cons,HSO.out];rfl) ?_
        intro W11 hb9 hg9
        have hx9:=hH.grown hg9 HSBX.out
        have hfin:=HFIN.out _ _ _ _ _ _ hx9 hb9 (HB2.out.grown hg9 (HB2.out.neT HBX.out (by decide))) (HB3.out.grown hg9 (HB3.out.neT HBX.out (by decide))) (HB18.out.grown hg9 (HB18.out.neT HBX.out (by decide))) (HB20.out.grown hg9 (HB20.out.neT HBX.out (by decide)))
        refine hK.out _ _ hx9 (fun hH=>?_)
        clear hK K
        refine Jz ?_
        go_wp2_with fail
        go_meet
        exact hfin
      ·
       go_simp
       have hx:=ext_alloc W4 (.cells #[.slice none 0 0,.slice none 0 0,.slice none 0 0] 26)
       have HBX:=Jh (Blk.new W4 #[.slice none 0 0,.slice none 0 0,.slice none 0 0] 26)
       obtain ⟨BX,hB⟩:∃ B,W4.heap.size=B:=⟨_,rfl⟩
       have HSBX:=Jh (show w2.heap.size<=BX from hB ▸ hH.size)
       rw [hB] at HBX ⊢
       clear hB
       have HB3:=Jh (HB3.out.ext hx)
       have HB18:=Jh (HB18.out.ext hx)
       refine hK.out _ _ (hH.trans hx) (fun hH=>?_)
       clear hK K hx
       generalize W4.alloc _=W12 at *
       try simp only [J]
       (refine Jr 20 rfl fun K hK=>?_)
       refine step_bs1 rfl _ _ rfl appT rfl (cs:=[.int .i64 2,.int .i64 0,.int .i64 0,.int .i64 0,.slice (some ⟨B3,0,none⟩) 1 1,.slice (some ⟨B18,0,none⟩) 2 2]) rfl rfl (by decide) ?_
       have hx:=ext_alloc W12 (.cells ([.int .i64 2,.int .i64 0,.int .i64 0,.int .i64 0,.slice (some ⟨B3,0,none⟩) 1 1,.slice (some ⟨B18,0,none⟩) 2 2]).toArray 39)
       have HB20:=Jh (Blk.new W12 ([.int .i64 2,.int .i64 0,.int .i64 0,.int .i64 0,.slice (some ⟨B3,0,none⟩) 1 1,.slice (some ⟨B18,0,none⟩) 2 2]).toArray 39)
       obtain ⟨B20,hB⟩:∃ B,W12.heap.size=B:=⟨_,rfl⟩
       have HSB20:=Jh (show w2.heap.size<=B20 from hB ▸ hH.size)
       rw [hB] at HB20 ⊢
       clear hB
       have HB3:=Jh (HB3.out.ext hx)
       have HBX:=Jh (HBX.out.ext hx)
       have HB18:=Jh (HB18.out.ext hx)
       refine hK.out _ _ (hH.trans hx) (fun hH=>?_)
       clear hK K hx
       generalize W12.alloc _=W13 at *
       try simp only [J]
       (refine Jr 21 rfl fun K hK=>?_)
       go_simp
       refine (with_callsB (HSG.out W13 hH) HPO.out HCO.out (HTS.out W13 hH HB3.out HB18.out HB20.out)).mono ?_
       rintro r W14 ⟨B2,rfl,hb2,hx⟩
       have HB2:=Jh hb2
       clear hb2
       have HB3:=Jh (HB3.out.ext hx)
       have HBX:=Jh (HBX.out.ext hx)
       have HB18:=Jh (HB18.out.ext hx)
       have HB20:=Jh (HB20.out.ext hx)
       refine hK.out _ _ (hH.trans hx) (fun hH=>?_)
       clear hK K hx
       try simp only [J]
       (refine Jr 23 rfl fun K hK=>?_)
       refine step_store_blk' rfl 26 _ _ rfl HBX.out rfl (cs:=[sv,.slice (some ⟨B2,0,none⟩) 1 1,.slice none 0 0]) rfl agg_Flat rfl rfl (by rw [List.all_cons,HSO.out];rfl) ?_
       intro W15 hb9 hg9
       have hx9:=hH.grown hg9 HSBX.out
       have hfin:=HFIN.out _ _ _ _ _ _ hx9 hb9 (HB2.out.grown hg9 (HB2.out.neT HBX.out (by decide))) (HB3.out.grown hg9 (HB3.out.neT HBX.out (by decide))) (HB18.out.grown hg9 (HB18.out.neT HBX.out (by decide))) (HB20.out.grown hg9 (HB20.out.neT HBX.out (by decide)))
       refine hK.out _ _ hx9 (fun hH=>?_)
       clear hK K
       refine Jz ?_
       go_wp2_with fail
       go_meet
       exact hfin
     ·
      go_simp
      have hx:=ext_alloc W3 (.cells #[.slice none 0 0,.slice none 0 0,.slice none 0 0] 26)
      have HBX:=Jh (Blk.new W3 #[.slice none 0 0,.slice none 0 0,.slice none 0 0] 26)
      obtain ⟨BX,hB⟩:∃ B,W3.heap.size=B:=⟨_,rfl⟩
      have HSBX:=Jh (show w2.heap.size<=BX from hB ▸ hH.size)
      rw [hB] at HBX ⊢
      clear hB
      have HB3:=Jh (HB3.out.ext hx)
      refine hK.out _ _ (hH.trans hx) (fun hH=>?_)
      clear hK K hx
      generalize W3.alloc _=W16 at *
      try simp only [J]
      (refine Jr 18 rfl fun K hK=>?_)
      refine step_bsN rfl _ 2 _ rfl appT (vs:=[.agg [.int .i64 5,.int .i64 0,.int .i64 0,.int .i64 0,.slice none 0 0,.slice la Pp.l.length lc].toArray,.agg [.int .i64 5,.int .i64 0,.int .i64 0,.int .i64 0,.slice none 0 0,.slice ma Pq.l.length mc].toArray]) rfl rfl (css:=[[.int .i64 5,.int .i64 0,.int .i64 0,.int .i64 0,.slice none 0 0,.slice la Pp.l.length lc],[.int .i64 5,.int .i64 0,.int .i64 0,.int .i64 0,.slice none 0 0,.slice ma Pq.l.length mc]]) rfl (by simp) (by decide) (by decide) ?_
      have hx:=ext_alloc W16 (.cells ([[.int .i64 5,.int .i64 0,.int .i64 0,.int .i64 0,.slice none 0 0,.slice la Pp.l.length lc],[.int .i64 5,.int .i64 0,.int .i64 0,.int .i64 0,.slice none 0 0,.slice ma Pq.l.length mc]].flatten.toArray) 39)
      have HB18:=Jh (Blk.new W16 ([[.int .i64 5,.int .i64 0,.int .i64 0,.int .i64 0,.slice none 0 0,.slice la Pp.l.length lc],[.int .i64 5,.int .i64 0,.int .i64 0,.int .i64 0,.slice none 0 0,.slice ma Pq.l.length mc]].flatten.toArray) 39)
      obtain ⟨B18,hB⟩:∃ B,W16.heap.size=B:=⟨_,rfl⟩
      have HSB18:=Jh (show w2.heap.size<=B18 from hB ▸ hH.size)
      rw [hB] at HB18 ⊢
      clear hB
      have HB3:=Jh (HB3.out.ext hx)
      have HBX:=Jh (HBX.out.ext hx)
      refine hK.out _ _ (hH.trans hx) (fun hH=>?_)
      clear hK K hx
      generalize W16.alloc _=W17 at *
      try simp only [J]
      (refine Jt 19 (.agg #[.int .i64 2,.int .i64 0,.int .i64 0,.int .i64 0,.slice (some ⟨B3,0,none⟩) 1 1,.slice (some ⟨B18,0,none⟩) 2 2]) rfl (yif_load1 rfl (by intro W hW;clear hW;go_simp)) hH ?_;try simp only [J])
      (refine Jr 20 rfl fun K hK=>?_)
      refine step_bs1 rfl _ _ rfl appT rfl (cs:=[.int .i64 2,.int .i64 0,.int .i64 0,.int .i64 0,.slice (some ⟨B3,0,none⟩) 1 1,.slice (some ⟨B18,0,none⟩) 2 2]) rfl rfl (by decide) ?_
      have hx:=ext_alloc W17 (.cells ([.int .i64 2,.int .i64 0,.int .i64 0,.int .i64 0,.slice (some ⟨B3,0,none⟩) 1 1,.slice (some ⟨B18,0,none⟩) 2 2]).toArray 39)
      have HB20:=Jh (Blk.new W17 ([.int .i64 2,.int .i64 0,.int .i64 0,.int .i64 0,.slice (some ⟨B3,0,none⟩) 1 1,.slice (some ⟨B18,0,none⟩) 2 2]).toArray 39)
      obtain ⟨B20,hB⟩:∃ B,W17.heap.size=B:=⟨_,rfl⟩
      have HSB20:=Jh (show w2.heap.size<=B20 from hB ▸ hH.size)
      rw [hB] at HB20 ⊢
      clear hB
      have HB3:=Jh (HB3.out.ext hx)
      have HBX:=Jh (HBX.out.ext hx)
      have HB18:=Jh (HB18.out.ext hx)
      refine hK.out _ _ (hH.trans hx) (fun hH=>?_)
      clear hK K hx
      generalize W17.alloc _=W18 at *
      try simp only [J]
      (refine Jr 21 rfl fun K hK=>?_)
      go_simp
      refine (with_callsB (HSG.out W18 hH) HPO.out HCO.out (HTS.out W18 hH HB3.out HB18.out HB20.out)).mono ?_
      rintro r W19 ⟨B2,rfl,hb2,hx⟩
      have HB2:=Jh hb2
      clear hb2
      have HB3:=Jh (HB3.out.ext hx)
      have HBX:=Jh (HBX.out.ext hx)
      have HB18:=Jh (HB18.out.ext hx)
      have HB20:=Jh (HB20.out.ext hx)
      refine hK.out _ _ (hH.trans hx) (fun hH=>?_)
      clear hK K hx
      try simp only [J]
      (refine Jr 23 rfl fun K hK=>?_)
      refine step_store_blk' rfl 26 _ _ rfl HBX.out rfl (cs:=[sv,.slice (some ⟨B2,0,none⟩) 1 1,.slice none 0 0]) rfl agg_Flat rfl rfl (by rw [List.all_cons,HSO.out];rfl) ?_
      intro W20 hb9 hg9
      have hx9:=hH.grown hg9 HSBX.out
      have hfin:=HFIN.out _ _ _ _ _ _ hx9 hb9 (HB2.out.grown hg9 (HB2.out.neT HBX.out (by decide))) (HB3.out.grown hg9 (HB3.out.neT HBX.out (by decide))) (HB18.out.grown hg9 (HB18.out.neT HBX.out (by decide))) (HB20.out.grown hg9 (HB20.out.neT HBX.out (by decide)))
      refine hK.out _ _ hx9 (fun hH=>?_)
      clear hK K
      refine Jz ?_
      go_wp2_with fail
      go_meet
      exact hfin
    ·
     go_simp
     have hx:=ext_alloc W2 (.cells #[.slice none 0 0,.slice none 0 0,.slice none 0 0] 26)
     have HBX:=Jh (Blk.new W2 #[.slice none 0 0,.slice none 0 0,.slice none 0 0] 26)
     obtain ⟨BX,hB⟩:∃ B,W2.heap.size=B:=⟨_,rfl⟩
     have HSBX:=Jh (show w2.heap.size<=BX from hB ▸ hH.size)
     rw [hB] at HBX ⊢
     clear hB
     have HB3:=Jh (HB3.out.ext hx)
     refine hK.out _ _ (hH.trans hx) (fun hH=>?_)
     clear hK K hx
     generalize W2.alloc _=W21 at *
     try simp only [J]
     (refine Jr 17 rfl fun K hK=>?_)
     go_simp
     refine (block11_calls ma Pq.l.length mc _).mono ?_
     rintro r W22 ⟨rfl,hx⟩
     have HB3:=Jh (HB3.out.ext hx)
     have HBX:=Jh (HBX.out.ext hx)
     refine hK.out _ _ (hH.trans hx) (fun hH=>?_)
     clear hK K hx
     try simp only [J]
     (refine Jr 18 rfl fun K hK=>?_)
     refine step_bsN rfl _ 2 _ rfl appT (vs:=[.agg [.int .i64 5,.int .i64 0,.int .i64 0,.int .i64 0,.slice none 0 0,.slice la Pp.l.length lc].toArray,.agg [.int .i64 5,.int .i64 0,.int .i64 0,.int .i64 0,.slice none 0 0,.slice ma Pq.l.length mc].toArray]) rfl rfl (css:=[[.int .i64 5,.int .i64 0,.int .i64 0,.int .i64 0,.slice none 0 0,.slice la Pp.l.length lc],[.int .i64 5,.int .i64 0,.int .i64 0,.int .i64 0,.slice none 0 0,.slice ma Pq.l.length mc]]) rfl (by simp) (by decide) (by decide) ?_
     have hx:=ext_alloc W22 (.cells ([[.int .i64 5,.int .i64 0,.int .i64 0,.int .i64 0,.slice none 0 0,.slice la Pp.l.length lc],[.int .i64 5,.int .i64 0,.int .i64 0,.int .i64 0,.slice none 0 0,.slice ma Pq.l.length mc]].flatten.toArray) 39)
     have HB18:=Jh (Blk.new W22 ([[.int .i64 5,.int .i64 0,.int .i64 0,.int .i64 0,.slice none 0 0,.slice la Pp.l.length lc],[.int .i64 5,.int .i64 0,.int .i64 0,.int .i64 0,.slice none 0 0,.slice ma Pq.l.length mc]].flatten.toArray) 39)
     obtain ⟨B18,hB⟩:∃ B,W22.heap.size=B:=⟨_,rfl⟩
     have HSB18:=Jh (show w2.heap.size<=B18 from hB ▸ hH.size)
     rw [hB] at HB18 ⊢
     clear hB
     have HB3:=Jh (HB3.out.ext hx)
     have HBX:=Jh (HBX.out.ext hx)
     refine hK.out _ _ (hH.trans hx) (fun hH=>?_)
     clear hK K hx
     generalize W22.alloc _=W23 at *
     try simp only [J]
     (refine Jt 19 (.agg #[.int .i64 2,.int .i64 0,.int .i64 0,.int .i64 0,.slice (some ⟨B3,0,none⟩) 1 1,.slice (some ⟨B18,0,none⟩) 2 2]) rfl (yif_load1 rfl (by intro W hW;clear hW;go_simp)) hH ?_;try simp only [J])
     (refine Jr 20 rfl fun K hK=>?_)
     refine step_bs1 rfl _ _ rfl appT rfl (cs:=[.int .i64 2,.int .i64 0,.int .i64 0,.int .i64 0,.slice (some ⟨B3,0,none⟩) 1 1,.slice (some ⟨B18,0,none⟩) 2 2]) rfl rfl (by decide) ?_
     have hx:=ext_alloc W23 (.cells ([.int .i64 2,.int .i64 0,.int .i64 0,.int .i64 0,.slice (some ⟨B3,0,none⟩) 1 1,.slice (some ⟨B18,0,none⟩) 2 2]).toArray 39)
     have HB20:=Jh (Blk.new W23 ([.int .i64 2,.int .i64 0,.int .i64 0,.int .i64 0,.slice (some ⟨B3,0,none⟩) 1 1,.slice (some ⟨B18,0,none⟩) 2 2]).toArray 39)
     obtain ⟨B20,hB⟩:∃ B,W23.heap.size=B:=⟨_,rfl⟩
     have HSB20:=Jh (show w2.heap.size<=B20 from hB ▸ hH.size)
     rw [hB] at HB20 ⊢
     clear hB
     have HB3:=Jh (HB3.out.ext hx)
     have HBX:=Jh (HBX.out.ext hx)
     have HB18:=Jh (HB18.out.ext hx)
     refine hK.out _ _ (hH.trans hx) (fun hH=>?_)
     clear hK K hx
     generalize W23.alloc _=W24 at *
     try simp only [J]
     (refine Jr 21 rfl fun K hK=>?_)
     go_simp
     refine (with_callsB (HSG.out W24 hH) HPO.out HCO.out (HTS.out W24 hH HB3.out HB18.out HB20.out)).mono ?_
     rintro r W25 ⟨B2,rfl,hb2,hx⟩
     have HB2:=Jh hb2
     clear hb2
     have HB3:=Jh (HB3.out.ext hx)
     have HBX:=Jh (HBX.out.ext hx)
     have HB18:=Jh (HB18.out.ext hx)
     have HB20:=Jh (HB20.out.ext hx)
     refine hK.out _ _ (hH.trans hx) (fun hH=>?_)
     clear hK K hx
     try simp only [J]
     (refine Jr 23 rfl fun K hK=>?_)
     refine step_store_blk' rfl 26 _ _ rfl HBX.out rfl (cs:=[sv,.slice (some ⟨B2,0,none⟩) 1 1,.slice none 0 0]) rfl agg_Flat rfl rfl (by rw [List.all_cons,HSO.out];rfl) ?_
     intro W26 hb9 hg9
     have hx9:=hH.grown hg9 HSBX.out
     have hfin:=HFIN.out _ _ _ _ _ _ hx9 hb9 (HB2.out.grown hg9 (HB2.out.neT HBX.out (by decide))) (HB3.out.grown hg9 (HB3.out.neT HBX.out (by decide))) (HB18.out.grown hg9 (HB18.out.neT HBX.out (by decide))) (HB20.out.grown hg9 (HB20.out.neT HBX.out (by decide)))
     refine hK.out _ _ hx9 (fun hH=>?_)
     clear hK K
     refine Jz ?_
     go_wp2_with fail
     go_meet
     exact hfin
   ·
    go_simp
    have hx:=ext_alloc W1 (.cells #[.slice none 0 0,.slice none 0 0,.slice none 0 0] 26)
    have HBX:=Jh (Blk.new W1 #[.slice none 0 0,.slice none 0 0,.slice none 0 0] 26)
    obtain ⟨BX,hB⟩:∃ B,W1.heap.size=B:=⟨_,rfl⟩
    have HSBX:=Jh (show w2.heap.size<=BX from hB ▸ hH.size)
    rw [hB] at HBX ⊢
    clear hB
    have HB3:=Jh (HB3.out.ext hx)
    refine hK.out _ _ (hH.trans hx) (fun hH=>?_)
    clear hK K hx
    generalize W1.alloc _=W27 at *
    try simp only [J]
    (refine Jr 10 rfl fun K hK=>?_)
    go_simp
    refine (block11_calls la Pp.l.length lc _).mono ?_
    rintro r W28 ⟨rfl,hx⟩
    have HB3:=Jh (HB3.out.ext hx)
    have HBX:=Jh (HBX.out.ext hx)
    refine hK.out _ _ (hH.trans hx) (fun hH=>?_)
    clear hK K hx
    try simp only [J]
    (refine Jr 17 rfl fun K hK=>?_)
    go_simp
    refine (block11_calls ma Pq.l.length mc _).mono ?_
    rintro r W29 ⟨rfl,hx⟩
    have HB3:=Jh (HB3.out.ext hx)
    have HBX:=Jh (HBX.out.ext hx)
    refine hK.out _ _ (hH.trans hx) (fun hH=>?_)
    clear hK K hx
    try simp only [J]
    (refine Jr 18 rfl fun K hK=>?_)
    refine step_bsN rfl _ 2 _ rfl appT (vs:=[.agg [.int .i64 5,.int .i64 0,.int .i64 0,.int .i64 0,.slice none 0 0,.slice la Pp.l.length lc].toArray,.agg [.int .i64 5,.int .i64 0,.int .i64 0,.int .i64 0,.slice none 0 0,.slice ma Pq.l.length mc].toArray]) rfl rfl (css:=[[.int .i64 5,.int .i64 0,.int .i64 0,.int .i64 0,.slice none 0 0,.slice la Pp.l.length lc],[.int .i64 5,.int .i64 0,.int .i64 0,.int .i64 0,.slice none 0 0,.slice ma Pq.l.length mc]]) rfl (by simp) (by decide) (by decide) ?_
    have hx:=ext_alloc W29 (.cells ([[.int .i64 5,.int .i64 0,.int .i64 0,.int .i64 0,.slice none 0 0,.slice la Pp.l.length lc],[.int .i64 5,.int .i64 0,.int .i64 0,.int .i64 0,.slice none 0 0,.slice ma Pq.l.length mc]].flatten.toArray) 39)
    have HB18:=Jh (Blk.new W29 ([[.int .i64 5,.int .i64 0,.int .i64 0,.int .i64 0,.slice none 0 0,.slice la Pp.l.length lc],[.int .i64 5,.int .i64 0,.int .i64 0,.int .i64 0,.slice none 0 0,.slice ma Pq.l.length mc]].flatten.toArray) 39)
    obtain ⟨B18,hB⟩:∃ B,W29.heap.size=B:=⟨_,rfl⟩
    have HSB18:=Jh (show w2.heap.size<=B18 from hB ▸ hH.size)
    rw [hB] at HB18 ⊢
    clear hB
    have HB3:=Jh (HB3.out.ext hx)
    have HBX:=Jh (HBX.out.ext hx)
    refine hK.out _ _ (hH.trans hx) (fun hH=>?_)
    clear hK K hx
    generalize W29.alloc _=W30 at *
    try simp only [J]
    (refine Jt 19 (.agg #[.int .i64 2,.int .i64 0,.int .i64 0,.int .i64 0,.slice (some ⟨B3,0,none⟩) 1 1,.slice (some ⟨B18,0,none⟩) 2 2]) rfl (yif_load1 rfl (by intro W hW;clear hW;go_simp)) hH ?_;try simp only [J])
    (refine Jr 20 rfl fun K hK=>?_)
    refine step_bs1 rfl _ _ rfl appT rfl (cs:=[.int .i64 2,.int .i64 0,.int .i64 0,.int .i64 0,.slice (some ⟨B3,0,none⟩) 1 1,.slice (some ⟨B18,0,none⟩) 2 2]) rfl rfl (by decide) ?_
    have hx:=ext_alloc W30 (.cells ([.int .i64 2,.int .i64 0,.int .i64 0,.int .i64 0,.slice (some ⟨B3,0,none⟩) 1 1,.slice (some ⟨B18,0,none⟩) 2 2]).toArray 39)
    have HB20:=Jh (Blk.new W30 ([.int .i64 2,.int .i64 0,.int .i64 0,.int .i64 0,.slice (some ⟨B3,0,none⟩) 1 1,.slice (some ⟨B18,0,none⟩) 2 2]).toArray 39)
    obtain ⟨B20,hB⟩:∃ B,W30.heap.size=B:=⟨_,rfl⟩
    have HSB20:=Jh (show w2.heap.size<=B20 from hB ▸ hH.size)
    rw [hB] at HB20 ⊢
    clear hB
    have HB3:=Jh (HB3.out.ext hx)
    have HBX:=Jh (HBX.out.ext hx)
    have HB18:=Jh (HB18.out.ext hx)
    refine hK.out _ _ (hH.trans hx) (fun hH=>?_)
    clear hK K hx
    generalize W30.alloc _=W31 at *
    try simp only [J]
    (refine Jr 21 rfl fun K hK=>?_)
    go_simp
    refine (with_callsB (HSG.out W31 hH) HPO.out HCO.out (HTS.out W31 hH HB3.out HB18.out HB20.out)).mono ?_
    rintro r W32 ⟨B2,rfl,hb2,hx⟩
    have HB2:=Jh hb2
    clear hb2
    have HB3:=Jh (HB3.out.ext hx)
    have HBX:=Jh (HBX.out.ext hx)
    have HB18:=Jh (HB18.out.ext hx)
    have HB20:=Jh (HB20.out.ext hx)
    refine hK.out _ _ (hH.trans hx) (fun hH=>?_)
    clear hK K hx
    try simp only [J]
    (refine Jr 23 rfl fun K hK=>?_)
    refine step_store_blk' rfl 26 _ _ rfl HBX.out rfl (cs:=[sv,.slice (some ⟨B2,0,none⟩) 1 1,.slice none 0 0]) rfl agg_Flat rfl rfl (by rw [List.all_cons,HSO.out];rfl) ?_
    intro W33 hb9 hg9
    have hx9:=hH.grown hg9 HSBX.out
    have hfin:=HFIN.out _ _ _ _ _ _ hx9 hb9 (HB2.out.grown hg9 (HB2.out.neT HBX.out (by decide))) (HB3.out.grown hg9 (HB3.out.neT HBX.out (by decide))) (HB18.out.grown hg9 (HB18.out.neT HBX.out (by decide))) (HB20.out.grown hg9 (HB20.out.neT HBX.out (by decide)))
    refine hK.out _ _ hx9 (fun hH=>?_)
    clear hK K
    refine Jz ?_
    go_wp2_with fail
    go_meet
    exact hfin
  ·
   go_simp
   refine (block11_calls la Pp.l.length lc _).mono ?_
   rintro r W34 ⟨rfl,hx⟩
   refine hK.out _ _ (hH.trans hx) (fun hH=>?_)
   clear hK K hx
   try simp only [J]
   refine wpAnyH_ready (rs:=[3,17,22]) (by kernel_rfl) (by simp) ?_
   refine AllReadyH.cons rfl (fun K hK=>?_) (AllReadyH.cons rfl (fun K hK=>?_) (AllReadyH.cons rfl (fun K hK=>?_) (AllReadyH.nil)))
   ·
    refine step_bs1 rfl _ _ rfl appE rfl (cs:=e.cells s0) rfl rfl (by decide) ?_
    have hx:=ext_alloc W34 (.cells (e.cells s0).toArray 31)
    have HB3:=Jh (Blk.new W34 (e.cells s0).toArray 31)
    obtain ⟨B3,hB⟩:∃ B,W34.heap.size=B:=⟨_,rfl⟩
    have HSB3:=Jh (show w2.heap.size<=B3 from hB ▸ hH.size)
    rw [hB] at HB3 ⊢
    clear hB
    refine hK.out _ _ (hH.trans hx) (fun hH=>?_)
    clear hK K hx
    generalize W34.alloc _=W35 at *
    try simp only [J]
    refine wpAnyH_ready (rs:=[17,22]) (by kernel_rfl) (by simp) ?_
    refine AllReadyH.cons rfl (fun K hK=>?_) (AllReadyH.cons rfl (fun K hK=>?_) (AllReadyH.nil))
    ·
     go_simp
     refine (block11_calls ma Pq.l.length mc _).mono ?_
     rintro r W36 ⟨rfl,hx⟩
     have HB3:=Jh (HB3.out.ext hx)
     refine hK.out _ _ (hH.trans hx) (fun hH=>?_)
     clear hK K hx
     try simp only [J]
     refine wpAnyH_ready (rs:=[18,22]) (by kernel_rfl) (by simp) ?_
     refine AllReadyH.cons rfl (fun K hK=>?_) (AllReadyH.cons rfl (fun K hK=>?_) (AllReadyH.nil))
     ·
      refine step_bsN rfl _ 2 _ rfl appT (vs:=[.agg [.int .i64 5,.int .i64 0,.int .i64 0,.int .i64 0,.slice none 0 0,.slice la Pp.l.length lc].toArray,.agg [.int .i64 5,.int .i64 0,.int .i64 0,.int .i64 0,.slice none 0 0,.slice ma Pq.l.length mc].toArray]) rfl rfl (css:=[[.int .i64 5,.int .i64 0,.int .i64 0,.int .i64 0,.slice none 0 0,.slice la Pp.l.length lc],[.int .i64 5,.int .i64 0,.int .i64 0,.int .i64 0,.slice none 0 0,.slice ma Pq.l.length mc]]) rfl (by simp) (by decide) (by decide) ?_
      have hx:=ext_alloc W36 (.cells ([[.int .i64 5,.int .i64 0,.int .i64 0,.int .i64 0,.slice none 0 0,.slice la Pp.l.length lc],[.int .i64 5,.int .i64 0,.int .i64 0,.int .i64 0,.slice none 0 0,.slice ma Pq.l.length mc]].flatten.toArray) 39)
      have HB18:=Jh (Blk.new W36 ([[.int .i64 5,.int .i64 0,.int .i64 0,.int .i64 0,.slice none 0 0,.slice la Pp.l.length lc],[.int .i64 5,.int .i64 0,.int .i64 0,.int .i64 0,.slice none 0 0,.slice ma Pq.l.length mc]].flatten.toArray) 39)
      obtain ⟨B18,hB⟩:∃ B,W36.heap.size=B:=⟨_,rfl⟩
      have HSB18:=Jh (show w2.heap.size<=B18 from hB ▸ hH.size)
      rw [hB] at HB18 ⊢
      clear hB
      have HB3:=Jh (HB3.out.ext hx)
      refine hK.out _ _ (hH.trans hx) (fun hH=>?_)
      clear hK K hx
      generalize W36.alloc _=W37 at *
      try simp only [J]
      (refine Jt 19 (.agg #[.int .i64 2,.int .i64 0,.int .i64 0,.int .i64 0,.slice (some ⟨B3,0,none⟩) 1 1,.slice (some ⟨B18,0,none⟩) 2 2]) rfl (yif_load1 rfl (by intro W hW;clear hW;go_simp)) hH ?_;try simp only [J])
      refine wpAnyH_ready (rs:=[20,22]) (by kernel_rfl) (by simp) ?_
      refine AllReadyH.cons rfl (fun K hK=>?_) (AllReadyH.cons rfl (fun K hK=>?_) (AllReadyH.nil))
      ·
       refine step_bs1 rfl _ _ rfl appT rfl (cs:=[.int .i64 2,.int .i64 0,.int .i64 0,.int .i64 0,.slice (some ⟨B3,0,none⟩) 1 1,.slice (some ⟨B18,0,none⟩) 2 2]) rfl rfl (by decide) ?_
       have hx:=ext_alloc W37 (.cells ([.int .i64 2,.int .i64 0,.int .i64 0,.int .i64 0,.slice (some ⟨B3,0,none⟩) 1 1,.slice (some ⟨B18,0,none⟩) 2 2]).toArray 39)
       have HB20:=Jh (Blk.new W37 ([.int .i64 2,.int .i64 0,.int .i64 0,.int .i64 0,.slice (some ⟨B3,0,none⟩) 1 1,.slice (some ⟨B18,0,none⟩) 2 2]).toArray 39)
       obtain ⟨B20,hB⟩:∃ B,W37.heap.size=B:=⟨_,rfl⟩
       have HSB20:=Jh (show w2.heap.size<=B20 from hB ▸ hH.size)
       rw [hB] at HB20 ⊢
       clear hB
       have HB3:=Jh (HB3.out.ext hx)
       have HB18:=Jh (HB18.out.ext hx)
       refine hK.out _ _ (hH.trans hx) (fun hH=>?_)
       clear hK K hx
       generalize W37.alloc _=W38 at *
       try simp only [J]
       refine wpAnyH_ready (rs:=[21,22]) (by kernel_rfl) (by simp) ?_
       refine AllReadyH.cons rfl (fun K hK=>?_) (AllReadyH.cons rfl (fun K hK=>?_) (AllReadyH.nil))
       ·
        go_simp
        refine (with_callsB (HSG.out W38 hH) HPO.out HCO.out (HTS.out W38 hH HB3.out HB18.out HB20.out)).mono ?_
        rintro r W39 ⟨B2,rfl,hb2,hx⟩
        have HB2:=Jh hb2
        clear hb2
        have HB3:=Jh (HB3.out.ext hx)
        have HB18:=Jh (HB18.out.ext hx)
        have HB20:=Jh (HB20.out.ext hx)
        refine hK.out _ _ (hH.trans hx) (fun hH=>?_)
        clear hK K hx
        try simp only [J]
        (refine Jr 22 rfl fun K hK=>?_)
        go_simp
        have hx:=ext_alloc W39 (.cells #[.slice none 0 0,.slice none 0 0,.slice none 0 0] 26)
        have HBX:=Jh (Blk.new W39 #[.slice none 0 0,.slice none 0 0,.slice none 0 0] 26)
        obtain ⟨BX,hB⟩:∃ B,W39.heap.size=B:=⟨_,rfl⟩
        have HSBX:=Jh (show w2.heap.size<=BX from hB ▸ hH.size)
        rw [hB] at HBX ⊢
        clear hB
        have HB3:=Jh (HB3.out.ext hx)
        have HB18:=Jh (HB18.out.ext hx)
        have HB20:=Jh (HB20.out.ext hx)
        have HB2:=Jh (HB2.out.ext hx)
        refine hK.out _ _ (hH.trans hx) (fun hH=>?_)
        clear hK K hx
        generalize W39.alloc _=W40 at *
        try simp only [J]
        (refine Jr 23 rfl fun K hK=>?_)
        refine step_store_blk' rfl 26 _ _ rfl HBX.out rfl (cs:=[sv,.slice (some ⟨B2,0,none⟩) 1 1,.slice none 0 0]) rfl agg_Flat rfl rfl (by rw [List.all_cons,HSO.out];rfl) ?_
        intro W41 hb9 hg9
        have hx9:=hH.grown hg9 HSBX.out
        have hfin:=HFIN.out _ _ _ _ _ _ hx9 hb9 (HB2.out.grown hg9 (HB2.out.neT HBX.out (by decide))) (HB3.out.grown hg9 (HB3.out.neT HBX.out (by decide))) (HB18.out.grown hg9 (HB18.out.neT HBX.out (by decide))) (HB20.out.grown hg9 (HB20.out.neT HBX.out (by decide)))
        refine hK.out _ _ hx9 (fun hH=>?_)
        clear hK K
        refine Jz ?_
        go_wp2_with fail
        go_meet
        exact hfin
       ·
        go_simp
        have hx:=ext_alloc W38 (.cells #[.slice none 0 0,.slice none 0 0,.slice none 0 0] 26)
        have HBX:=Jh (Blk.new W38 #[.slice none 0 0,.slice none 0 0,.slice none 0 0] 26)
        obtain ⟨BX,hB⟩:∃ B,W38.heap.size=B:=⟨_,rfl⟩
        have HSBX:=Jh (show w2.heap.size<=BX from hB ▸ hH.size)
        rw [hB] at HBX ⊢
        clear hB
        have HB3:=Jh (HB3.out.ext hx)
        have HB18:=Jh (HB18.out.ext hx)
        have HB20:=Jh (HB20.out.ext hx)
        refine hK.out _ _ (hH.trans hx) (fun hH=>?_)
        clear hK K hx
        generalize W38.alloc _=W42 at *
        try simp only [J]
        (refine Jr 21 rfl fun K hK=>?_)
        go_simp
        refine (with_callsB (HSG.out W42 hH) HPO.out HCO.out (HTS.out W42 hH HB3.out HB18.out HB20.out)).mono ?_
        rintro r W43 ⟨B2,rfl,hb2,hx⟩
        have HB2:=Jh hb2
        clear hb2
        have HB3:=Jh (HB3.out.ext hx)
        have HBX:=Jh (HBX.out.ext hx)
        have HB18:=Jh (HB18.out.ext hx)
        have HB20:=Jh (HB20.out.ext hx)
        refine hK.out _ _ (hH.trans hx) (fun hH=>?_)
        clear hK K hx
        try simp only [J]
        (refine Jr 23 rfl fun K hK=>?_)
        refine step_store_blk' rfl 26 _ _ rfl HBX.out rfl (cs:=[sv,.slice (some ⟨B2,0,none⟩) 1 1,.slice none 0 0]) rfl agg_Flat rfl rfl (by rw [List.all_cons,HSO.out];rfl) ?_
        intro W44 hb9 hg9
        have hx9:=hH.grown hg9 HSBX.out
        have hfin:=HFIN.out _ _ _ _ _ _ hx9 hb9 (HB2.out.grown hg9 (HB2.out.neT HBX.out (by decide))) (HB3.out.grown hg9 (HB3.out.neT HBX.out (by decide))) (HB18.out.grown hg9 (HB18.out.neT HBX.out (by decide))) (HB20.out.grown hg9 (HB20.out.neT HBX.out (by decide)))
        refine hK.out _ _ hx9 (fun hH=>?_)
        clear hK K
        refine Jz ?_
        go_wp2_with fail
        go_meet
        exact hfin
      ·
       go_simp
       have hx:=ext_alloc W37 (.cells #[.slice none 0 0,.slice none 0 0,.slice none 0 0] 26)
       have HBX:=Jh (Blk.new W37 #[.slice none 0 0,.slice none 0 0,.slice none 0 0] 26)
       obtain ⟨BX,hB⟩:∃ B,W37.heap.size=B:=⟨_,rfl⟩
       have HSBX:=Jh (show w2.heap.size<=BX from hB ▸ hH.size)
       rw [hB] at HBX ⊢
       clear hB
       have HB3:=Jh (HB3.out.ext hx)
       have HB18:=Jh (HB18.out.ext hx)
       refine hK.out _ _ (hH.trans hx) (fun hH=>?_)
       clear hK K hx
       generalize W37.alloc _=W45 at *
       try simp only [J]
       (refine Jr 20 rfl fun K hK=>?_)
       refine step_bs1 rfl _ _ rfl appT rfl (cs:=[.int .i64 2,.int .i64 0,.int .i64 0,.int .i64 0,.slice (some ⟨B3,0,none⟩) 1 1,.slice (some ⟨B18,0,none⟩) 2 2]) rfl rfl (by decide) ?_
       have hx:=ext_alloc W45 (.cells ([.int .i64 2,.int .i64 0,.int .i64 0,.int .i64 0,.slice (some ⟨B3,0,none⟩) 1 1,.slice (some ⟨B18,0,none⟩) 2 2]).toArray 39)
       have HB20:=Jh (Blk.new W45 ([.int .i64 2,.int .i64 0,.int .i64 0,.int .i64 0,.slice (some ⟨B3,0,none⟩) 1 1,.slice (some ⟨B18,0,none⟩) 2 2]).toArray 39)
       obtain ⟨B20,hB⟩:∃ B,W45.heap.size=B:=⟨_,rfl⟩
       have HSB20:=Jh (show w2.heap.size<=B20 from hB ▸ hH.size)
       rw [hB] at HB20 ⊢
       clear hB
       have HB3:=Jh (HB3.out.ext hx)
       have HBX:=Jh (HBX.out.ext hx)
       have HB18:=Jh (HB18.out.ext hx)
       refine hK.out _ _ (hH.trans hx) (fun hH=>?_)
       clear hK K hx
       generalize W45.alloc _=W46 at *
       try simp only [J]
       (refine Jr 21 rfl fun K hK=>?_)
       go_simp
       refine (with_callsB (HSG.out W46 hH) HPO.out HCO.out (HTS.out W46 hH HB3.out HB18.out HB20.out)).mono ?_
       rintro r W47 ⟨B2,rfl,hb2,hx⟩
       have HB2:=Jh hb2
       clear hb2
       have HB3:=Jh (HB3.out.ext hx)
       have HBX:=Jh (HBX.out.ext hx)
       have HB18:=Jh (HB18.out.ext hx)
       have HB20:=Jh (HB20.out.ext hx)
       refine hK.out _ _ (hH.trans hx) (fun hH=>?_)
       clear hK K hx
       try simp only [J]
       (refine Jr 23 rfl fun K hK=>?_)
       refine step_store_blk' rfl 26 _ _ rfl HBX.out rfl (cs:=[sv,.slice (some ⟨B2,0,none⟩) 1 1,.slice none 0 0]) rfl agg_Flat rfl rfl (by rw [List.all_cons,HSO.out];rfl) ?_
       intro W48 hb9 hg9
       have hx9:=hH.grown hg9 HSBX.out
       have hfin:=HFIN.out _ _ _ _ _ _ hx9 hb9 (HB2.out.grown hg9 (HB2.out.neT HBX.out (by decide))) (HB3.out.grown hg9 (HB3.out.neT HBX.out (by decide))) (HB18.out.grown hg9 (HB18.out.neT HBX.out (by decide))) (HB20.out.grown hg9 (HB20.out.neT HBX.out (by decide)))
       refine hK.out _ _ hx9 (fun hH=>?_)
       clear hK K
       refine Jz ?_
       go_wp2_with fail
       go_meet
       exact hfin
     ·
      go_simp
      have hx:=ext_alloc W36 (.cells #[.slice none 0 0,.slice none 0 0,.slice none 0 0] 26)
      have HBX:=Jh (Blk.new W36 #[.slice none 0 0,.slice none 0 0,.slice none 0 0] 26)
      obtain ⟨BX,hB⟩:∃ B,W36.heap.size=B:=⟨_,rfl⟩
      have HSBX:=Jh (show w2.heap.size<=BX from hB ▸ hH.size)
      rw [hB] at HBX ⊢
      clear hB
      have HB3:=Jh (HB3.out.ext hx)
      refine hK.out _ _ (hH.trans hx) (fun hH=>?_)
      clear hK K hx
      generalize W36.alloc _=W49 at *
      try simp only [J]
      (refine Jr 18 rfl fun K hK=>?_)
      refine step_bsN rfl _ 2 _ rfl appT (vs:=[.agg [.int .i64 5,.int .i64 0,.int .i64 0,.int .i64 0,.slice none 0 0,.slice la Pp.l.length lc].toArray,.agg [.int .i64 5,.int .i64 0,.int .i64 0,.int .i64 0,.slice none 0 0,.slice ma Pq.l.length mc].toArray]) rfl rfl (css:=[[.int .i64 5,.int .i64 0,.int .i64 0,.int .i64 0,.slice none 0 0,.slice la Pp.l.length lc],[.int .i64 5,.int .i64 0,.int .i64 0,.int .i64 0,.slice none 0 0,.slice ma Pq.l.length mc]]) rfl (by simp) (by decide) (by decide) ?_
      have hx:=ext_alloc W49 (.cells ([[.int .i64 5,.int .i64 0,.int .i64 0,.int .i64 0,.slice none 0 0,.slice la Pp.l.length lc],[.int .i64 5,.int .i64 0,.int .i64 0,.int .i64 0,.slice none 0 0,.slice ma Pq.l.length mc]].flatten.toArray) 39)
      have HB18:=Jh (Blk.new W49 ([[.int .i64 5,.int .i64 0,.int .i64 0,.int .i64 0,.slice none 0 0,.slice la Pp.l.length lc],[.int .i64 5,.int .i64 0,.int .i64 0,.int .i64 0,.slice none 0 0,.slice ma Pq.l.length mc]].flatten.toArray) 39)
      obtain ⟨B18,hB⟩:∃ B,W49.heap.size=B:=⟨_,rfl⟩
      have HSB18:=Jh (show w2.heap.size<=B18 from hB ▸ hH.size)
      rw [hB] at HB18 ⊢
      clear hB
      have HB3:=Jh (HB3.out.ext hx)
      have HBX:=Jh (HBX.out.ext hx)
      refine hK.out _ _ (hH.trans hx) (fun hH=>?_)
      clear hK K hx
      generalize W49.alloc _=W50 at *
      try simp only [J]
      (refine Jt 19 (.agg #[.int .i64 2,.int .i64 0,.int .i64 0,.int .i64 0,.slice (some ⟨B3,0,none⟩) 1 1,.slice (some ⟨B18,0,none⟩) 2 2]) rfl (yif_load1 rfl (by intro W hW;clear hW;go_simp)) hH ?_;try simp only [J])
      (refine Jr 20 rfl fun K hK=>?_)
      refine step_bs1 rfl _ _ rfl appT rfl (cs:=[.int .i64 2,.int .i64 0,.int .i64 0,.int .i64 0,.slice (some ⟨B3,0,none⟩) 1 1,.slice (some ⟨B18,0,none⟩) 2 2]) rfl rfl (by decide) ?_
      have hx:=ext_alloc W50 (.cells ([.int .i64 2,.int .i64 0,.int .i64 0,.int .i64 0,.slice (some ⟨B3,0,none⟩) 1 1,.slice (some ⟨B18,0,none⟩) 2 2]).toArray 39)
      have HB20:=Jh (Blk.new W50 ([.int .i64 2,.int .i64 0,.int .i64 0,.int .i64 0,.slice (some ⟨B3,0,none⟩) 1 1,.slice (some ⟨B18,0,none⟩) 2 2]).toArray 39)
      obtain ⟨B20,hB⟩:∃ B,W50.heap.size=B:=⟨_,rfl⟩
      have HSB20:=Jh (show w2.heap.size<=B20 from hB ▸ hH.size)
      rw [hB] at HB20 ⊢
      clear hB
      have HB3:=Jh (HB3.out.ext hx)
      have HBX:=Jh (HBX.out.ext hx)
      have HB18:=Jh (HB18.out.ext hx)
      refine hK.out _ _ (hH.trans hx) (fun hH=>?_)
      clear hK K hx
      generalize W50.alloc _=W51 at *
      try simp only [J]
      (refine Jr 21 rfl fun K hK=>?_)
      go_simp
      refine (with_callsB (HSG.out W51 hH) HPO.out HCO.out (HTS.out W51 hH HB3.out HB18.out HB20.out)).mono ?_
      rintro r W52 ⟨B2,rfl,hb2,hx⟩
      have HB2:=Jh hb2
      clear hb2
      have HB3:=Jh (HB3.out.ext hx)
      have HBX:=Jh (HBX.out.ext hx)
      have HB18:=Jh (HB18.out.ext hx)
      have HB20:=Jh (HB20.out.ext hx)
      refine hK.out _ _ (hH.trans hx) (fun hH=>?_)
      clear hK K hx
      try simp only [J]
      (refine Jr 23 rfl fun K hK=>?_)
      refine step_store_blk' rfl 26 _ _ rfl HBX.out rfl (cs:=[sv,.slice (some ⟨B2,0,none⟩) 1 1,.slice none 0 0]) rfl agg_Flat rfl rfl (by rw [List.all_cons,HSO.out];rfl) ?_
      intro W53 hb9 hg9
      have hx9:=hH.grown hg9 HSBX.out
      have hfin:=HFIN.out _ _ _ _ _ _ hx9 hb9 (HB2.out.grown hg9 (HB2.out.neT HBX.out (by decide))) (HB3.out.grown hg9 (HB3.out.neT HBX.out (by decide))) (HB18.out.grown hg9 (HB18.out.neT HBX.out (by decide))) (HB20.out.grown hg9 (HB20.out.neT HBX.out (by decide)))
      refine hK.out _ _ hx9 (fun hH=>?_)
      clear hK K
      refine Jz ?_
      go_wp2_with fail
      go_meet
      exact hfin
    ·
     go_simp
     have hx:=ext_alloc W35 (.cells #[.slice none 0 0,.slice none 0 0,.slice none 0 0] 26)
     have HBX:=Jh (Blk.new W35 #[.slice none 0 0,.slice none 0 0,.slice none 0 0] 26)
     obtain ⟨BX,hB⟩:∃ B,W35.heap.size=B:=⟨_,rfl⟩
     have HSBX:=Jh (show w2.heap.size<=BX from hB ▸ hH.size)
     rw [hB] at HBX ⊢
     clear hB
     have HB3:=Jh (HB3.out.ext hx)
     refine hK.out _ _ (hH.trans hx) (fun hH=>?_)
     clear hK K hx
     generalize W35.alloc _=W54 at *
     try simp only [J]
     (refine Jr 17 rfl fun K hK=>?_)
     go_simp
     refine (block11_calls ma Pq.l.length mc _).mono ?_
     rintro r W55 ⟨rfl,hx⟩
     have HB3:=Jh (HB3.out.ext hx)
     have HBX:=Jh (HBX.out.ext hx)
     refine hK.out _ _ (hH.trans hx) (fun hH=>?_)
     clear hK K hx
     try simp only [J]
     (refine Jr 18 rfl fun K hK=>?_)
     refine step_bsN rfl _ 2 _ rfl appT (vs:=[.agg [.int .i64 5,.int .i64 0,.int .i64 0,.int .i64 0,.slice none 0 0,.slice la Pp.l.length lc].toArray,.agg [.int .i64 5,.int .i64 0,.int .i64 0,.int .i64 0,.slice none 0 0,.slice ma Pq.l.length mc].toArray]) rfl rfl (css:=[[.int .i64 5,.int .i64 0,.int .i64 0,.int .i64 0,.slice none 0 0,.slice la Pp.l.length lc],[.int .i64 5,.int .i64 0,.int .i64 0,.int .i64 0,.slice none 0 0,.slice ma Pq.l.length mc]]) rfl (by simp) (by decide) (by decide) ?_
     have hx:=ext_alloc W55 (.cells ([[.int .i64 5,.int .i64 0,.int .i64 0,.int .i64 0,.slice none 0 0,.slice la Pp.l.length lc],[.int .i64 5,.int .i64 0,.int .i64 0,.int .i64 0,.slice none 0 0,.slice ma Pq.l.length mc]].flatten.toArray) 39)
     have HB18:=Jh (Blk.new W55 ([[.int .i64 5,.int .i64 0,.int .i64 0,.int .i64 0,.slice none 0 0,.slice la Pp.l.length lc],[.int .i64 5,.int .i64 0,.int .i64 0,.int .i64 0,.slice none 0 0,.slice ma Pq.l.length mc]].flatten.toArray) 39)
     obtain ⟨B18,hB⟩:∃ B,W55.heap.size=B:=⟨_,rfl⟩
     have HSB18:=Jh (show w2.heap.size<=B18 from hB ▸ hH.size)
     rw [hB] at HB18 ⊢
     clear hB
     have HB3:=Jh (HB3.out.ext hx)
     have HBX:=Jh (HBX.out.ext hx)
     refine hK.out _ _ (hH.trans hx) (fun hH=>?_)
     clear hK K hx
     generalize W55.alloc _=W56 at *
     try simp only [J]
     (refine Jt 19 (.agg #[.int .i64 2,.int .i64 0,.int .i64 0,.int .i64 0,.slice (some ⟨B3,0,none⟩) 1 1,.slice (some ⟨B18,0,none⟩) 2 2]) rfl (yif_load1 rfl (by intro W hW;clear hW;go_simp)) hH ?_;try simp only [J])
     (refine Jr 20 rfl fun K hK=>?_)
     refine step_bs1 rfl _ _ rfl appT rfl (cs:=[.int .i64 2,.int .i64 0,.int .i64 0,.int .i64 0,.slice (some ⟨B3,0,none⟩) 1 1,.slice (some ⟨B18,0,none⟩) 2 2]) rfl rfl (by decide) ?_
     have hx:=ext_alloc W56 (.cells ([.int .i64 2,.int .i64 0,.int .i64 0,.int .i64 0,.slice (some ⟨B3,0,none⟩) 1 1,.slice (some ⟨B18,0,none⟩) 2 2]).toArray 39)
     have HB20:=Jh (Blk.new W56 ([.int .i64 2,.int .i64 0,.int .i64 0,.int .i64 0,.slice (some ⟨B3,0,none⟩) 1 1,.slice (some ⟨B18,0,none⟩) 2 2]).toArray 39)
     obtain ⟨B20,hB⟩:∃ B,W56.heap.size=B:=⟨_,rfl⟩
     have HSB20:=Jh (show w2.heap.size<=B20 from hB ▸ hH.size)
     rw [hB] at HB20 ⊢
     clear hB
     have HB3:=Jh (HB3.out.ext hx)
     have HBX:=Jh (HBX.out.ext hx)
     have HB18:=Jh (HB18.out.ext hx)
     refine hK.out _ _ (hH.trans hx) (fun hH=>?_)
     clear hK K hx
     generalize W56.alloc _=W57 at *
     try simp only [J]
     (refine Jr 21 rfl fun K hK=>?_)
     go_simp
     refine (with_callsB (HSG.out W57 hH) HPO.out HCO.out (HTS.out W57 hH HB3.out HB18.out HB20.out)).mono ?_
     rintro r W58 ⟨B2,rfl,hb2,hx⟩
     have HB2:=Jh hb2
     clear hb2
     have HB3:=Jh (HB3.out.ext hx)
     have HBX:=Jh (HBX.out.ext hx)
     have HB18:=Jh (HB18.out.ext hx)
     have HB20:=Jh (HB20.out.ext hx)
     refine hK.out _ _ (hH.trans hx) (fun hH=>?_)
     clear hK K hx
     try simp only [J]
     (refine Jr 23 rfl fun K hK=>?_)
     refine step_store_blk' rfl 26 _ _ rfl HBX.out rfl (cs:=[sv,.slice (some ⟨B2,0,none⟩) 1 1,.slice none 0 0]) rfl agg_Flat rfl rfl (by rw [List.all_cons,HSO.out];rfl) ?_
     intro W59 hb9 hg9
     have hx9:=hH.grown hg9 HSBX.out
     have hfin:=HFIN.out _ _ _ _ _ _ hx9 hb9 (HB2.out.grown hg9 (HB2.out.neT HBX.out (by decide))) (HB3.out.grown hg9 (HB3.out.neT HBX.out (by decide))) (HB18.out.grown hg9 (HB18.out.neT HBX.out (by decide))) (HB20.out.grown hg9 (HB20.out.neT HBX.out (by decide)))
     refine hK.out _ _ hx9 (fun hH=>?_)
     clear hK K
     refine Jz ?_
     go_wp2_with fail
     go_meet
     exact hfin
   ·
    go_simp
    refine (block11_calls ma Pq.l.length mc _).mono ?_
    rintro r W60 ⟨rfl,hx⟩
    refine hK.out _ _ (hH.trans hx) (fun hH=>?_)
    clear hK K hx
    try simp only [J]
    refine wpAnyH_ready (rs:=[3,18,22]) (by kernel_rfl) (by simp) ?_
    refine AllReadyH.cons rfl (fun K hK=>?_) (AllReadyH.cons rfl (fun K hK=>?_) (AllReadyH.cons rfl (fun K hK=>?_) (AllReadyH.nil)))
    ·
     refine step_bs1 rfl _ _ rfl appE rfl (cs:=e.cells s0) rfl rfl (by decide) ?_
     have hx:=ext_alloc W60 (.cells (e.cells s0).toArray 31)
     have HB3:=Jh (Blk.new W60 (e.cells s0).toArray 31)
     obtain ⟨B3,hB⟩:∃ B,W60.heap.size=B:=⟨_,rfl⟩
     have HSB3:=Jh (show w2.heap.size<=B3 from hB ▸ hH.size)
     rw [hB] at HB3 ⊢
     clear hB
     refine hK.out _ _ (hH.trans hx) (fun hH=>?_)
     clear hK K hx
     generalize W60.alloc _=W61 at *
     try simp only [J]
     refine wpAnyH_ready (rs:=[18,22]) (by kernel_rfl) (by simp) ?_
     refine AllReadyH.cons rfl (fun K hK=>?_) (AllReadyH.cons rfl (fun K hK=>?_) (AllReadyH.nil))
     ·
      refine step_bsN rfl _ 2 _ rfl appT (vs:=[.agg [.int .i64 5,.int .i64 0,.int .i64 0,.int .i64 0,.slice none 0 0,.slice la Pp.l.length lc].toArray,.agg [.int .i64 5,.int .i64 0,.int .i64 0,.int .i64 0,.slice none 0 0,.slice ma Pq.l.length mc].toArray]) rfl rfl (css:=[[.int .i64 5,.int .i64 0,.int .i64 0,.int .i64 0,.slice none 0 0,.slice la Pp.l.length lc],[.int .i64 5,.int .i64 0,.int .i64 0,.int .i64 0,.slice none 0 0,.slice ma Pq.l.length mc]]) rfl (by simp) (by decide) (by decide) ?_
      have hx:=ext_alloc W61 (.cells ([[.int .i64 5,.int .i64 0,.int .i64 0,.int .i64 0,.slice none 0 0,.slice la Pp.l.length lc],[.int .i64 5,.int .i64 0,.int .i64 0,.int .i64 0,.slice none 0 0,.slice ma Pq.l.length mc]].flatten.toArray) 39)
      have HB18:=Jh (Blk.new W61 ([[.int .i64 5,.int .i64 0,.int .i64 0,.int .i64 0,.slice none 0 0,.slice la Pp.l.length lc],[.int .i64 5,.int .i64 0,.int .i64 0,.int .i64 0,.slice none 0 0,.slice ma Pq.l.length mc]].flatten.toArray) 39)
      obtain ⟨B18,hB⟩:∃ B,W61.heap.size=B:=⟨_,rfl⟩
      have HSB18:=Jh (show w2.heap.size<=B18 from hB ▸ hH.size)
      rw [hB] at HB18 ⊢
      clear hB
      have HB3:=Jh (HB3.out.ext hx)
      refine hK.out _ _ (hH.trans hx) (fun hH=>?_)
      clear hK K hx
      generalize W61.alloc _=W62 at *
      try simp only [J]
      (refine Jt 19 (.agg #[.int .i64 2,.int .i64 0,.int .i64 0,.int .i64 0,.slice (some ⟨B3,0,none⟩) 1 1,.slice (some ⟨B18,0,none⟩) 2 2]) rfl (yif_load1 rfl (by intro W hW;clear hW;go_simp)) hH ?_;try simp only [J])
      refine wpAnyH_ready (rs:=[20,22]) (by kernel_rfl) (by simp) ?_
      refine AllReadyH.cons rfl (fun K hK=>?_) (AllReadyH.cons rfl (fun K hK=>?_) (AllReadyH.nil))
      ·
       refine step_bs1 rfl _ _ rfl appT rfl (cs:=[.int .i64 2,.int .i64 0,.int .i64 0,.int .i64 0,.slice (some ⟨B3,0,none⟩) 1 1,.slice (some ⟨B18,0,none⟩) 2 2]) rfl rfl (by decide) ?_
       have hx:=ext_alloc W62 (.cells ([.int .i64 2,.int .i64 0,.int .i64 0,.int .i64 0,.slice (some ⟨B3,0,none⟩) 1 1,.slice (some ⟨B18,0,none⟩) 2 2]).toArray 39)
       have HB20:=Jh (Blk.new W62 ([.int .i64 2,.int .i64 0,.int .i64 0,.int .i64 0,.slice (some ⟨B3,0,none⟩) 1 1,.slice (some ⟨B18,0,none⟩) 2 2]).toArray 39)
       obtain ⟨B20,hB⟩:∃ B,W62.heap.size=B:=⟨_,rfl⟩
       have HSB20:=Jh (show w2.heap.size<=B20 from hB ▸ hH.size)
       rw [hB] at HB20 ⊢
       clear hB
       have HB3:=Jh (HB3.out.ext hx)
       have HB18:=Jh (HB18.out.ext hx)
       refine hK.out _ _ (hH.trans hx) (fun hH=>?_)
       clear hK K hx
       generalize W62.alloc _=W63 at *
       try simp only [J]
       refine wpAnyH_ready (rs:=[21,22]) (by kernel_rfl) (by simp) ?_
       refine AllReadyH.cons rfl (fun K hK=>?_) (AllReadyH.cons rfl (fun K hK=>?_) (AllReadyH.nil))
       ·
        go_simp
        refine (with_callsB (HSG.out W63 hH) HPO.out HCO.out (HTS.out W63 hH HB3.out HB18.out HB20.out)).mono ?_
        rintro r W64 ⟨B2,rfl,hb2,hx⟩
        have HB2:=Jh hb2
        clear hb2
        have HB3:=Jh (HB3.out.ext hx)
        have HB18:=Jh (HB18.out.ext hx)
        have HB20:=Jh (HB20.out.ext hx)
        refine hK.out _ _ (hH.trans hx) (fun hH=>?_)
        clear hK K hx
        try simp only [J]
        (refine Jr 22 rfl fun K hK=>?_)
        go_simp
        have hx:=ext_alloc W64 (.cells #[.slice none 0 0,.slice none 0 0,.slice none 0 0] 26)
        have HBX:=Jh (Blk.new W64 #[.slice none 0 0,.slice none 0 0,.slice none 0 0] 26)
        obtain ⟨BX,hB⟩:∃ B,W64.heap.size=B:=⟨_,rfl⟩
        have HSBX:=Jh (show w2.heap.size<=BX from hB ▸ hH.size)
        rw [hB] at HBX ⊢
        clear hB
        have HB3:=Jh (HB3.out.ext hx)
        have HB18:=Jh (HB18.out.ext hx)
        have HB20:=Jh (HB20.out.ext hx)
        have HB2:=Jh (HB2.out.ext hx)
        refine hK.out _ _ (hH.trans hx) (fun hH=>?_)
        clear hK K hx
        generalize W64.alloc _=W65 at *
        try simp only [J]
        (refine Jr 23 rfl fun K hK=>?_)
        refine step_store_blk' rfl 26 _ _ rfl HBX.out rfl (cs:=[sv,.slice (some ⟨B2,0,none⟩) 1 1,.slice none 0 0]) rfl agg_Flat rfl rfl (by rw [List.all_cons,HSO.out];rfl) ?_
        intro W66 hb9 hg9
        have hx9:=hH.grown hg9 HSBX.out
        have hfin:=HFIN.out _ _ _ _ _ _ hx9 hb9 (HB2.out.grown hg9 (HB2.out.neT HBX.out (by decide))) (HB3.out.grown hg9 (HB3.out.neT HBX.out (by decide))) (HB18.out.grown hg9 (HB18.out.neT HBX.out (by decide))) (HB20.out.grown hg9 (HB20.out.neT HBX.out (by decide)))
        refine hK.out _ _ hx9 (fun hH=>?_)
        clear hK K
        refine Jz ?_
        go_wp2_with fail
        go_meet
        exact hfin
       ·
        go_simp
        have hx:=ext_alloc W63 (.cells #[.slice none 0 0,.slice none 0 0,.slice none 0 0] 26)
        have HBX:=Jh (Blk.new W63 #[.slice none 0 0,.slice none 0 0,.slice none 0 0] 26)
        obtain ⟨BX,hB⟩:∃ B,W63.heap.size=B:=⟨_,rfl⟩
        have HSBX:=Jh (show w2.heap.size<=BX from hB ▸ hH.size)
        rw [hB] at HBX ⊢
        clear hB
        have HB3:=Jh (HB3.out.ext hx)
        have HB18:=Jh (HB18.out.ext hx)
        have HB20:=Jh (HB20.out.ext hx)
        refine hK.out _ _ (hH.trans hx) (fun hH=>?_)
        clear hK K hx
        generalize W63.alloc _=W67 at *
        try simp only [J]
        (refine Jr 21 rfl fun K hK=>?_)
        go_simp
        refine (with_callsB (HSG.out W67 hH) HPO.out HCO.out (HTS.out W67 hH HB3.out HB18.out HB20.out)).mono ?_
        rintro r W68 ⟨B2,rfl,hb2,hx⟩
        have HB2:=Jh hb2
        clear hb2
        have HB3:=Jh (HB3.out.ext hx)
        have HBX:=Jh (HBX.out.ext hx)
        have HB18:=Jh (HB18.out.ext hx)
        have HB20:=Jh (HB20.out.ext hx)
        refine hK.out _ _ (hH.trans hx) (fun hH=>?_)
        clear hK K hx
        try simp only [J]
        (refine Jr 23 rfl fun K hK=>?_)
        refine step_store_blk' rfl 26 _ _ rfl HBX.out rfl (cs:=[sv,.slice (some ⟨B2,0,none⟩) 1 1,.slice none 0 0]) rfl agg_Flat rfl rfl (by rw [List.all_cons,HSO.out];rfl) ?_
        intro W69 hb9 hg9
        have hx9:=hH.grown hg9 HSBX.out
        have hfin:=HFIN.out _ _ _ _ _ _ hx9 hb9 (HB2.out.grown hg9 (HB2.out.neT HBX.out (by decide))) (HB3.out.grown hg9 (HB3.out.neT HBX.out (by decide))) (HB18.out.grown hg9 (HB18.out.neT HBX.out (by decide))) (HB20.out.grown hg9 (HB20.out.neT HBX.out (by decide)))
        refine hK.out _ _ hx9 (fun hH=>?_)
        clear hK K
        refine Jz ?_
        go_wp2_with fail
        go_meet
        exact hfin
      ·
       go_simp
       have hx:=ext_alloc W62 (.cells #[.slice none 0 0,.slice none 0 0,.slice none 0 0] 26)
       have HBX:=Jh (Blk.new W62 #[.slice none 0 0,.slice none 0 0,.slice none 0 0] 26)
       obtain ⟨BX,hB⟩:∃ B,W62.heap.size=B:=⟨_,rfl⟩
       have HSBX:=Jh (show w2.heap.size<=BX from hB ▸ hH.size)
       rw [hB] at HBX ⊢
       clear hB
       have HB3:=Jh (HB3.out.ext hx)
       have HB18:=Jh (HB18.out.ext hx)
       refine hK.out _ _ (hH.trans hx) (fun hH=>?_)
       clear hK K hx
       generalize W62.alloc _=W70 at *
       try simp only [J]
       (refine Jr 20 rfl fun K hK=>?_)
       refine step_bs1 rfl _ _ rfl appT rfl (cs:=[.int .i64 2,.int .i64 0,.int .i64 0,.int .i64 0,.slice (some ⟨B3,0,none⟩) 1 1,.slice (some ⟨B18,0,none⟩) 2 2]) rfl rfl (by decide) ?_
       have hx:=ext_alloc W70 (.cells ([.int .i64 2,.int .i64 0,.int .i64 0,.int .i64 0,.slice (some ⟨B3,0,none⟩) 1 1,.slice (some ⟨B18,0,none⟩) 2 2]).toArray 39)
       have HB20:=Jh (Blk.new W70 ([.int .i64 2,.int .i64 0,.int .i64 0,.int .i64 0,.slice (some ⟨B3,0,none⟩) 1 1,.slice (some ⟨B18,0,none⟩) 2 2]).toArray 39)
       obtain ⟨B20,hB⟩:∃ B,W70.heap.size=B:=⟨_,rfl⟩
       have HSB20:=Jh (show w2.heap.size<=B20 from hB ▸ hH.size)
       rw [hB] at HB20 ⊢
       clear hB
       have HB3:=Jh (HB3.out.ext hx)
       have HBX:=Jh (HBX.out.ext hx)
       have HB18:=Jh (HB18.out.ext hx)
       refine hK.out _ _ (hH.trans hx) (fun hH=>?_)
       clear hK K hx
       generalize W70.alloc _=W71 at *
       try simp only [J]
       (refine Jr 21 rfl fun K hK=>?_)
       go_simp
       refine (with_callsB (HSG.out W71 hH) HPO.out HCO.out (HTS.out W71 hH HB3.out HB18.out HB20.out)).mono ?_
       rintro r W72 ⟨B2,rfl,hb2,hx⟩
       have HB2:=Jh hb2
       clear hb2
       have HB3:=Jh (HB3.out.ext hx)
       have HBX:=Jh (HBX.out.ext hx)
       have HB18:=Jh (HB18.out.ext hx)
       have HB20:=Jh (HB20.out.ext hx)
       refine hK.out _ _ (hH.trans hx) (fun hH=>?_)
       clear hK K hx
       try simp only [J]
       (refine Jr 23 rfl fun K hK=>?_)
       refine step_store_blk' rfl 26 _ _ rfl HBX.out rfl (cs:=[sv,.slice (some ⟨B2,0,none⟩) 1 1,.slice none 0 0]) rfl agg_Flat rfl rfl (by rw [List.all_cons,HSO.out];rfl) ?_
       intro W73 hb9 hg9
       have hx9:=hH.grown hg9 HSBX.out
       have hfin:=HFIN.out _ _ _ _ _ _ hx9 hb9 (HB2.out.grown hg9 (HB2.out.neT HBX.out (by decide))) (HB3.out.grown hg9 (HB3.out.neT HBX.out (by decide))) (HB18.out.grown hg9 (HB18.out.neT HBX.out (by decide))) (HB20.out.grown hg9 (HB20.out.neT HBX.out (by decide)))
       refine hK.out _ _ hx9 (fun hH=>?_)
       clear hK K
       refine Jz ?_
       go_wp2_with fail
       go_meet
       exact hfin
     ·
      go_simp
      have hx:=ext_alloc W61 (.cells #[.slice none 0 0,.slice none 0 0,.slice none 0 0] 26)
      have HBX:=Jh (Blk.new W61 #[.slice none 0 0,.slice none 0 0,.slice none 0 0] 26)
      obtain ⟨BX,hB⟩:∃ B,W61.heap.size=B:=⟨_,rfl⟩
      have HSBX:=Jh (show w2.heap.size<=BX from hB ▸ hH.size)
      rw [hB] at HBX ⊢
      clear hB
      have HB3:=Jh (HB3.out.ext hx)
      refine hK.out _ _ (hH.trans hx) (fun hH=>?_)
      clear hK K hx
      generalize W61.alloc _=W74 at *
      try simp only [J]
      (refine Jr 18 rfl fun K hK=>?_)
      refine step_bsN rfl _ 2 _ rfl appT (vs:=[.agg [.int .i64 5,.int .i64 0,.int .i64 0,.int .i64 0,.slice none 0 0,.slice la Pp.l.length lc].toArray,.agg [.int .i64 5,.int .i64 0,.int .i64 0,.int .i64 0,.slice none 0 0,.slice ma Pq.l.length mc].toArray]) rfl rfl (css:=[[.int .i64 5,.int .i64 0,.int .i64 0,.int .i64 0,.slice none 0 0,.slice la Pp.l.length lc],[.int .i64 5,.int .i64 0,.int .i64 0,.int .i64 0,.slice none 0 0,.slice ma Pq.l.length mc]]) rfl (by simp) (by decide) (by decide) ?_
      have hx:=ext_alloc W74 (.cells ([[.int .i64 5,.int .i64 0,.int .i64 0,.int .i64 0,.slice none 0 0,.slice la Pp.l.length lc],[.int .i64 5,.int .i64 0,.int .i64 0,.int .i64 0,.slice none 0 0,.slice ma Pq.l.length mc]].flatten.toArray) 39)
      have HB18:=Jh (Blk.new W74 ([[.int .i64 5,.int .i64 0,.int .i64 0,.int .i64 0,.slice none 0 0,.slice la Pp.l.length lc],[.int .i64 5,.int .i64 0,.int .i64 0,.int .i64 0,.slice none 0 0,.slice ma Pq.l.length mc]].flatten.toArray) 39)
      obtain ⟨B18,hB⟩:∃ B,W74.heap.size=B:=⟨_,rfl⟩
      have HSB18:=Jh (show w2.heap.size<=B18 from hB ▸ hH.size)
      rw [hB] at HB18 ⊢
      clear hB
      have HB3:=Jh (HB3.out.ext hx)
      have HBX:=Jh (HBX.out.ext hx)
      refine hK.out _ _ (hH.trans hx) (fun hH=>?_)
      clear hK K hx
      generalize W74.alloc _=W75 at *
      try simp only [J]
      (refine Jt 19 (.agg #[.int .i64 2,.int .i64 0,.int .i64 0,.int .i64 0,.slice (some ⟨B3,0,none⟩) 1 1,.slice (some ⟨B18,0,none⟩) 2 2]) rfl (yif_load1 rfl (by intro W hW;clear hW;go_simp)) hH ?_;try simp only [J])
      (refine Jr 20 rfl fun K hK=>?_)
      refine step_bs1 rfl _ _ rfl appT rfl (cs:=[.int .i64 2,.int .i64 0,.int .i64 0,.int .i64 0,.slice (some ⟨B3,0,none⟩) 1 1,.slice (some ⟨B18,0,none⟩) 2 2]) rfl rfl (by decide) ?_
      have hx:=ext_alloc W75 (.cells ([.int .i64 2,.int .i64 0,.int .i64 0,.int .i64 0,.slice (some ⟨B3,0,none⟩) 1 1,.slice (some ⟨B18,0,none⟩) 2 2]).toArray 39)
      have HB20:=Jh (Blk.new W75 ([.int .i64 2,.int .i64 0,.int .i64 0,.int .i64 0,.slice (some ⟨B3,0,none⟩) 1 1,.slice (some ⟨B18,0,none⟩) 2 2]).toArray 39)
      obtain ⟨B20,hB⟩:∃ B,W75.heap.size=B:=⟨_,rfl⟩
      have HSB20:=Jh (show w2.heap.size<=B20 from hB ▸ hH.size)
      rw [hB] at HB20 ⊢
      clear hB
      have HB3:=Jh (HB3.out.ext hx)
      have HBX:=Jh (HBX.out.ext hx)
      have HB18:=Jh (HB18.out.ext hx)
      refine hK.out _ _ (hH.trans hx) (fun hH=>?_)
      clear hK K hx
      generalize W75.alloc _=W76 at *
      try simp only [J]
      (refine Jr 21 rfl fun K hK=>?_)
      go_simp
      refine (with_callsB (HSG.out W76 hH) HPO.out HCO.out (HTS.out W76 hH HB3.out HB18.out HB20.out)).mono ?_
      rintro r W77 ⟨B2,rfl,hb2,hx⟩
      have HB2:=Jh hb2
      clear hb2
      have HB3:=Jh (HB3.out.ext hx)
      have HBX:=Jh (HBX.out.ext hx)
      have HB18:=Jh (HB18.out.ext hx)
      have HB20:=Jh (HB20.out.ext hx)
      refine hK.out _ _ (hH.trans hx) (fun hH=>?_)
      clear hK K hx
      try simp only [J]
      (refine Jr 23 rfl fun K hK=>?_)
      refine step_store_blk' rfl 26 _ _ rfl HBX.out rfl (cs:=[sv,.slice (some ⟨B2,0,none⟩) 1 1,.slice none 0 0]) rfl agg_Flat rfl rfl (by rw [List.all_cons,HSO.out];rfl) ?_
      intro W78 hb9 hg9
      have hx9:=hH.grown hg9 HSBX.out
      have hfin:=HFIN.out _ _ _ _ _ _ hx9 hb9 (HB2.out.grown hg9 (HB2.out.neT HBX.out (by decide))) (HB3.out.grown hg9 (HB3.out.neT HBX.out (by decide))) (HB18.out.grown hg9 (HB18.out.neT HBX.out (by decide))) (HB20.out.grown hg9 (HB20.out.neT HBX.out (by decide)))
      refine hK.out _ _ hx9 (fun hH=>?_)
      clear hK K
      refine Jz ?_
      go_wp2_with fail
      go_meet
      exact hfin
    ·
     refine step_bsN rfl _ 2 _ rfl appT (vs:=[.agg [.int .i64 5,.int .i64 0,.int .i64 0,.int .i64 0,.slice none 0 0,.slice la Pp.l.length lc].toArray,.agg [.int .i64 5,.int .i64 0,.int .i64 0,.int .i64 0,.slice none 0 0,.slice ma Pq.l.length mc].toArray]) rfl rfl (css:=[[.int .i64 5,.int .i64 0,.int .i64 0,.int .i64 0,.slice none 0 0,.slice la Pp.l.length lc],[.int .i64 5,.int .i64 0,.int .i64 0,.int .i64 0,.slice none 0 0,.slice ma Pq.l.length mc]]) rfl (by simp) (by decide) (by decide) ?_
     have hx:=ext_alloc W60 (.cells ([[.int .i64 5,.int .i64 0,.int .i64 0,.int .i64 0,.slice none 0 0,.slice la Pp.l.length lc],[.int .i64 5,.int .i64 0,.int .i64 0,.int .i64 0,.slice none 0 0,.slice ma Pq.l.length mc]].flatten.toArray) 39)
     have HB18:=Jh (Blk.new W60 ([[.int .i64 5,.int .i64 0,.int .i64 0,.int .i64 0,.slice none 0 0,.slice la Pp.l.length lc],[.int .i64 5,.int .i64 0,.int .i64 0,.int .i64 0,.slice none 0 0,.slice ma Pq.l.length mc]].flatten.toArray) 39)
     obtain ⟨B18,hB⟩:∃ B,W60.heap.size=B:=⟨_,rfl⟩
     have HSB18:=Jh (show w2.heap.size<=B18 from hB ▸ hH.size)
     rw [hB] at HB18 ⊢
     clear hB
     refine hK.out _ _ (hH.trans hx) (fun hH=>?_)
     clear hK K hx
     generalize W60.alloc _=W79 at *
     try simp only [J]
     refine wpAnyH_ready (rs:=[3,22]) (by kernel_rfl) (by simp) ?_
     refine AllReadyH.cons rfl (fun K hK=>?_) (AllReadyH.cons rfl (fun K hK=>?_) (AllReadyH.nil))
     ·
      refine step_bs1 rfl _ _ rfl appE rfl (cs:=e.cells s0) rfl rfl (by decide) ?_
      have hx:=ext_alloc W79 (.cells (e.cells s0).toArray 31)
      have HB3:=Jh (Blk.new W79 (e.cells s0).toArray 31)
      obtain ⟨B3,hB⟩:∃ B,W79.heap.size=B:=⟨_,rfl⟩
      have HSB3:=Jh (show w2.heap.size<=B3 from hB ▸ hH.size)
      rw [hB] at HB3 ⊢
      clear hB
      have HB18:=Jh (HB18.out.ext hx)
      refine hK.out _ _ (hH.trans hx) (fun hH=>?_)
      clear hK K hx
      generalize W79.alloc _=W80 at *
      try simp only [J]
      (refine Jt 19 (.agg #[.int .i64 2,.int .i64 0,.int .i64 0,.int .i64 0,.slice (some ⟨B3,0,none⟩) 1 1,.slice (some ⟨B18,0,none⟩) 2 2]) rfl (yif_load1 rfl (by intro W hW;clear hW;go_simp)) hH ?_;try simp only [J])
      refine wpAnyH_ready (rs:=[20,22]) (by kernel_rfl) (by simp) ?_
      refine AllReadyH.cons rfl (fun K hK=>?_) (AllReadyH.cons rfl (fun K hK=>?_) (AllReadyH.nil))
      ·
       refine step_bs1 rfl _ _ rfl appT rfl (cs:=[.int .i64 2,.int .i64 0,.int .i64 0,.int .i64 0,.slice (some ⟨B3,0,none⟩) 1 1,.slice (some ⟨B18,0,none⟩) 2 2]) rfl rfl (by decide) ?_
       have hx:=ext_alloc W80 (.cells ([.int .i64 2,.int .i64 0,.int .i64 0,.int .i64 0,.slice (some ⟨B3,0,none⟩) 1 1,.slice (some ⟨B18,0,none⟩) 2 2]).toArray 39)
       have HB20:=Jh (Blk.new W80 ([.int .i64 2,.int .i64 0,.int .i64 0,.int .i64 0,.slice (some ⟨B3,0,none⟩) 1 1,.slice (some ⟨B18,0,none⟩) 2 2]).toArray 39)
       obtain ⟨B20,hB⟩:∃ B,W80.heap.size=B:=⟨_,rfl⟩
       have HSB20:=Jh (show w2.heap.size<=B20 from hB ▸ hH.size)
       rw [hB] at HB20 ⊢
       clear hB
       have HB3:=Jh (HB3.out.ext hx)
       have HB18:=Jh (HB18.out.ext hx)
       refine hK.out _ _ (hH.trans hx) (fun hH=>?_)
       clear hK K hx
       generalize W80.alloc _=W81 at *
       try simp only [J]
       refine wpAnyH_ready (rs:=[21,22]) (by kernel_rfl) (by simp) ?_
       refine AllReadyH.cons rfl (fun K hK=>?_) (AllReadyH.cons rfl (fun K hK=>?_) (AllReadyH.nil))
       ·
        go_simp
        refine (with_callsB (HSG.out W81 hH) HPO.out HCO.out (HTS.out W81 hH HB3.out HB18.out HB20.out)).mono ?_
        rintro r W82 ⟨B2,rfl,hb2,hx⟩
        have HB2:=Jh hb2
        clear hb2
        have HB3:=Jh (HB3.out.ext hx)
        have HB18:=Jh (HB18.out.ext hx)
        have HB20:=Jh (HB20.out.ext hx)
        refine hK.out _ _ (hH.trans hx) (fun hH=>?_)
        clear hK K hx
        try simp only [J]
        (refine Jr 22 rfl fun K hK=>?_)
        go_simp
        have hx:=ext_alloc W82 (.cells #[.slice none 0 0,.slice none 0 0,.slice none 0 0] 26)
        have HBX:=Jh (Blk.new W82 #[.slice none 0 0,.slice none 0 0,.slice none 0 0] 26)
        obtain ⟨BX,hB⟩:∃ B,W82.heap.size=B:=⟨_,rfl⟩
        have HSBX:=Jh (show w2.heap.size<=BX from hB ▸ hH.size)
        rw [hB] at HBX ⊢
        clear hB
        have HB3:=Jh (HB3.out.ext hx)
        have HB18:=Jh (HB18.out.ext hx)
        have HB20:=Jh (HB20.out.ext hx)
        have HB2:=Jh (HB2.out.ext hx)
        refine hK.out _ _ (hH.trans hx) (fun hH=>?_)
        clear hK K hx
        generalize W82.alloc _=W83 at *
        try simp only [J]
        (refine Jr 23 rfl fun K hK=>?_)
        refine step_store_blk' rfl 26 _ _ rfl HBX.out rfl (cs:=[sv,.slice (some ⟨B2,0,none⟩) 1 1,.slice none 0 0]) rfl agg_Flat rfl rfl (by rw [List.all_cons,HSO.out];rfl) ?_
        intro W84 hb9 hg9
        have hx9:=hH.grown hg9 HSBX.out
        have hfin:=HFIN.out _ _ _ _ _ _ hx9 hb9 (HB2.out.grown hg9 (HB2.out.neT HBX.out (by decide))) (HB3.out.grown hg9 (HB3.out.neT HBX.out (by decide))) (HB18.out.grown hg9 (HB18.out.neT HBX.out (by decide))) (HB20.out.grown hg9 (HB20.out.neT HBX.out (by decide)))
        refine hK.out _ _ hx9 (fun hH=>?_)
        clear hK K
        refine Jz ?_
        go_wp2_with fail
        go_meet
        exact hfin
       ·
        go_simp
        have hx:=ext_alloc W81 (.cells #[.slice none 0 0,.slice none 0 0,.slice none 0 0] 26)
        have HBX:=Jh (Blk.new W81 #[.slice none 0 0,.slice none 0 0,.slice none 0 0] 26)
        obtain ⟨BX,hB⟩:∃ B,W81.heap.size=B:=⟨_,rfl⟩
        have HSBX:=Jh (show w2.heap.size<=BX from hB ▸ hH.size)
        rw [hB] at HBX ⊢
        clear hB
        have HB3:=Jh (HB3.out.ext hx)
        have HB18:=Jh (HB18.out.ext hx)
        have HB20:=Jh (HB20.out.ext hx)
        refine hK.out _ _ (hH.trans hx) (fun hH=>?_)
        clear hK K hx
        generalize W81.alloc _=W85 at *
        try simp only [J]
        (refine Jr 21 rfl fun K hK=>?_)
        go_simp
        refine (with_callsB (HSG.out W85 hH) HPO.out HCO.out (HTS.out W85 hH HB3.out HB18.out HB20.out)).mono ?_
        rintro r W86 ⟨B2,rfl,hb2,hx⟩
        have HB2:=Jh hb2
        clear hb2
        have HB3:=Jh (HB3.out.ext hx)
        have HBX:=Jh (HBX.out.ext hx)
        have HB18:=Jh (HB18.out.ext hx)
        have HB20:=Jh (HB20.out.ext hx)
        refine hK.out _ _ (hH.trans hx) (fun hH=>?_)
        clear hK K hx
        try simp only [J]
        (refine Jr 23 rfl fun K hK=>?_)
        refine step_store_blk' rfl 26 _ _ rfl HBX.out rfl (cs:=[sv,.slice (some ⟨B2,0,none⟩) 1 1,.slice none 0 0]) rfl agg_Flat rfl rfl (by rw [List.all_cons,HSO.out];rfl) ?_
        intro W87 hb9 hg9
        have hx9:=hH.grown hg9 HSBX.out
        have hfin:=HFIN.out _ _ _ _ _ _ hx9 hb9 (HB2.out.grown hg9 (HB2.out.neT HBX.out (by decide))) (HB3.out.grown hg9 (HB3.out.neT HBX.out (by decide))) (HB18.out.grown hg9 (HB18.out.neT HBX.out (by decide))) (HB20.out.grown hg9 (HB20.out.neT HBX.out (by decide)))
        refine hK.out _ _ hx9 (fun hH=>?_)
        clear hK K
        refine Jz ?_
        go_wp2_with fail
        go_meet
        exact hfin
      ·
       go_simp
       have hx:=ext_alloc W80 (.cells #[.slice none 0 0,.slice none 0 0,.slice none 0 0] 26)
       have HBX:=Jh (Blk.new W80 #[.slice none 0 0,.slice none 0 0,.slice none 0 0] 26)
       obtain ⟨BX,hB⟩:∃ B,W80.heap.size=B:=⟨_,rfl⟩
       have HSBX:=Jh (show w2.heap.size<=BX from hB ▸ hH.size)
       rw [hB] at HBX ⊢
       clear hB
       have HB3:=Jh (HB3.out.ext hx)
       have HB18:=Jh (HB18.out.ext hx)
       refine hK.out _ _ (hH.trans hx) (fun hH=>?_)
       clear hK K hx
       generalize W80.alloc _=W88 at *
       try simp only [J]
       (refine Jr 20 rfl fun K hK=>?_)
       refine step_bs1 rfl _ _ rfl appT rfl (cs:=[.int .i64 2,.int .i64 0,.int .i64 0,.int .i64 0,.slice (some ⟨B3,0,none⟩) 1 1,.slice (some ⟨B18,0,none⟩) 2 2]) rfl rfl (by decide) ?_
       have hx:=ext_alloc W88 (.cells ([.int .i64 2,.int .i64 0,.int .i64 0,.int .i64 0,.slice (some ⟨B3,0,none⟩) 1 1,.slice (some ⟨B18,0,none⟩) 2 2]).toArray 39)
       have HB20:=Jh (Blk.new W88 ([.int .i64 2,.int .i64 0,.int .i64 0,.int .i64 0,.slice (some ⟨B3,0,none⟩) 1 1,.slice (some ⟨B18,0,none⟩) 2 2]).toArray 39)
       obtain ⟨B20,hB⟩:∃ B,W88.heap.size=B:=⟨_,rfl⟩
       have HSB20:=Jh (show w2.heap.size<=B20 from hB ▸ hH.size)
       rw [hB] at HB20 ⊢
       clear hB
       have HB3:=Jh (HB3.out.ext hx)
       have HBX:=Jh (HBX.out.ext hx)
       have HB18:=Jh (HB18.out.ext hx)
       refine hK.out _ _ (hH.trans hx) (fun hH=>?_)
       clear hK K hx
       generalize W88.alloc _=W89 at *
       try simp only [J]
       (refine Jr 21 rfl fun K hK=>?_)
       go_simp
       refine (with_callsB (HSG.out W89 hH) HPO.out HCO.out (HTS.out W89 hH HB3.out HB18.out HB20.out)).mono ?_
       rintro r W90 ⟨B2,rfl,hb2,hx⟩
       have HB2:=Jh hb2
       clear hb2
       have HB3:=Jh (HB3.out.ext hx)
       have HBX:=Jh (HBX.out.ext hx)
       have HB18:=Jh (HB18.out.ext hx)
       have HB20:=Jh (HB20.out.ext hx)
       refine hK.out _ _ (hH.trans hx) (fun hH=>?_)
       clear hK K hx
       try simp only [J]
       (refine Jr 23 rfl fun K hK=>?_)
       refine step_store_blk' rfl 26 _ _ rfl HBX.out rfl (cs:=[sv,.slice (some ⟨B2,0,none⟩) 1 1,.slice none 0 0]) rfl agg_Flat rfl rfl (by rw [List.all_cons,HSO.out];rfl) ?_
       intro W91 hb9 hg9
       have hx9:=hH.grown hg9 HSBX.out
       have hfin:=HFIN.out _ _ _ _ _ _ hx9 hb9 (HB2.out.grown hg9 (HB2.out.neT HBX.out (by decide))) (HB3.out.grown hg9 (HB3.out.neT HBX.out (by decide))) (HB18.out.grown hg9 (HB18.out.neT HBX.out (by decide))) (HB20.out.grown hg9 (HB20.out.neT HBX.out (by decide)))
       refine hK.out _ _ hx9 (fun hH=>?_)
       clear hK K
       refine Jz ?_
       go_wp2_with fail
       go_meet
       exact hfin
     ·
      go_simp
      have hx:=ext_alloc W79 (.cells #[.slice none 0 0,.slice none 0 0,.slice none 0 0] 26)
      have HBX:=Jh (Blk.new W79 #[.slice none 0 0,.slice none 0 0,.slice none 0 0] 26)
      obtain ⟨BX,hB⟩:∃ B,W79.heap.size=B:=⟨_,rfl⟩
      have HSBX:=Jh (show w2.heap.size<=BX from hB ▸ hH.size)
      rw [hB] at HBX ⊢
      clear hB
      have HB18:=Jh (HB18.out.ext hx)
      refine hK.out _ _ (hH.trans hx) (fun hH=>?_)
      clear hK K hx
      generalize W79.alloc _=W92 at *
      try simp only [J]
      (refine Jr 3 rfl fun K hK=>?_)
      refine step_bs1 rfl _ _ rfl appE rfl (cs:=e.cells s0) rfl rfl (by decide) ?_
      have hx:=ext_alloc W92 (.cells (e.cells s0).toArray 31)
      have HB3:=Jh (Blk.new W92 (e.cells s0).toArray 31)
      obtain ⟨B3,hB⟩:∃ B,W92.heap.size=B:=⟨_,rfl⟩
      have HSB3:=Jh (show w2.heap.size<=B3 from hB ▸ hH.size)
      rw [hB] at HB3 ⊢
      clear hB
      have HBX:=Jh (HBX.out.ext hx)
      have HB18:=Jh (HB18.out.ext hx)
      refine hK.out _ _ (hH.trans hx) (fun hH=>?_)
      clear hK K hx
      generalize W92.alloc _=W93 at *
      try simp only [J]
      (refine Jt 19 (.agg #[.int .i64 2,.int .i64 0,.int .i64 0,.int .i64 0,.slice (some ⟨B3,0,none⟩) 1 1,.slice (some ⟨B18,0,none⟩) 2 2]) rfl (yif_load1 rfl (by intro W hW;clear hW;go_simp)) hH ?_;try simp only [J])
      (refine Jr 20 rfl fun K hK=>?_)
      refine step_bs1 rfl _ _ rfl appT rfl (cs:=[.int .i64 2,.int .i64 0,.int .i64 0,.int .i64 0,.slice (some ⟨B3,0,none⟩) 1 1,.slice (some ⟨B18,0,none⟩) 2 2]) rfl rfl (by decide) ?_
      have hx:=ext_alloc W93 (.cells ([.int .i64 2,.int .i64 0,.int .i64 0,.int .i64 0,.slice (some ⟨B3,0,none⟩) 1 1,.slice (some ⟨B18,0,none⟩) 2 2]).toArray 39)
      have HB20:=Jh (Blk.new W93 ([.int .i64 2,.int .i64 0,.int .i64 0,.int .i64 0,.slice (some ⟨B3,0,none⟩) 1 1,.slice (some ⟨B18,0,none⟩) 2 2]).toArray 39)
      obtain ⟨B20,hB⟩:∃ B,W93.heap.size=B:=⟨_,rfl⟩
      have HSB20:=Jh (show w2.heap.size<=B20 from hB ▸ hH.size)
      rw [hB] at HB20 ⊢
      clear hB
      have HB3:=Jh (HB3.out.ext hx)
      have HBX:=Jh (HBX.out.ext hx)
      have HB18:=Jh (HB18.out.ext hx)
      refine hK.out _ _ (hH.trans hx) (fun hH=>?_)
      clear hK K hx
      generalize W93.alloc _=W94 at *
      try simp only [J]
      (refine Jr 21 rfl fun K hK=>?_)
      go_simp
      refine (with_callsB (HSG.out W94 hH) HPO.out HCO.out (HTS.out W94 hH HB3.out HB18.out HB20.out)).mono ?_
      rintro r W95 ⟨B2,rfl,hb2,hx⟩
      have HB2:=Jh hb2
      clear hb2
      have HB3:=Jh (HB3.out.ext hx)
      have HBX:=Jh (HBX.out.ext hx)
      have HB18:=Jh (HB18.out.ext hx)
      have HB20:=Jh (HB20.out.ext hx)
      refine hK.out _ _ (hH.trans hx) (fun hH=>?_)
      clear hK K hx
      try simp only [J]
      (refine Jr 23 rfl fun K hK=>?_)
      refine step_store_blk' rfl 26 _ _ rfl HBX.out rfl (cs:=[sv,.slice (some ⟨B2,0,none⟩) 1 1,.slice none 0 0]) rfl agg_Flat rfl rfl (by rw [List.all_cons,HSO.out];rfl) ?_
      intro W96 hb9 hg9
      have hx9:=hH.grown hg9 HSBX.out
      have hfin:=HFIN.out _ _ _ _ _ _ hx9 hb9 (HB2.out.grown hg9 (HB2.out.neT HBX.out (by decide))) (HB3.out.grown hg9 (HB3.out.neT HBX.out (by decide))) (HB18.out.grown hg9 (HB18.out.neT HBX.out (by decide))) (HB20.out.grown hg9 (HB20.out.neT HBX.out (by decide)))
      refine hK.out _ _ hx9 (fun hH=>?_)
      clear hK K
      refine Jz ?_
      go_wp2_with fail
      go_meet
      exact hfin
    ·
     go_simp
     have hx:=ext_alloc W60 (.cells #[.slice none 0 0,.slice none 0 0,.slice none 0 0] 26)
     have HBX:=Jh (Blk.new W60 #[.slice none 0 0,.slice none 0 0,.slice none 0 0] 26)
     obtain ⟨BX,hB⟩:∃ B,W60.heap.size=B:=⟨_,rfl⟩
     have HSBX:=Jh (show w2.heap.size<=BX from hB ▸ hH.size)
     rw [hB] at HBX ⊢
     clear hB
     refine hK.out _ _ (hH.trans hx) (fun hH=>?_)
     clear hK K hx
     generalize W60.alloc _=W97 at *
     try simp only [J]
     refine wpAnyH_ready (rs:=[3,18]) (by kernel_rfl) (by simp) ?_
     refine AllReadyH.cons rfl (fun K hK=>?_) (AllReadyH.cons rfl (fun K hK=>?_) (AllReadyH.nil))
     ·
      refine step_bs1 rfl _ _ rfl appE rfl (cs:=e.cells s0) rfl rfl (by decide) ?_
      have hx:=ext_alloc W97 (.cells (e.cells s0).toArray 31)
      have HB3:=Jh (Blk.new W97 (e.cells s0).toArray 31)
      obtain ⟨B3,hB⟩:∃ B,W97.heap.size=B:=⟨_,rfl⟩
      have HSB3:=Jh (show w2.heap.size<=B3 from hB ▸ hH.size)
      rw [hB] at HB3 ⊢
      clear hB
      have HBX:=Jh (HBX.out.ext hx)
      refine hK.out _ _ (hH.trans hx) (fun hH=>?_)
      clear hK K hx
      generalize W97.alloc _=W98 at *
      try simp only [J]
      (refine Jr 18 rfl fun K hK=>?_)
      refine step_bsN rfl _ 2 _ rfl appT (vs:=[.agg [.int .i64 5,.int .i64 0,.int .i64 0,.int .i64 0,.slice none 0 0,.slice la Pp.l.length lc].toArray,.agg [.int .i64 5,.int .i64 0,.int .i64 0,.int .i64 0,.slice none 0 0,.slice ma Pq.l.length mc].toArray]) rfl rfl (css:=[[.int .i64 5,.int .i64 0,.int .i64 0,.int .i64 0,.slice none 0 0,.slice la Pp.l.length lc],[.int .i64 5,.int .i64 0,.int .i64 0,.int .i64 0,.slice none 0 0,.slice ma Pq.l.length mc]]) rfl (by simp) (by decide) (by decide) ?_
      have hx:=ext_alloc W98 (.cells ([[.int .i64 5,.int .i64 0,.int .i64 0,.int .i64 0,.slice none 0 0,.slice la Pp.l.length lc],[.int .i64 5,.int .i64 0,.int .i64 0,.int .i64 0,.slice none 0 0,.slice ma Pq.l.length mc]].flatten.toArray) 39)
      have HB18:=Jh (Blk.new W98 ([[.int .i64 5,.int .i64 0,.int .i64 0,.int .i64 0,.slice none 0 0,.slice la Pp.l.length lc],[.int .i64 5,.int .i64 0,.int .i64 0,.int .i64 0,.slice none 0 0,.slice ma Pq.l.length mc]].flatten.toArray) 39)
      obtain ⟨B18,hB⟩:∃ B,W98.heap.size=B:=⟨_,rfl⟩
      have HSB18:=Jh (show w2.heap.size<=B18 from hB ▸ hH.size)
      rw [hB] at HB18 ⊢
      clear hB
      have HB3:=Jh (HB3.out.ext hx)
      have HBX:=Jh (HBX.out.ext hx)
      refine hK.out _ _ (hH.trans hx) (fun hH=>?_)
      clear hK K hx
      generalize W98.alloc _=W99 at *
      try simp only [J]
      (refine Jt 19 (.agg #[.int .i64 2,.int .i64 0,.int .i64 0,.int .i64 0,.slice (some ⟨B3,0,none⟩) 1 1,.slice (some ⟨B18,0,none⟩) 2 2]) rfl (yif_load1 rfl (by intro W hW;clear hW;go_simp)) hH ?_;try simp only [J])
      (refine Jr 20 rfl fun K hK=>?_)
      refine step_bs1 rfl _ _ rfl appT rfl (cs:=[.int .i64 2,.int .i64 0,.int .i64 0,.int .i64 0,.slice (some ⟨B3,0,none⟩) 1 1,.slice (some ⟨B18,0,none⟩) 2 2]) rfl rfl (by decide) ?_
      have hx:=ext_alloc W99 (.cells ([.int .i64 2,.int .i64 0,.int .i64 0,.int .i64 0,.slice (some ⟨B3,0,none⟩) 1 1,.slice (some ⟨B18,0,none⟩) 2 2]).toArray 39)
      have HB20:=Jh (Blk.new W99 ([.int .i64 2,.int .i64 0,.int .i64 0,.int .i64 0,.slice (some ⟨B3,0,none⟩) 1 1,.slice (some ⟨B18,0,none⟩) 2 2]).toArray 39)
      obtain ⟨B20,hB⟩:∃ B,W99.heap.size=B:=⟨_,rfl⟩
      have HSB20:=Jh (show w2.heap.size<=B20 from hB ▸ hH.size)
      rw [hB] at HB20 ⊢
      clear hB
      have HB3:=Jh (HB3.out.ext hx)
      have HBX:=Jh (HBX.out.ext hx)
      have HB18:=Jh (HB18.out.ext hx)
      refine hK.out _ _ (hH.trans hx) (fun hH=>?_)
      clear hK K hx
      generalize W99.alloc _=W100 at *
      try simp only [J]
      (refine Jr 21 rfl fun K hK=>?_)
      go_simp
      refine (with_callsB (HSG.out W100 hH) HPO.out HCO.out (HTS.out W100 hH HB3.out HB18.out HB20.out)).mono ?_
      rintro r W101 ⟨B2,rfl,hb2,hx⟩
      have HB2:=Jh hb2
      clear hb2
      have HB3:=Jh (HB3.out.ext hx)
      have HBX:=Jh (HBX.out.ext hx)
      have HB18:=Jh (HB18.out.ext hx)
      have HB20:=Jh (HB20.out.ext hx)
      refine hK.out _ _ (hH.trans hx) (fun hH=>?_)
      clear hK K hx
      try simp only [J]
      (refine Jr 23 rfl fun K hK=>?_)
      refine step_store_blk' rfl 26 _ _ rfl HBX.out rfl (cs:=[sv,.slice (some ⟨B2,0,none⟩) 1 1,.slice none 0 0]) rfl agg_Flat rfl rfl (by rw [List.all_cons,HSO.out];rfl) ?_
      intro W102 hb9 hg9
      have hx9:=hH.grown hg9 HSBX.out
      have hfin:=HFIN.out _ _ _ _ _ _ hx9 hb9 (HB2.out.grown hg9 (HB2.out.neT HBX.out (by decide))) (HB3.out.grown hg9 (HB3.out.neT HBX.out (by decide))) (HB18.out.grown hg9 (HB18.out.neT HBX.out (by decide))) (HB20.out.grown hg9 (HB20.out.neT HBX.out (by decide)))
      refine hK.out _ _ hx9 (fun hH=>?_)
      clear hK K
      refine Jz ?_
      go_wp2_with fail
      go_meet
      exact hfin
     ·
      refine step_bsN rfl _ 2 _ rfl appT (vs:=[.agg [.int .i64 5,.int .i64 0,.int .i64 0,.int .i64 0,.slice none 0 0,.slice la Pp.l.length lc].toArray,.agg [.int .i64 5,.int .i64 0,.int .i64 0,.int .i64 0,.slice none 0 0,.slice ma Pq.l.length mc].toArray]) rfl rfl (css:=[[.int .i64 5,.int .i64 0,.int .i64 0,.int .i64 0,.slice none 0 0,.slice la Pp.l.length lc],[.int .i64 5,.int .i64 0,.int .i64 0,.int .i64 0,.slice none 0 0,.slice ma Pq.l.length mc]]) rfl (by simp) (by decide) (by decide) ?_
      have hx:=ext_alloc W97 (.cells ([[.int .i64 5,.int .i64 0,.int .i64 0,.int .i64 0,.slice none 0 0,.slice la Pp.l.length lc],[.int .i64 5,.int .i64 0,.int .i64 0,.int .i64 0,.slice none 0 0,.slice ma Pq.l.length mc]].flatten.toArray) 39)
      have HB18:=Jh (Blk.new W97 ([[.int .i64 5,.int .i64 0,.int .i64 0,.int .i64 0,.slice none 0 0,.slice la Pp.l.length lc],[.int .i64 5,.int .i64 0,.int .i64 0,.int .i64 0,.slice none 0 0,.slice ma Pq.l.length mc]].flatten.toArray) 39)
      obtain ⟨B18,hB⟩:∃ B,W97.heap.size=B:=⟨_,rfl⟩
      have HSB18:=Jh (show w2.heap.size<=B18 from hB ▸ hH.size)
      rw [hB] at HB18 ⊢
      clear hB
      have HBX:=Jh (HBX.out.ext hx)
      refine hK.out _ _ (hH.trans hx) (fun hH=>?_)
      clear hK K hx
      generalize W97.alloc _=W103 at *
      try simp only [J]
      (refine Jr 3 rfl fun K hK=>?_)
      refine step_bs1 rfl _ _ rfl appE rfl (cs:=e.cells s0) rfl rfl (by decide) ?_
      have hx:=ext_alloc W103 (.cells (e.cells s0).toArray 31)
      have HB3:=Jh (Blk.new W103 (e.cells s0).toArray 31)
      obtain ⟨B3,hB⟩:∃ B,W103.heap.size=B:=⟨_,rfl⟩
      have HSB3:=Jh (show w2.heap.size<=B3 from hB ▸ hH.size)
      rw [hB] at HB3 ⊢
      clear hB
      have HBX:=Jh (HBX.out.ext hx)
      have HB18:=Jh (HB18.out.ext hx)
      refine hK.out _ _ (hH.trans hx) (fun hH=>?_)
      clear hK K hx
      generalize W103.alloc _=W104 at *
      try simp only [J]
      (refine Jt 19 (.agg #[.int .i64 2,.int .i64 0,.int .i64 0,.int .i64 0,.slice (some ⟨B3,0,none⟩) 1 1,.slice (some ⟨B18,0,none⟩) 2 2]) rfl (yif_load1 rfl (by intro W hW;clear hW;go_simp)) hH ?_;try simp only [J])
      (refine Jr 20 rfl fun K hK=>?_)
      refine step_bs1 rfl _ _ rfl appT rfl (cs:=[.int .i64 2,.int .i64 0,.int .i64 0,.int .i64 0,.slice (some ⟨B3,0,none⟩) 1 1,.slice (some ⟨B18,0,none⟩) 2 2]) rfl rfl (by decide) ?_
      have hx:=ext_alloc W104 (.cells ([.int .i64 2,.int .i64 0,.int .i64 0,.int .i64 0,.slice (some ⟨B3,0,none⟩) 1 1,.slice (some ⟨B18,0,none⟩) 2 2]).toArray 39)
      have HB20:=Jh (Blk.new W104 ([.int .i64 2,.int .i64 0,.int .i64 0,.int .i64 0,.slice (some ⟨B3,0,none⟩) 1 1,.slice (some ⟨B18,0,none⟩) 2 2]).toArray 39)
      obtain ⟨B20,hB⟩:∃ B,W104.heap.size=B:=⟨_,rfl⟩
      have HSB20:=Jh (show w2.heap.size<=B20 from hB ▸ hH.size)
      rw [hB] at HB20 ⊢
      clear hB
      have HB3:=Jh (HB3.out.ext hx)
      have HBX:=Jh (HBX.out.ext hx)
      have HB18:=Jh (HB18.out.ext hx)
      refine hK.out _ _ (hH.trans hx) (fun hH=>?_)
      clear hK K hx
      generalize W104.alloc _=W105 at *
      try simp only [J]
      (refine Jr 21 rfl fun K hK=>?_)
      go_simp
      refine (with_callsB (HSG.out W105 hH) HPO.out HCO.out (HTS.out W105 hH HB3.out HB18.out HB20.out)).mono ?_
      rintro r W106 ⟨B2,rfl,hb2,hx⟩
      have HB2:=Jh hb2
      clear hb2
      have HB3:=Jh (HB3.out.ext hx)
      have HBX:=Jh (HBX.out.ext hx)
      have HB18:=Jh (HB18.out.ext hx)
      have HB20:=Jh (HB20.out.ext hx)
      refine hK.out _ _ (hH.trans hx) (fun hH=>?_)
      clear hK K hx
      try simp only [J]
      (refine Jr 23 rfl fun K hK=>?_)
      refine step_store_blk' rfl 26 _ _ rfl HBX.out rfl (cs:=[sv,.slice (some ⟨B2,0,none⟩) 1 1,.slice none 0 0]) rfl agg_Flat rfl rfl (by rw [List.all_cons,HSO.out];rfl) ?_
      intro W107 hb9 hg9
      have hx9:=hH.grown hg9 HSBX.out
      have hfin:=HFIN.out _ _ _ _ _ _ hx9 hb9 (HB2.out.grown hg9 (HB2.out.neT HBX.out (by decide))) (HB3.out.grown hg9 (HB3.out.neT HBX.out (by decide))) (HB18.out.grown hg9 (HB18.out.neT HBX.out (by decide))) (HB20.out.grown hg9 (HB20.out.neT HBX.out (by decide)))
      refine hK.out _ _ hx9 (fun hH=>?_)
      clear hK K
      refine Jz ?_
      go_wp2_with fail
      go_meet
      exact hfin
   ·
    go_simp
    have hx:=ext_alloc W34 (.cells #[.slice none 0 0,.slice none 0 0,.slice none 0 0] 26)
    have HBX:=Jh (Blk.new W34 #[.slice none 0 0,.slice none 0 0,.slice none 0 0] 26)
    obtain ⟨BX,hB⟩:∃ B,W34.heap.size=B:=⟨_,rfl⟩
    have HSBX:=Jh (show w2.heap.size<=BX from hB ▸ hH.size)
    rw [hB] at HBX ⊢
    clear hB
    refine hK.out _ _ (hH.trans hx) (fun hH=>?_)
    clear hK K hx
    generalize W34.alloc _=W108 at *
    try simp only [J]
    refine wpAnyH_ready (rs:=[3,17]) (by kernel_rfl) (by simp) ?_
    refine AllReadyH.cons rfl (fun K hK=>?_) (AllReadyH.cons rfl (fun K hK=>?_) (AllReadyH.nil))
    ·
     refine step_bs1 rfl _ _ rfl appE rfl (cs:=e.cells s0) rfl rfl (by decide) ?_
     have hx:=ext_alloc W108 (.cells (e.cells s0).toArray 31)
     have HB3:=Jh (Blk.new W108 (e.cells s0).toArray 31)
     obtain ⟨B3,hB⟩:∃ B,W108.heap.size=B:=⟨_,rfl⟩
     have HSB3:=Jh (show w2.heap.size<=B3 from hB ▸ hH.size)
     rw [hB] at HB3 ⊢
     clear hB
     have HBX:=Jh (HBX.out.ext hx)
     refine hK.out _ _ (hH.trans hx) (fun hH=>?_)
     clear hK K hx
     generalize W108.alloc _=W109 at *
     try simp only [J]
     (refine Jr 17 rfl fun K hK=>?_)
     go_simp
     refine (block11_calls ma Pq.l.length mc _).mono ?_
     rintro r W110 ⟨rfl,hx⟩
     have HB3:=Jh (HB3.out.ext hx)
     have HBX:=Jh (HBX.out.ext hx)
     refine hK.out _ _ (hH.trans hx) (fun hH=>?_)
     clear hK K hx
     try simp only [J]
     (refine Jr 18 rfl fun K hK=>?_)
     refine step_bsN rfl _ 2 _ rfl appT (vs:=[.agg [.int .i64 5,.int .i64 0,.int .i64 0,.int .i64 0,.slice none 0 0,.slice la Pp.l.length lc].toArray,.agg [.int .i64 5,.int .i64 0,.int .i64 0,.int .i64 0,.slice none 0 0,.slice ma Pq.l.length mc].toArray]) rfl rfl (css:=[[.int .i64 5,.int .i64 0,.int .i64 0,.int .i64 0,.slice none 0 0,.slice la Pp.l.length lc],[.int .i64 5,.int .i64 0,.int .i64 0,.int .i64 0,.slice none 0 0,.slice ma Pq.l.length mc]]) rfl (by simp) (by decide) (by decide) ?_
     have hx:=ext_alloc W110 (.cells ([[.int .i64 5,.int .i64 0,.int .i64 0,.int .i64 0,.slice none 0 0,.slice la Pp.l.length lc],[.int .i64 5,.int .i64 0,.int .i64 0,.int .i64 0,.slice none 0 0,.slice ma Pq.l.length mc]].flatten.toArray) 39)
     have HB18:=Jh (Blk.new W110 ([[.int .i64 5,.int .i64 0,.int .i64 0,.int .i64 0,.slice none 0 0,.slice la Pp.l.length lc],[.int .i64 5,.int .i64 0,.int .i64 0,.int .i64 0,.slice none 0 0,.slice ma Pq.l.length mc]].flatten.toArray) 39)
     obtain ⟨B18,hB⟩:∃ B,W110.heap.size=B:=⟨_,rfl⟩
     have HSB18:=Jh (show w2.heap.size<=B18 from hB ▸ hH.size)
     rw [hB] at HB18 ⊢
     clear hB
     have HB3:=Jh (HB3.out.ext hx)
     have HBX:=Jh (HBX.out.ext hx)
     refine hK.out _ _ (hH.trans hx) (fun hH=>?_)
     clear hK K hx
     generalize W110.alloc _=W111 at *
     try simp only [J]
     (refine Jt 19 (.agg #[.int .i64 2,.int .i64 0,.int .i64 0,.int .i64 0,.slice (some ⟨B3,0,none⟩) 1 1,.slice (some ⟨B18,0,none⟩) 2 2]) rfl (yif_load1 rfl (by intro W hW;clear hW;go_simp)) hH ?_;try simp only [J])
     (refine Jr 20 rfl fun K hK=>?_)
     refine step_bs1 rfl _ _ rfl appT rfl (cs:=[.int .i64 2,.int .i64 0,.int .i64 0,.int .i64 0,.slice (some ⟨B3,0,none⟩) 1 1,.slice (some ⟨B18,0,none⟩) 2 2]) rfl rfl (by decide) ?_
     have hx:=ext_alloc W111 (.cells ([.int .i64 2,.int .i64 0,.int .i64 0,.int .i64 0,.slice (some ⟨B3,0,none⟩) 1 1,.slice (some ⟨B18,0,none⟩) 2 2]).toArray 39)
     have HB20:=Jh (Blk.new W111 ([.int .i64 2,.int .i64 0,.int .i64 0,.int .i64 0,.slice (some ⟨B3,0,none⟩) 1 1,.slice (some ⟨B18,0,none⟩) 2 2]).toArray 39)
     obtain ⟨B20,hB⟩:∃ B,W111.heap.size=B:=⟨_,rfl⟩
     have HSB20:=Jh (show w2.heap.size<=B20 from hB ▸ hH.size)
     rw [hB] at HB20 ⊢
     clear hB
     have HB3:=Jh (HB3.out.ext hx)
     have HBX:=Jh (HBX.out.ext hx)
     have HB18:=Jh (HB18.out.ext hx)
     refine hK.out _ _ (hH.trans hx) (fun hH=>?_)
     clear hK K hx
     generalize W111.alloc _=W112 at *
     try simp only [J]
     (refine Jr 21 rfl fun K hK=>?_)
     go_simp
     refine (with_callsB (HSG.out W112 hH) HPO.out HCO.out (HTS.out W112 hH HB3.out HB18.out HB20.out)).mono ?_
     rintro r W113 ⟨B2,rfl,hb2,hx⟩
     have HB2:=Jh hb2
     clear hb2
     have HB3:=Jh (HB3.out.ext hx)
     have HBX:=Jh (HBX.out.ext hx)
     have HB18:=Jh (HB18.out.ext hx)
     have HB20:=Jh (HB20.out.ext hx)
     refine hK.out _ _ (hH.trans hx) (fun hH=>?_)
     clear hK K hx
     try simp only [J]
     (refine Jr 23 rfl fun K hK=>?_)
     refine step_store_blk' rfl 26 _ _ rfl HBX.out rfl (cs:=[sv,.slice (some ⟨B2,0,none⟩) 1 1,.slice none 0 0]) rfl agg_Flat rfl rfl (by rw [List.all_cons,HSO.out];rfl) ?_
     intro W114 hb9 hg9
     have hx9:=hH.grown hg9 HSBX.out
     have hfin:=HFIN.out _ _ _ _ _ _ hx9 hb9 (HB2.out.grown hg9 (HB2.out.neT HBX.out (by decide))) (HB3.out.grown hg9 (HB3.out.neT HBX.out (by decide))) (HB18.out.grown hg9 (HB18.out.neT HBX.out (by decide))) (HB20.out.grown hg9 (HB20.out.neT HBX.out (by decide)))
     refine hK.out _ _ hx9 (fun hH=>?_)
     clear hK K
     refine Jz ?_
     go_wp2_with fail
     go_meet
     exact hfin
    ·
     go_simp
     refine (block11_calls ma Pq.l.length mc _).mono ?_
     rintro r W115 ⟨rfl,hx⟩
     have HBX:=Jh (HBX.out.ext hx)
     refine hK.out _ _ (hH.trans hx) (fun hH=>?_)
     clear hK K hx
     try simp only [J]
     refine wpAnyH_ready (rs:=[3,18]) (by kernel_rfl) (by simp) ?_
     refine AllReadyH.cons rfl (fun K hK=>?_) (AllReadyH.cons rfl (fun K hK=>?_) (AllReadyH.nil))
     ·
      refine step_bs1 rfl _ _ rfl appE rfl (cs:=e.cells s0) rfl rfl (by decide) ?_
      have hx:=ext_alloc W115 (.cells (e.cells s0).toArray 31)
      have HB3:=Jh (Blk.new W115 (e.cells s0).toArray 31)
      obtain ⟨B3,hB⟩:∃ B,W115.heap.size=B:=⟨_,rfl⟩
      have HSB3:=Jh (show w2.heap.size<=B3 from hB ▸ hH.size)
      rw [hB] at HB3 ⊢
      clear hB
      have HBX:=Jh (HBX.out.ext hx)
      refine hK.out _ _ (hH.trans hx) (fun hH=>?_)
      clear hK K hx
      generalize W115.alloc _=W116 at *
      try simp only [J]
      (refine Jr 18 rfl fun K hK=>?_)
      refine step_bsN rfl _ 2 _ rfl appT (vs:=[.agg [.int .i64 5,.int .i64 0,.int .i64 0,.int .i64 0,.slice none 0 0,.slice la Pp.l.length lc].toArray,.agg [.int .i64 5,.int .i64 0,.int .i64 0,.int .i64 0,.slice none 0 0,.slice ma Pq.l.length mc].toArray]) rfl rfl (css:=[[.int .i64 5,.int .i64 0,.int .i64 0,.int .i64 0,.slice none 0 0,.slice la Pp.l.length lc],[.int .i64 5,.int .i64 0,.int .i64 0,.int .i64 0,.slice none 0 0,.slice ma Pq.l.length mc]]) rfl (by simp) (by decide) (by decide) ?_
      have hx:=ext_alloc W116 (.cells ([[.int .i64 5,.int .i64 0,.int .i64 0,.int .i64 0,.slice none 0 0,.slice la Pp.l.length lc],[.int .i64 5,.int .i64 0,.int .i64 0,.int .i64 0,.slice none 0 0,.slice ma Pq.l.length mc]].flatten.toArray) 39)
      have HB18:=Jh (Blk.new W116 ([[.int .i64 5,.int .i64 0,.int .i64 0,.int .i64 0,.slice none 0 0,.slice la Pp.l.length lc],[.int .i64 5,.int .i64 0,.int .i64 0,.int .i64 0,.slice none 0 0,.slice ma Pq.l.length mc]].flatten.toArray) 39)
      obtain ⟨B18,hB⟩:∃ B,W116.heap.size=B:=⟨_,rfl⟩
      have HSB18:=Jh (show w2.heap.size<=B18 from hB ▸ hH.size)
      rw [hB] at HB18 ⊢
      clear hB
      have HB3:=Jh (HB3.out.ext hx)
      have HBX:=Jh (HBX.out.ext hx)
      refine hK.out _ _ (hH.trans hx) (fun hH=>?_)
      clear hK K hx
      generalize W116.alloc _=W117 at *
      try simp only [J]
      (refine Jt 19 (.agg #[.int .i64 2,.int .i64 0,.int .i64 0,.int .i64 0,.slice (some ⟨B3,0,none⟩) 1 1,.slice (some ⟨B18,0,none⟩) 2 2]) rfl (yif_load1 rfl (by intro W hW;clear hW;go_simp)) hH ?_;try simp only [J])
      (refine Jr 20 rfl fun K hK=>?_)
      refine step_bs1 rfl _ _ rfl appT rfl (cs:=[.int .i64 2,.int .i64 0,.int .i64 0,.int .i64 0,.slice (some ⟨B3,0,none⟩) 1 1,.slice (some ⟨B18,0,none⟩) 2 2]) rfl rfl (by decide) ?_
      have hx:=ext_alloc W117 (.cells ([.int .i64 2,.int .i64 0,.int .i64 0,.int .i64 0,.slice (some ⟨B3,0,none⟩) 1 1,.slice (some ⟨B18,0,none⟩) 2 2]).toArray 39)
      have HB20:=Jh (Blk.new W117 ([.int .i64 2,.int .i64 0,.int .i64 0,.int .i64 0,.slice (some ⟨B3,0,none⟩) 1 1,.slice (some ⟨B18,0,none⟩) 2 2]).toArray 39)
      obtain ⟨B20,hB⟩:∃ B,W117.heap.size=B:=⟨_,rfl⟩
      have HSB20:=Jh (show w2.heap.size<=B20 from hB ▸ hH.size)
      rw [hB] at HB20 ⊢
      clear hB
      have HB3:=Jh (HB3.out.ext hx)
      have HBX:=Jh (HBX.out.ext hx)
      have HB18:=Jh (HB18.out.ext hx)
      refine hK.out _ _ (hH.trans hx) (fun hH=>?_)
      clear hK K hx
      generalize W117.alloc _=W118 at *
      try simp only [J]
      (refine Jr 21 rfl fun K hK=>?_)
      go_simp
      refine (with_callsB (HSG.out W118 hH) HPO.out HCO.out (HTS.out W118 hH HB3.out HB18.out HB20.out)).mono ?_
      rintro r W119 ⟨B2,rfl,hb2,hx⟩
      have HB2:=Jh hb2
      clear hb2
      have HB3:=Jh (HB3.out.ext hx)
      have HBX:=Jh (HBX.out.ext hx)
      have HB18:=Jh (HB18.out.ext hx)
      have HB20:=Jh (HB20.out.ext hx)
      refine hK.out _ _ (hH.trans hx) (fun hH=>?_)
      clear hK K hx
      try simp only [J]
      (refine Jr 23 rfl fun K hK=>?_)
      refine step_store_blk' rfl 26 _ _ rfl HBX.out rfl (cs:=[sv,.slice (some ⟨B2,0,none⟩) 1 1,.slice none 0 0]) rfl agg_Flat rfl rfl (by rw [List.all_cons,HSO.out];rfl) ?_
      intro W120 hb9 hg9
      have hx9:=hH.grown hg9 HSBX.out
      have hfin:=HFIN.out _ _ _ _ _ _ hx9 hb9 (HB2.out.grown hg9 (HB2.out.neT HBX.out (by decide))) (HB3.out.grown hg9 (HB3.out.neT HBX.out (by decide))) (HB18.out.grown hg9 (HB18.out.neT HBX.out (by decide))) (HB20.out.grown hg9 (HB20.out.neT HBX.out (by decide)))
      refine hK.out _ _ hx9 (fun hH=>?_)
      clear hK K
      refine Jz ?_
      go_wp2_with fail
      go_meet
      exact hfin
     ·
      refine step_bsN rfl _ 2 _ rfl appT (vs:=[.agg [.int .i64 5,.int .i64 0,.int .i64 0,.int .i64 0,.slice none 0 0,.slice la Pp.l.length lc].toArray,.agg [.int .i64 5,.int .i64 0,.int .i64 0,.int .i64 0,.slice none 0 0,.slice ma Pq.l.length mc].toArray]) rfl rfl (css:=[[.int .i64 5,.int .i64 0,.int .i64 0,.int .i64 0,.slice none 0 0,.slice la Pp.l.length lc],[.int .i64 5,.int .i64 0,.int .i64 0,.int .i64 0,.slice none 0 0,.slice ma Pq.l.length mc]]) rfl (by simp) (by decide) (by decide) ?_
      have hx:=ext_alloc W115 (.cells ([[.int .i64 5,.int .i64 0,.int .i64 0,.int .i64 0,.slice none 0 0,.slice la Pp.l.length lc],[.int .i64 5,.int .i64 0,.int .i64 0,.int .i64 0,.slice none 0 0,.slice ma Pq.l.length mc]].flatten.toArray) 39)
      have HB18:=Jh (Blk.new W115 ([[.int .i64 5,.int .i64 0,.int .i64 0,.int .i64 0,.slice none 0 0,.slice la Pp.l.length lc],[.int .i64 5,.int .i64 0,.int .i64 0,.int .i64 0,.slice none 0 0,.slice ma Pq.l.length mc]].flatten.toArray) 39)
      obtain ⟨B18,hB⟩:∃ B,W115.heap.size=B:=⟨_,rfl⟩
      have HSB18:=Jh (show w2.heap.size<=B18 from hB ▸ hH.size)
      rw [hB] at HB18 ⊢
      clear hB
      have HBX:=Jh (HBX.out.ext hx)
      refine hK.out _ _ (hH.trans hx) (fun hH=>?_)
      clear hK K hx
      generalize W115.alloc _=W121 at *
      try simp only [J]
      (refine Jr 3 rfl fun K hK=>?_)
      refine step_bs1 rfl _ _ rfl appE rfl (cs:=e.cells s0) rfl rfl (by decide) ?_
      have hx:=ext_alloc W121 (.cells (e.cells s0).toArray 31)
      have HB3:=Jh (Blk.new W121 (e.cells s0).toArray 31)
      obtain ⟨B3,hB⟩:∃ B,W121.heap.size=B:=⟨_,rfl⟩
      have HSB3:=Jh (show w2.heap.size<=B3 from hB ▸ hH.size)
      rw [hB] at HB3 ⊢
      clear hB
      have HBX:=Jh (HBX.out.ext hx)
      have HB18:=Jh (HB18.out.ext hx)
      refine hK.out _ _ (hH.trans hx) (fun hH=>?_)
      clear hK K hx
      generalize W121.alloc _=W122 at *
      try simp only [J]
      (refine Jt 19 (.agg #[.int .i64 2,.int .i64 0,.int .i64 0,.int .i64 0,.slice (some ⟨B3,0,none⟩) 1 1,.slice (some ⟨B18,0,none⟩) 2 2]) rfl (yif_load1 rfl (by intro W hW;clear hW;go_simp)) hH ?_;try simp only [J])
      (refine Jr 20 rfl fun K hK=>?_)
      refine step_bs1 rfl _ _ rfl appT rfl (cs:=[.int .i64 2,.int .i64 0,.int .i64 0,.int .i64 0,.slice (some ⟨B3,0,none⟩) 1 1,.slice (some ⟨B18,0,none⟩) 2 2]) rfl rfl (by decide) ?_
      have hx:=ext_alloc W122 (.cells ([.int .i64 2,.int .i64 0,.int .i64 0,.int .i64 0,.slice (some ⟨B3,0,none⟩) 1 1,.slice (some ⟨B18,0,none⟩) 2 2]).toArray 39)
      have HB20:=Jh (Blk.new W122 ([.int .i64 2,.int .i64 0,.int .i64 0,.int .i64 0,.slice (some ⟨B3,0,none⟩) 1 1,.slice (some ⟨B18,0,none⟩) 2 2]).toArray 39)
      obtain ⟨B20,hB⟩:∃ B,W122.heap.size=B:=⟨_,rfl⟩
      have HSB20:=Jh (show w2.heap.size<=B20 from hB ▸ hH.size)
      rw [hB] at HB20 ⊢
      clear hB
      have HB3:=Jh (HB3.out.ext hx)
      have HBX:=Jh (HBX.out.ext hx)
      have HB18:=Jh (HB18.out.ext hx)
      refine hK.out _ _ (hH.trans hx) (fun hH=>?_)
      clear hK K hx
      generalize W122.alloc _=W123 at *
      try simp only [J]
      (refine Jr 21 rfl fun K hK=>?_)
      go_simp
      refine (with_callsB (HSG.out W123 hH) HPO.out HCO.out (HTS.out W123 hH HB3.out HB18.out HB20.out)).mono ?_
      rintro r W124 ⟨B2,rfl,hb2,hx⟩
      have HB2:=Jh hb2
      clear hb2
      have HB3:=Jh (HB3.out.ext hx)
      have HBX:=Jh (HBX.out.ext hx)
      have HB18:=Jh (HB18.out.ext hx)
      have HB20:=Jh (HB20.out.ext hx)
      refine hK.out _ _ (hH.trans hx) (fun hH=>?_)
      clear hK K hx
      try simp only [J]
      (refine Jr 23 rfl fun K hK=>?_)
      refine step_store_blk' rfl 26 _ _ rfl HBX.out rfl (cs:=[sv,.slice (some ⟨B2,0,none⟩) 1 1,.slice none 0 0]) rfl agg_Flat rfl rfl (by rw [List.all_cons,HSO.out];rfl) ?_
      intro W125 hb9 hg9
      have hx9:=hH.grown hg9 HSBX.out
      have hfin:=HFIN.out _ _ _ _ _ _ hx9 hb9 (HB2.out.grown hg9 (HB2.out.neT HBX.out (by decide))) (HB3.out.grown hg9 (HB3.out.neT HBX.out (by decide))) (HB18.out.grown hg9 (HB18.out.neT HBX.out (by decide))) (HB20.out.grown hg9 (HB20.out.neT HBX.out (by decide)))
      refine hK.out _ _ hx9 (fun hH=>?_)
      clear hK K
      refine Jz ?_
      go_wp2_with fail
      go_meet
      exact hfin
  ·
   go_simp
   have hx:=ext_alloc W0 (.cells #[.slice none 0 0,.slice none 0 0,.slice none 0 0] 26)
   have HBX:=Jh (Blk.new W0 #[.slice none 0 0,.slice none 0 0,.slice none 0 0] 26)
   obtain ⟨BX,hB⟩:∃ B,W0.heap.size=B:=⟨_,rfl⟩
   have HSBX:=Jh (show w2.heap.size<=BX from hB ▸ hH.size)
   rw [hB] at HBX ⊢
   clear hB
   refine hK.out _ _ (hH.trans hx) (fun hH=>?_)
   clear hK K hx
   generalize W0.alloc _=W126 at *
   try simp only [J]
   refine wpAnyH_ready (rs:=[3,10]) (by kernel_rfl) (by simp) ?_
   refine AllReadyH.cons rfl (fun K hK=>?_) (AllReadyH.cons rfl (fun K hK=>?_) (AllReadyH.nil))
   ·
    refine step_bs1 rfl _ _ rfl appE rfl (cs:=e.cells s0) rfl rfl (by decide) ?_
    have hx:=ext_alloc W126 (.cells (e.cells s0).toArray 31)
    have HB3:=Jh (Blk.new W126 (e.cells s0).toArray 31)
    obtain ⟨B3,hB⟩:∃ B,W126.heap.size=B:=⟨_,rfl⟩
    have HSB3:=Jh (show w2.heap.size<=B3 from hB ▸ hH.size)
    rw [hB] at HB3 ⊢
    clear hB
    have HBX:=Jh (HBX.out.ext hx)
    refine hK.out _ _ (hH.trans hx) (fun hH=>?_)
    clear hK K hx
    generalize W126.alloc _=W127 at *
    try simp only [J]
    (refine Jr 10 rfl fun K hK=>?_)
    go_simp
    refine (block11_calls la Pp.l.length lc _).mono ?_
    rintro r W128 ⟨rfl,hx⟩
    have HB3:=Jh (HB3.out.ext hx)
    have HBX:=Jh (HBX.out.ext hx)
    refine hK.out _ _ (hH.trans hx) (fun hH=>?_)
    clear hK K hx
    try simp only [J]
    (refine Jr 17 rfl fun K hK=>?_)
    go_simp
    refine (block11_calls ma Pq.l.length mc _).mono ?_
    rintro r W129 ⟨rfl,hx⟩
    have HB3:=Jh (HB3.out.ext hx)
    have HBX:=Jh (HBX.out.ext hx)
    refine hK.out _ _ (hH.trans hx) (fun hH=>?_)
    clear hK K hx
    try simp only [J]
    (refine Jr 18 rfl fun K hK=>?_)
    refine step_bsN rfl _ 2 _ rfl appT (vs:=[.agg [.int .i64 5,.int .i64 0,.int .i64 0,.int .i64 0,.slice none 0 0,.slice la Pp.l.length lc].toArray,.agg [.int .i64 5,.int .i64 0,.int .i64 0,.int .i64 0,.slice none 0 0,.slice ma Pq.l.length mc].toArray]) rfl rfl (css:=[[.int .i64 5,.int .i64 0,.int .i64 0,.int .i64 0,.slice none 0 0,.slice la Pp.l.length lc],[.int .i64 5,.int .i64 0,.int .i64 0,.int .i64 0,.slice none 0 0,.slice ma Pq.l.length mc]]) rfl (by simp) (by decide) (by decide) ?_
    have hx:=ext_alloc W129 (.cells ([[.int .i64 5,.int .i64 0,.int .i64 0,.int .i64 0,.slice none 0 0,.slice la Pp.l.length lc],[.int .i64 5,.int .i64 0,.int .i64 0,.int .i64 0,.slice none 0 0,.slice ma Pq.l.length mc]].flatten.toArray) 39)
    have HB18:=Jh (Blk.new W129 ([[.int .i64 5,.int .i64 0,.int .i64 0,.int .i64 0,.slice none 0 0,.slice la Pp.l.length lc],[.int .i64 5,.int .i64 0,.int .i64 0,.int .i64 0,.slice none 0 0,.slice ma Pq.l.length mc]].flatten.toArray) 39)
    obtain ⟨B18,hB⟩:∃ B,W129.heap.size=B:=⟨_,rfl⟩
    have HSB18:=Jh (show w2.heap.size<=B18 from hB ▸ hH.size)
    rw [hB] at HB18 ⊢
    clear hB
    have HB3:=Jh (HB3.out.ext hx)
    have HBX:=Jh (HBX.out.ext hx)
    refine hK.out _ _ (hH.trans hx) (fun hH=>?_)
    clear hK K hx
    generalize W129.alloc _=W130 at *
    try simp only [J]
    (refine Jt 19 (.agg #[.int .i64 2,.int .i64 0,.int .i64 0,.int .i64 0,.slice (some ⟨B3,0,none⟩) 1 1,.slice (some ⟨B18,0,none⟩) 2 2]) rfl (yif_load1 rfl (by intro W hW;clear hW;go_simp)) hH ?_;try simp only [J])
    (refine Jr 20 rfl fun K hK=>?_)
    refine step_bs1 rfl _ _ rfl appT rfl (cs:=[.int .i64 2,.int .i64 0,.int .i64 0,.int .i64 0,.slice (some ⟨B3,0,none⟩) 1 1,.slice (some ⟨B18,0,none⟩) 2 2]) rfl rfl (by decide) ?_
    have hx:=ext_alloc W130 (.cells ([.int .i64 2,.int .i64 0,.int .i64 0,.int .i64 0,.slice (some ⟨B3,0,none⟩) 1 1,.slice (some ⟨B18,0,none⟩) 2 2]).toArray 39)
    have HB20:=Jh (Blk.new W130 ([.int .i64 2,.int .i64 0,.int .i64 0,.int .i64 0,.slice (some ⟨B3,0,none⟩) 1 1,.slice (some ⟨B18,0,none⟩) 2 2]).toArray 39)
    obtain ⟨B20,hB⟩:∃ B,W130.heap.size=B:=⟨_,rfl⟩
    have HSB20:=Jh (show w2.heap.size<=B20 from hB ▸ hH.size)
    rw [hB] at HB20 ⊢
    clear hB
    have HB3:=Jh (HB3.out.ext hx)
    have HBX:=Jh (HBX.out.ext hx)
    have HB18:=Jh (HB18.out.ext hx)
    refine hK.out _ _ (hH.trans hx) (fun hH=>?_)
    clear hK K hx
    generalize W130.alloc _=W131 at *
    try simp only [J]
    (refine Jr 21 rfl fun K hK=>?_)
    go_simp
    refine (with_callsB (HSG.out W131 hH) HPO.out HCO.out (HTS.out W131 hH HB3.out HB18.out HB20.out)).mono ?_
    rintro r W132 ⟨B2,rfl,hb2,hx⟩
    have HB2:=Jh hb2
    clear hb2
    have HB3:=Jh (HB3.out.ext hx)
    have HBX:=Jh (HBX.out.ext hx)
    have HB18:=Jh (HB18.out.ext hx)
    have HB20:=Jh (HB20.out.ext hx)
    refine hK.out _ _ (hH.trans hx) (fun hH=>?_)
    clear hK K hx
    try simp only [J]
    (refine Jr 23 rfl fun K hK=>?_)
    refine step_store_blk' rfl 26 _ _ rfl HBX.out rfl (cs:=[sv,.slice (some ⟨B2,0,none⟩) 1 1,.slice none 0 0]) rfl agg_Flat rfl rfl (by rw [List.all_cons,HSO.out];rfl) ?_
    intro W133 hb9 hg9
    have hx9:=hH.grown hg9 HSBX.out
    have hfin:=HFIN.out _ _ _ _ _ _ hx9 hb9 (HB2.out.grown hg9 (HB2.out.neT HBX.out (by decide))) (HB3.out.grown hg9 (HB3.out.neT HBX.out (by decide))) (HB18.out.grown hg9 (HB18.out.neT HBX.out (by decide))) (HB20.out.grown hg9 (HB20.out.neT HBX.out (by decide)))
    refine hK.out _ _ hx9 (fun hH=>?_)
    clear hK K
    refine Jz ?_
    go_wp2_with fail
    go_meet
    exact hfin
   ·
    go_simp
    refine (block11_calls la Pp.l.length lc _).mono ?_
    rintro r W134 ⟨rfl,hx⟩
    have HBX:=Jh (HBX.out.ext hx)
    refine hK.out _ _ (hH.trans hx) (fun hH=>?_)
    clear hK K hx
    try simp only [J]
    refine wpAnyH_ready (rs:=[3,17]) (by kernel_rfl) (by simp) ?_
    refine AllReadyH.cons rfl (fun K hK=>?_) (AllReadyH.cons rfl (fun K hK=>?_) (AllReadyH.nil))
    ·
     refine step_bs1 rfl _ _ rfl appE rfl (cs:=e.cells s0) rfl rfl (by decide) ?_
     have hx:=ext_alloc W134 (.cells (e.cells s0).toArray 31)
     have HB3:=Jh (Blk.new W134 (e.cells s0).toArray 31)
     obtain ⟨B3,hB⟩:∃ B,W134.heap.size=B:=⟨_,rfl⟩
     have HSB3:=Jh (show w2.heap.size<=B3 from hB ▸ hH.size)
     rw [hB] at HB3 ⊢
     clear hB
     have HBX:=Jh (HBX.out.ext hx)
     refine hK.out _ _ (hH.trans hx) (fun hH=>?_)
     clear hK K hx
     generalize W134.alloc _=W135 at *
     try simp only [J]
     (refine Jr 17 rfl fun K hK=>?_)
     go_simp
     refine (block11_calls ma Pq.l.length mc _).mono ?_
     rintro r W136 ⟨rfl,hx⟩
     have HB3:=Jh (HB3.out.ext hx)
     have HBX:=Jh (HBX.out.ext hx)
     refine hK.out _ _ (hH.trans hx) (fun hH=>?_)
     clear hK K hx
     try simp only [J]
     (refine Jr 18 rfl fun K hK=>?_)
     refine step_bsN rfl _ 2 _ rfl appT (vs:=[.agg [.int .i64 5,.int .i64 0,.int .i64 0,.int .i64 0,.slice none 0 0,.slice la Pp.l.length lc].toArray,.agg [.int .i64 5,.int .i64 0,.int .i64 0,.int .i64 0,.slice none 0 0,.slice ma Pq.l.length mc].toArray]) rfl rfl (css:=[[.int .i64 5,.int .i64 0,.int .i64 0,.int .i64 0,.slice none 0 0,.slice la Pp.l.length lc],[.int .i64 5,.int .i64 0,.int .i64 0,.int .i64 0,.slice none 0 0,.slice ma Pq.l.length mc]]) rfl (by simp) (by decide) (by decide) ?_
     have hx:=ext_alloc W136 (.cells ([[.int .i64 5,.int .i64 0,.int .i64 0,.int .i64 0,.slice none 0 0,.slice la Pp.l.length lc],[.int .i64 5,.int .i64 0,.int .i64 0,.int .i64 0,.slice none 0 0,.slice ma Pq.l.length mc]].flatten.toArray) 39)
     have HB18:=Jh (Blk.new W136 ([[.int .i64 5,.int .i64 0,.int .i64 0,.int .i64 0,.slice none 0 0,.slice la Pp.l.length lc],[.int .i64 5,.int .i64 0,.int .i64 0,.int .i64 0,.slice none 0 0,.slice ma Pq.l.length mc]].flatten.toArray) 39)
     obtain ⟨B18,hB⟩:∃ B,W136.heap.size=B:=⟨_,rfl⟩
     have HSB18:=Jh (show w2.heap.size<=B18 from hB ▸ hH.size)
     rw [hB] at HB18 ⊢
     clear hB
     have HB3:=Jh (HB3.out.ext hx)
     have HBX:=Jh (HBX.out.ext hx)
     refine hK.out _ _ (hH.trans hx) (fun hH=>?_)
     clear hK K hx
     generalize W136.alloc _=W137 at *
     try simp only [J]
     (refine Jt 19 (.agg #[.int .i64 2,.int .i64 0,.int .i64 0,.int .i64 0,.slice (some ⟨B3,0,none⟩) 1 1,.slice (some ⟨B18,0,none⟩) 2 2]) rfl (yif_load1 rfl (by intro W hW;clear hW;go_simp)) hH ?_;try simp only [J])
     (refine Jr 20 rfl fun K hK=>?_)
     refine step_bs1 rfl _ _ rfl appT rfl (cs:=[.int .i64 2,.int .i64 0,.int .i64 0,.int .i64 0,.slice (some ⟨B3,0,none⟩) 1 1,.slice (some ⟨B18,0,none⟩) 2 2]) rfl rfl (by decide) ?_
     have hx:=ext_alloc W137 (.cells ([.int .i64 2,.int .i64 0,.int .i64 0,.int .i64 0,.slice (some ⟨B3,0,none⟩) 1 1,.slice (some ⟨B18,0,none⟩) 2 2]).toArray 39)
     have HB20:=Jh (Blk.new W137 ([.int .i64 2,.int .i64 0,.int .i64 0,.int .i64 0,.slice (some ⟨B3,0,none⟩) 1 1,.slice (some ⟨B18,0,none⟩) 2 2]).toArray 39)
     obtain ⟨B20,hB⟩:∃ B,W137.heap.size=B:=⟨_,rfl⟩
     have HSB20:=Jh (show w2.heap.size<=B20 from hB ▸ hH.size)
     rw [hB] at HB20 ⊢
     clear hB
     have HB3:=Jh (HB3.out.ext hx)
     have HBX:=Jh (HBX.out.ext hx)
     have HB18:=Jh (HB18.out.ext hx)
     refine hK.out _ _ (hH.trans hx) (fun hH=>?_)
     clear hK K hx
     generalize W137.alloc _=W138 at *
     try simp only [J]
     (refine Jr 21 rfl fun K hK=>?_)
     go_simp
     refine (with_callsB (HSG.out W138 hH) HPO.out HCO.out (HTS.out W138 hH HB3.out HB18.out HB20.out)).mono ?_
     rintro r W139 ⟨B2,rfl,hb2,hx⟩
     have HB2:=Jh hb2
     clear hb2
     have HB3:=Jh (HB3.out.ext hx)
     have HBX:=Jh (HBX.out.ext hx)
     have HB18:=Jh (HB18.out.ext hx)
     have HB20:=Jh (HB20.out.ext hx)
     refine hK.out _ _ (hH.trans hx) (fun hH=>?_)
     clear hK K hx
     try simp only [J]
     (refine Jr 23 rfl fun K hK=>?_)
     refine step_store_blk' rfl 26 _ _ rfl HBX.out rfl (cs:=[sv,.slice (some ⟨B2,0,none⟩) 1 1,.slice none 0 0]) rfl agg_Flat rfl rfl (by rw [List.all_cons,HSO.out];rfl) ?_
     intro W140 hb9 hg9
     have hx9:=hH.grown hg9 HSBX.out
     have hfin:=HFIN.out _ _ _ _ _ _ hx9 hb9 (HB2.out.grown hg9 (HB2.out.neT HBX.out (by decide))) (HB3.out.grown hg9 (HB3.out.neT HBX.out (by decide))) (HB18.out.grown hg9 (HB18.out.neT HBX.out (by decide))) (HB20.out.grown hg9 (HB20.out.neT HBX.out (by decide)))
     refine hK.out _ _ hx9 (fun hH=>?_)
     clear hK K
     refine Jz ?_
     go_wp2_with fail
     go_meet
     exact hfin
    ·
     go_simp
     refine (block11_calls ma Pq.l.length mc _).mono ?_
     rintro r W141 ⟨rfl,hx⟩
     have HBX:=Jh (HBX.out.ext hx)
     refine hK.out _ _ (hH.trans hx) (fun hH=>?_)
     clear hK K hx
     try simp only [J]
     refine wpAnyH_ready (rs:=[3,18]) (by kernel_rfl) (by simp) ?_
     refine AllReadyH.cons rfl (fun K hK=>?_) (AllReadyH.cons rfl (fun K hK=>?_) (AllReadyH.nil))
     ·
      refine step_bs1 rfl _ _ rfl appE rfl (cs:=e.cells s0) rfl rfl (by decide) ?_
      have hx:=ext_alloc W141 (.cells (e.cells s0).toArray 31)
      have HB3:=Jh (Blk.new W141 (e.cells s0).toArray 31)
      obtain ⟨B3,hB⟩:∃ B,W141.heap.size=B:=⟨_,rfl⟩
      have HSB3:=Jh (show w2.heap.size<=B3 from hB ▸ hH.size)
      rw [hB] at HB3 ⊢
      clear hB
      have HBX:=Jh (HBX.out.ext hx)
      refine hK.out _ _ (hH.trans hx) (fun hH=>?_)
      clear hK K hx
      generalize W141.alloc _=W142 at *
      try simp only [J]
      (refine Jr 18 rfl fun K hK=>?_)
      refine step_bsN rfl _ 2 _ rfl appT (vs:=[.agg [.int .i64 5,.int .i64 0,.int .i64 0,.int .i64 0,.slice none 0 0,.slice la Pp.l.length lc].toArray,.agg [.int .i64 5,.int .i64 0,.int .i64 0,.int .i64 0,.slice none 0 0,.slice ma Pq.l.length mc].toArray]) rfl rfl (css:=[[.int .i64 5,.int .i64 0,.int .i64 0,.int .i64 0,.slice none 0 0,.slice la Pp.l.length lc],[.int .i64 5,.int .i64 0,.int .i64 0,.int .i64 0,.slice none 0 0,.slice ma Pq.l.length mc]]) rfl (by simp) (by decide) (by decide) ?_
      have hx:=ext_alloc W142 (.cells ([[.int .i64 5,.int .i64 0,.int .i64 0,.int .i64 0,.slice none 0 0,.slice la Pp.l.length lc],[.int .i64 5,.int .i64 0,.int .i64 0,.int .i64 0,.slice none 0 0,.slice ma Pq.l.length mc]].flatten.toArray) 39)
      have HB18:=Jh (Blk.new W142 ([[.int .i64 5,.int .i64 0,.int .i64 0,.int .i64 0,.slice none 0 0,.slice la Pp.l.length lc],[.int .i64 5,.int .i64 0,.int .i64 0,.int .i64 0,.slice none 0 0,.slice ma Pq.l.length mc]].flatten.toArray) 39)
      obtain ⟨B18,hB⟩:∃ B,W142.heap.size=B:=⟨_,rfl⟩
      have HSB18:=Jh (show w2.heap.size<=B18 from hB ▸ hH.size)
      rw [hB] at HB18 ⊢
      clear hB
      have HB3:=Jh (HB3.out.ext hx)
      have HBX:=Jh (HBX.out.ext hx)
      refine hK.out _ _ (hH.trans hx) (fun hH=>?_)
      clear hK K hx
      generalize W142.alloc _=W143 at *
      try simp only [J]
      (refine Jt 19 (.agg #[.int .i64 2,.int .i64 0,.int .i64 0,.int .i64 0,.slice (some ⟨B3,0,none⟩) 1 1,.slice (some ⟨B18,0,none⟩) 2 2]) rfl (yif_load1 rfl (by intro W hW;clear hW;go_simp)) hH ?_;try simp only [J])
      (refine Jr 20 rfl fun K hK=>?_)
      refine step_bs1 rfl _ _ rfl appT rfl (cs:=[.int .i64 2,.int .i64 0,.int .i64 0,.int .i64 0,.slice (some ⟨B3,0,none⟩) 1 1,.slice (some ⟨B18,0,none⟩) 2 2]) rfl rfl (by decide) ?_
      have hx:=ext_alloc W143 (.cells ([.int .i64 2,.int .i64 0,.int .i64 0,.int .i64 0,.slice (some ⟨B3,0,none⟩) 1 1,.slice (some ⟨B18,0,none⟩) 2 2]).toArray 39)
      have HB20:=Jh (Blk.new W143 ([.int .i64 2,.int .i64 0,.int .i64 0,.int .i64 0,.slice (some ⟨B3,0,none⟩) 1 1,.slice (some ⟨B18,0,none⟩) 2 2]).toArray 39)
      obtain ⟨B20,hB⟩:∃ B,W143.heap.size=B:=⟨_,rfl⟩
      have HSB20:=Jh (show w2.heap.size<=B20 from hB ▸ hH.size)
      rw [hB] at HB20 ⊢
      clear hB
      have HB3:=Jh (HB3.out.ext hx)
      have HBX:=Jh (HBX.out.ext hx)
      have HB18:=Jh (HB18.out.ext hx)
      refine hK.out _ _ (hH.trans hx) (fun hH=>?_)
      clear hK K hx
      generalize W143.alloc _=W144 at *
      try simp only [J]
      (refine Jr 21 rfl fun K hK=>?_)
      go_simp
      refine (with_callsB (HSG.out W144 hH) HPO.out HCO.out (HTS.out W144 hH HB3.out HB18.out HB20.out)).mono ?_
      rintro r W145 ⟨B2,rfl,hb2,hx⟩
      have HB2:=Jh hb2
      clear hb2
      have HB3:=Jh (HB3.out.ext hx)
      have HBX:=Jh (HBX.out.ext hx)
      have HB18:=Jh (HB18.out.ext hx)
      have HB20:=Jh (HB20.out.ext hx)
      refine hK.out _ _ (hH.trans hx) (fun hH=>?_)
      clear hK K hx
      try simp only [J]
      (refine Jr 23 rfl fun K hK=>?_)
      refine step_store_blk' rfl 26 _ _ rfl HBX.out rfl (cs:=[sv,.slice (some ⟨B2,0,none⟩) 1 1,.slice none 0 0]) rfl agg_Flat rfl rfl (by rw [List.all_cons,HSO.out];rfl) ?_
      intro W146 hb9 hg9
      have hx9:=hH.grown hg9 HSBX.out
      have hfin:=HFIN.out _ _ _ _ _ _ hx9 hb9 (HB2.out.grown hg9 (HB2.out.neT HBX.out (by decide))) (HB3.out.grown hg9 (HB3.out.neT HBX.out (by decide))) (HB18.out.grown hg9 (HB18.out.neT HBX.out (by decide))) (HB20.out.grown hg9 (HB20.out.neT HBX.out (by decide)))
      refine hK.out _ _ hx9 (fun hH=>?_)
      clear hK K
      refine Jz ?_
      go_wp2_with fail
      go_meet
      exact hfin
     ·
      refine step_bsN rfl _ 2 _ rfl appT (vs:=[.agg [.int .i64 5,.int .i64 0,.int .i64 0,.int .i64 0,.slice none 0 0,.slice la Pp.l.length lc].toArray,.agg [.int .i64 5,.int .i64 0,.int .i64 0,.int .i64 0,.slice none 0 0,.slice ma Pq.l.length mc].toArray]) rfl rfl (css:=[[.int .i64 5,.int .i64 0,.int .i64 0,.int .i64 0,.slice none 0 0,.slice la Pp.l.length lc],[.int .i64 5,.int .i64 0,.int .i64 0,.int .i64 0,.slice none 0 0,.slice ma Pq.l.length mc]]) rfl (by simp) (by decide) (by decide) ?_
      have hx:=ext_alloc W141 (.cells ([[.int .i64 5,.int .i64 0,.int .i64 0,.int .i64 0,.slice none 0 0,.slice la Pp.l.length lc],[.int .i64 5,.int .i64 0,.int .i64 0,.int .i64 0,.slice none 0 0,.slice ma Pq.l.length mc]].flatten.toArray) 39)
      have HB18:=Jh (Blk.new W141 ([[.int .i64 5,.int .i64 0,.int .i64 0,.int .i64 0,.slice none 0 0,.slice la Pp.l.length lc],[.int .i64 5,.int .i64 0,.int .i64 0,.int .i64 0,.slice none 0 0,.slice ma Pq.l.length mc]].flatten.toArray) 39)
      obtain ⟨B18,hB⟩:∃ B,W141.heap.size=B:=⟨_,rfl⟩
      have HSB18:=Jh (show w2.heap.size<=B18 from hB ▸ hH.size)
      rw [hB] at HB18 ⊢
      clear hB
      have HBX:=Jh (HBX.out.ext hx)
      refine hK.out _ _ (hH.trans hx) (fun hH=>?_)
      clear hK K hx
      generalize W141.alloc _=W147 at *
      try simp only [J]
      (refine Jr 3 rfl fun K hK=>?_)
      refine step_bs1 rfl _ _ rfl appE rfl (cs:=e.cells s0) rfl rfl (by decide) ?_
      have hx:=ext_alloc W147 (.cells (e.cells s0).toArray 31)
      have HB3:=Jh (Blk.new W147 (e.cells s0).toArray 31)
      obtain ⟨B3,hB⟩:∃ B,W147.heap.size=B:=⟨_,rfl⟩
      have HSB3:=Jh (show w2.heap.size<=B3 from hB ▸ hH.size)
      rw [hB] at HB3 ⊢
      clear hB
      have HBX:=Jh (HBX.out.ext hx)
      have HB18:=Jh (HB18.out.ext hx)
      refine hK.out _ _ (hH.trans hx) (fun hH=>?_)
      clear hK K hx
      generalize W147.alloc _=W148 at *
      try simp only [J]
      (refine Jt 19 (.agg #[.int .i64 2,.int .i64 0,.int .i64 0,.int .i64 0,.slice (some ⟨B3,0,none⟩) 1 1,.slice (some ⟨B18,0,none⟩) 2 2]) rfl (yif_load1 rfl (by intro W hW;clear hW;go_simp)) hH ?_;try simp only [J])
      (refine Jr 20 rfl fun K hK=>?_)
      refine step_bs1 rfl _ _ rfl appT rfl (cs:=[.int .i64 2,.int .i64 0,.int .i64 0,.int .i64 0,.slice (some ⟨B3,0,none⟩) 1 1,.slice (some ⟨B18,0,none⟩) 2 2]) rfl rfl (by decide) ?_
      have hx:=ext_alloc W148 (.cells ([.int .i64 2,.int .i64 0,.int .i64 0,.int .i64 0,.slice (some ⟨B3,0,none⟩) 1 1,.slice (some ⟨B18,0,none⟩) 2 2]).toArray 39)
      have HB20:=Jh (Blk.new W148 ([.int .i64 2,.int .i64 0,.int .i64 0,.int .i64 0,.slice (some ⟨B3,0,none⟩) 1 1,.slice (some ⟨B18,0,none⟩) 2 2]).toArray 39)
      obtain ⟨B20,hB⟩:∃ B,W148.heap.size=B:=⟨_,rfl⟩
      have HSB20:=Jh (show w2.heap.size<=B20 from hB ▸ hH.size)
      rw [hB] at HB20 ⊢
      clear hB
      have HB3:=Jh (HB3.out.ext hx)
      have HBX:=Jh (HBX.out.ext hx)
      have HB18:=Jh (HB18.out.ext hx)
      refine hK.out _ _ (hH.trans hx) (fun hH=>?_)
      clear hK K hx
      generalize W148.alloc _=W149 at *
      try simp only [J]
      (refine Jr 21 rfl fun K hK=>?_)
      go_simp
      refine (with_callsB (HSG.out W149 hH) HPO.out HCO.out (HTS.out W149 hH HB3.out HB18.out HB20.out)).mono ?_
      rintro r W150 ⟨B2,rfl,hb2,hx⟩
      have HB2:=Jh hb2
      clear hb2
      have HB3:=Jh (HB3.out.ext hx)
      have HBX:=Jh (HBX.out.ext hx)
      have HB18:=Jh (HB18.out.ext hx)
      have HB20:=Jh (HB20.out.ext hx)
      refine hK.out _ _ (hH.trans hx) (fun hH=>?_)
      clear hK K hx
      try simp only [J]
      (refine Jr 23 rfl fun K hK=>?_)
      refine step_store_blk' rfl 26 _ _ rfl HBX.out rfl (cs:=[sv,.slice (some ⟨B2,0,none⟩) 1 1,.slice none 0 0]) rfl agg_Flat rfl rfl (by rw [List.all_cons,HSO.out];rfl) ?_
      intro W151 hb9 hg9
      have hx9:=hH.grown hg9 HSBX.out
      have hfin:=HFIN.out _ _ _ _ _ _ hx9 hb9 (HB2.out.grown hg9 (HB2.out.neT HBX.out (by decide))) (HB3.out.grown hg9 (HB3.out.neT HBX.out (by decide))) (HB18.out.grown hg9 (HB18.out.neT HBX.out (by decide))) (HB20.out.grown hg9 (HB20.out.neT HBX.out (by decide)))
      refine hK.out _ _ hx9 (fun hH=>?_)
      clear hK K
      refine Jz ?_
      go_wp2_with fail
      go_meet
      exact hfin
 case rest =>
  obtain ⟨Bx,xs,rfl,hxl,hbx,hfx,-,hxc⟩:=hcut
  obtain ⟨a1,a2,a3,rfl⟩:∃ a b c,xs=[a,b,c]:=by
   match xs,hxl with
   | [a,b,c],_=>exact ⟨_,_,_,rfl⟩
  have hsm:=few11_small HFV.out
  have hxok:=xChoice_ok HOK.out hsm HPM.out HQM.out HWE.out HNE.out Pp.clocked
  have HRC:=Jh (fun hc hx=>choice_run hpn hqn HLP.out HLQ.out hxok hc hx HKP.out (HKQ.out.trans HCK.out.symm) vs)
  have HXC:=Jh hxc
  have HBX:=Jh hbx
  have HDD:=Jh (HD2.out.ext hxc)
  have HEE:=Jh (HE2.out.ext hxc)
  have HXW:=Jh (HX2.out.trans hxc)
  have HFX:=Jh (fun W (h:Ext wc W)=>hfx.ext h)
  have hpn':i64r (pn:Int):=by unfold i64r;omega
  have hqn':i64r (qn:Int):=by unfold i64r;omega
  have HFEW:=Jh (fun W (h:Ext wc W)=>Few_calls _ _ W (HFX.out W h) hxok.nodes hxok.signals hxok.procs)
  have HCKX:=Jh (fun W (h:Ext wc W)=>Check_calls _ _ W (HFX.out W h) hxok)
  have HCKD:=Jh (fun W (h:Ext wc W)=>Check_calls d _ W (HF.out W (HXW.out.trans h)) HOK.out)
  have HRX:=Jh (fun W (h:Ext wc W)=>Run_calls _ _ vs _ 0 W (HFX.out W h) hxok (HUS.out W (HXW.out.trans h)) H64.out (by unfold i64r;decide))
  have HRP:=Jh (fun W (h:Ext wc W)=>Run_calls d _ vs _ (pn:Int) W (HF.out W (HXW.out.trans h)) HOK.out (HUS.out W (HXW.out.trans h)) H64.out hpn')
  have HRQ:=Jh (fun W (h:Ext wc W)=>Run_calls d _ vs _ (qn:Int) W (HF.out W (HXW.out.trans h)) HOK.out (HUS.out W (HXW.out.trans h)) H64.out hqn')
  have HEV:=Jh (fun W (h:Ext wc W)=>Eval_calls d _ vs _ e (e.cells s0) W (HF.out W (HXW.out.trans h)) HOK.out (HUS.out W (HXW.out.trans h)) H64.out ⟨s0,rfl,HES.out W (HXW.out.trans h)⟩ HWE.out (by have:=HNE.out;omega))
  have HVL:=Jh (show ∀ r,(runM d vs r).1.length<=1099511627776 from fun r=>by
   rw [runM_eq]
   split
   ·next h =>
    have h2:=valsOk_val2 h.1
    have:=(run_kept HOK.out (valsOk_ck h.1).2.1 h.2.1 h.2.2 h2).1.1
    have:=HOK.out.signals
    show (runL d r vs).length<=_
    omega
   ·simp)
  obtain ⟨X,hX⟩:∃ X,xChoice d Pp.clocked e Pp.l Pq.l=X:=⟨_,rfl⟩
  rw [hX] at HFX HFEW HCKX HRX HRC
  clear hX hxl hbx hfx hxc hsm hxok hpn' hqn' HSG HTS HFIN HLC HMC HTP HTQ
  have dX:=HBX.out.has
  have dD:=HDD.out.has
  obtain ⟨f2,hf2⟩:∃ f,few11 X=f:=⟨_,rfl⟩
  rw [hf2] at HFEW
  clear hf2
  cases f2
  case false =>
   go_wp2_with (first | ((with_reducible show Jl 26);refine Jm 26 (dX) agg_Flat rfl ?_) | (go_at_call 5;refine (HFEW.out _ (Below.refl _ _)).mono ?_;rintro r w4 ⟨rfl,hx4⟩))
   go_ret
   exact ⟨rfl,HXW.out.trans hx4⟩
  by_cases hc1:checkM d=0
  case neg =>
   have b1:(checkM d != 0)=true:=by rw [bne_iff_ne];exact hc1
   go_wp2_with (first | ((with_reducible show Jl 26);refine Jm 26 (dX) agg_Flat rfl ?_) | (go_at_call 5;refine (HFEW.out _ (Below.refl _ _)).mono ?_;rintro r w4 ⟨rfl,hx4⟩;have d4:=Has.ext dD hx4) | ((with_reducible show Jl 26);refine Jm 26 (d4) agg_Flat rfl ?_) | (go_at_call 8;refine (HCKD.out w4 hx4).mono ?_;rintro r w5 ⟨rfl,hx5⟩))
   go_ret
   exact ⟨rfl,HXW.out.trans (hx4.trans hx5)⟩
  by_cases hc2:checkM X=0
  case neg =>
   have b2:(checkM X != 0)=true:=by rw [bne_iff_ne];exact hc2
   rw [hc1] at HCKD
   go_wp2_with (first | ((with_reducible show Jl 26);refine Jm 26 (dX) agg_Flat rfl ?_) | (go_at_call 5;refine (HFEW.out _ (Below.refl _ _)).mono ?_;rintro r w4 ⟨rfl,hx4⟩;have d4:=Has.ext dD hx4) | ((with_reducible show Jl 26);refine Jm 26 (d4) agg_Flat rfl ?_) | (go_at_call 8;first | (refine (HCKX.out w5 (hx4.trans hx5)).mono ?_;rintro r w6 ⟨rfl,hx6⟩) | (refine (HCKD.out w4 hx4).mono ?_;rintro r w5 ⟨rfl,hx5⟩;have d5:=Has.ext dX (hx4.trans hx5))) | ((with_reducible show Jl 26);refine Jm 26 (d5) agg_Flat rfl ?_))
   go_ret
   exact ⟨rfl,HXW.out.trans (hx4.trans (hx5.trans hx6))⟩
  have hrc:=HRC.out hc1 hc2
  rw [hc1] at HCKD
  rw [hc2] at HCKX
  clear hc1 hc2 HRC
  go_upto_region 10 with (first | ((with_reducible show Jl 26);refine Jm 26 (dX) agg_Flat rfl ?_) | (go_at_call 5;refine (HFEW.out _ (Below.refl _ _)).mono ?_;rintro r w4 ⟨rfl,hx4⟩;have d4:=Has.ext dD hx4) | ((with_reducible show Jl 26);refine Jm 26 (d4) agg_Flat rfl ?_) | (go_at_call 8;first | (refine (HCKX.out w5 (hx4.trans hx5)).mono ?_;rintro r w6 ⟨rfl,hx6⟩) | (refine (HCKD.out w4 hx4).mono ?_;rintro r w5 ⟨rfl,hx5⟩;have d5:=Has.ext dX (hx4.trans hx5))) | ((with_reducible show Jl 26);refine Jm 26 (d5) agg_Flat rfl ?_))
  have HX6:=Jh (hx4.trans (hx5.trans hx6))
  clear hx4 hx5 hx6 dX dD d4 d5
  have d6:=HBX.out.has.ext HX6.out
  have hR6:=HRX.out w6 HX6.out
  go_upto_region 11 with (first | ((with_reducible show Jl 26);refine Jm 26 (d6) agg_Flat rfl ?_) | (go_at_call 9;refine hR6.mono ?_;rintro r w7 ⟨u7,rfl,hr7,hx7⟩))
  obtain ⟨a7,c7,rfl,-⟩:=hr7.open
  have HX7:=Jh (HX6.out.trans hx7)
  have HU7:=Jh hr7.cells
  clear hR6 hr7 hx7 d6
  have d7:=HDD.out.has.ext HX7.out
  have hR7:=HRP.out w7 HX7.out
  go_upto_region 12 with (first | ((with_reducible show Jl 26);refine Jm 26 (d7) agg_Flat rfl ?_) | (go_at_call 9;refine hR7.mono ?_;rintro r w8 ⟨u8,rfl,hr8,hx8⟩))
  obtain ⟨a8,c8,rfl,-⟩:=hr8.open
  have HX8:=Jh (HX7.out.trans hx8)
  have HU8:=Jh hr8.cells
  have HX78:=Jh hx8
  clear hR7 hr8 hx8 d7
  have d8:=HDD.out.has.ext HX8.out
  have hR8:=HRQ.out w8 HX8.out
  go_upto_region 13 with (first | ((with_reducible show Jl 26);refine Jm 26 (d8) agg_Flat rfl ?_) | (go_at_call 9;refine hR8.mono ?_;rintro r w9 ⟨u9,rfl,hr9,hx9⟩))
  obtain ⟨a9,c9,rfl,-⟩:=hr9.open
  have HX9:=Jh (HX8.out.trans hx9)
  have HU9:=Jh hr9.cells
  have HX89:=Jh hx9
  have hv1:=HVL.out (pn:Int)
  have hv2:=HVL.out (qn:Int)
  clear hR8 hr9 hx9 d8
  have d9:=HDD.out.has.ext HX9.out
  have g9:=HEE.out.has.ext HX9.out
  have hE9:=HEV.out w9 HX9.out
  rcases hrc with ⟨h1,h2,h3⟩ | ⟨A,B,h2,h3,h1⟩
  ·simp only [h1,h2,h3] at *
   go_wp2_with fail
   go_ret
   exact ⟨rfl,HXW.out.trans HX9.out⟩
  rw [h2] at HU8 hv1
  rw [h3] at HU9 hv2
  rcases h1 with ⟨h4,h1⟩ | ⟨h4,h1⟩
  ·rw [h1] at HU7
   rw [h4] at hE9
   simp only [h1,h2,h3]
   go_upto_region 19 with (first | ((with_reducible show Jl 26);refine Jm 26 (d9) agg_Flat rfl ?_) | ((with_reducible show Jl 31);refine Jm 31 (g9) agg_E rfl ?_) | (go_at_call 10;refine hE9.mono ?_;rintro r w10 ⟨rfl,hx10⟩))
   have hW:=Words_calls11 B B _ _ w10 (HU7.out.ext (HX78.out.trans (HX89.out.trans hx10))) (HU9.out.ext hx10) hv2
   rw [decide_eq_true rfl] at hW
   go_wp2_with (go_at_call 11;refine hW.mono ?_;rintro r w11 ⟨rfl,hx11⟩)
   go_ret
   exact ⟨rfl,HXW.out.trans (HX9.out.trans (hx10.trans hx11))⟩
  ·rw [h1] at HU7
   rw [h4] at hE9
   simp only [h1,h2,h3]
   go_upto_region 19 with (first | ((with_reducible show Jl 26);refine Jm 26 (d9) agg_Flat rfl ?_) | ((with_reducible show Jl 31);refine Jm 31 (g9) agg_E rfl ?_) | (go_at_call 10;refine hE9.mono ?_;rintro r w10 ⟨rfl,hx10⟩))
   have hW:=Words_calls11 A A _ _ w10 (HU7.out.ext (HX78.out.trans (HX89.out.trans hx10))) (HU8.out.ext (HX89.out.trans hx10)) hv1
   rw [decide_eq_true rfl] at hW
   go_wp2_with (go_at_call 11;refine hW.mono ?_;rintro r w11 ⟨rfl,hx11⟩)
   go_ret
   exact ⟨rfl,HXW.out.trans (HX9.out.trans (hx10.trans hx11))⟩
end Go.Proofs.YtpngepnfinbaoaaGreat
