/- Laws and walks that a claim of this seat leans on: StepsL, Cyc12, FewIns, Steps, LiftL. -/
import Derived.Test.YtoaamjgfhppppaaGreatY27
import Derived.Test.YtoaamjgfhppppaaGreatY30
import Derived.Test.YtoaamjgfhppppaaGreatY26
import Derived.Test.YtoaamjgfhppppaaGreatY31
import Derived.Test.YtoaamjgfhppppaaGreatY32
import Derived.Test.YtoaamjgfhppppaaGreatY33
import Derived.Test.YtoaamjgfhppppaaGreatY00
set_option maxRecDepth 100000
set_option maxHeartbeats 8000000
set_option linter.all false
namespace Go.Proofs.YtoaamjgfhppppaaGreat
open Go.RowKit
theorem steps_cases (d:Flat) (is:List (List Nat)):(∃ e,e≠0/\(lookM d).1=e/\cycR d is=([],[],e)/\resetR d=([],e))\/((lookM d).1=0/\resetR d=(resetM d,0)/\((cycR d is=([],[],1)/\0<is.length) \/
  ∃ rs cs,cycR d is=(rs,cs,0)/\cycM d is (resetM d)=some (rs,cs))):=by
 unfold cycR resetR
 by_cases hl:(lookM d).1=0
 ·simp only [if_pos hl]
  refine .inr ⟨by first | exact hl | trivial,by first | rfl | trivial,?_⟩
  cases hm:cycM d is (resetM d) with
  | none =>
   refine .inl ⟨rfl,?_⟩
   cases is with
   | nil=>rw [cycM] at hm;cases hm
   | cons i l=>simp
  | some r=>exact .inr ⟨r.1,r.2,rfl,rfl⟩
 ·simp only [if_neg hl]
  exact .inl ⟨_,hl,rfl,rfl,rfl⟩
theorem cyc_len2 (d:Flat):∀ (l:List (List Nat)) (v:List Nat) (r:List (List Nat)) (c:List (List Bool)),cycM d l v=some (r,c)->r.length=l.length/\c.length=l.length:=by
 intro l
 induction l with
 | nil=>intro v r c h;rw [cycM] at h;simp at h;obtain ⟨rfl,rfl⟩:=h;exact ⟨rfl,rfl⟩
 | cons i l ih =>
  intro v r c h
  rw [cycM_cons] at h
  cases hp:putM d.signals v i with
  | none=>rw [hp] at h;cases h
  | some w =>
   rw [hp] at h
   simp only [Option.map_eq_some_iff,Prod.mk.injEq] at h
   obtain ⟨⟨q1,q2⟩,hq,rfl,rfl⟩:=h
   obtain ⟨a,b⟩:=ih _ _ _ hq
   exact ⟨by simp [a],by simp [b]⟩
theorem cyc_step {d:Flat} (hok:d.ok) (hl:(lookM d).1=0) {is rs:List (List Nat)} {cs:List (List Bool)} {v:List Nat} (hv:Val2 d.signals v) {i:Nat} (hi:i<is.length) (hr:i<rs.length) (hc:i<cs.length) (h:cycM d (is.drop i) v=some (rs.drop i,cs.drop i)) :
  ∃ w S T,putR d v is[i]=(w,0)/\settleR d w=(S,0)/\outsR d S=(rs[i],cs[i],0)/\rs[i].length<=d.signals.length/\cs[i].length=d.checks.length/\tickR d S=(T,0)/\Val2 d.signals w/\Val2 d.signals S/\Val2 d.signals T/\cycM d (is.drop (i+1)) T=some (rs.drop (i+1),cs.drop (i+1)):=by
 have a:=(look_in hok hl).1
 rw [List.drop_eq_getElem_cons hi,List.drop_eq_getElem_cons hr,List.drop_eq_getElem_cons hc,cycM_cons] at h
 cases hp:putM d.signals v is[i] with
 | none=>rw [hp] at h;cases h
 | some w =>
  rw [hp] at h
  simp only [Option.map_eq_some_iff,Prod.mk.injEq,List.cons.injEq] at h
  obtain ⟨⟨q1,q2⟩,hq,⟨e1,rfl⟩,e2,rfl⟩:=h
  have hw:=put_val hv hp
  have hS:=settle_val hok hl hw
  have hT:=tick_val hok a hS
  have play:∀ {x},Val2 d.signals x->playE d x=0:=fun hx=>playE_zero.2 ⟨hl,valsOk_of a hx⟩
  exact ⟨w,settleM d w,tickM d (settleM d w),by unfold putR;rw [if_pos (play hv),hp],by unfold settleR;rw [if_pos (play hw)],by unfold outsR;rw [if_pos (play hS),e1,e2],by rw [<-e1];exact outV_len _ _,by rw [<-e2];exact List.length_map _,by unfold tickR;rw [if_pos (play hS)],hw,hS,hT,hq⟩
theorem leads_outs1:Leads Tryz.prog 62:=leads_of Tryz.func62 (by kernel_rfl) rfl
theorem Blk.put1 {w:World} {B:Nat} {v u:Value} {T:TypeId} (h:Blk w B #[v] T):Blk (w.setCell ⟨B,0,none⟩ u) B #[u] T:=by
 have:=h.set 0 u
 simpa using this
theorem Outs1_calls {d:Flat} {sv pv cv nv ov:Value} {P Bo Bc N0:Nat} {wA wb w:World} {v:List Nat} (H:Cy d sv pv cv wb) (hA:Ext wA wb) (hN0:N0<=wb.heap.size) (h:CyW d sv pv cv nv ov P wb v w)
  (hbo:wA.heap.size<=Bo/\Bo<N0) (hbc:wA.heap.size<=Bc/\Bc<N0) (hoc:Bo≠Bc) (ho:Blk wb Bo #[.slice none 0 0] 27) (hc:Blk wb Bc #[.slice none 0 0] 64) :
  Calls Tryz.prog 62 #[.pointer (some ⟨P,0,none⟩),.pointer (some ⟨Bo,0,none⟩),.pointer (some ⟨Bc,0,none⟩)] w fun r W'=>r=.returned (.tuple #[])/\(∀ b,b≠Bo->b≠Bc->b<wb.heap.size->W'.heap[b]? = wb.heap[b]?)/\wb.heap.size<=W'.heap.size /\
   ∃ u t,Blk W' Bo #[u] 27/\Blk W' Bc #[t] 64/\WordRow wb.heap.size u (outV d.signals v) W'/\BoolRow wb.heap.size t (chkV d v) W'/\Ext wA W':=by
 have HO:=Jh (outs_calls H h)
 have HX:=Jh h.ext
 have f:=Jh (ho.ext h.ext)
 have g:=Jh (hc.ext h.ext)
 have HA:=Jh hA
 generalize outV d.signals v=OV at *
 generalize chkV d v=CV at *
 clear H h ho hc hA
 go_enter Tryz.func62,Tryz.ntmps62
 go_wp2_with (go_at_call 60;refine HO.out.mono ?_;rintro r w1 ⟨u,t,rfl,hu,ht,i⟩;obtain ⟨ua,uc,rfl,-⟩:=hu.open;obtain ⟨ta,tc,rfl,-⟩:=ht.open;have HU:=Jh hu;have HT:=Jh ht;have a:=Jh i;clear hu ht i;have yo:=(f.out.ext a.out).cell 0;have fo:=(f.out.ext a.out).frozen 0;have c:=(g.out.ext a.out).grown (gb_set w1 Bo 0 (.slice ua OV.length uc)) (fun e=>hoc e.symm);have yc:=c.cell 0;have fc:=c.frozen 0;simp only [List.getElem?_toArray,List.getElem?_cons_zero] at yo yc;clear c)
 all_goals go_end0
 have l:wb.heap.size<=w1.heap.size:=Nat.le_trans HX.out.size a.out.size
 have h1:=(f.out.ext a.out).put1 (u:=.slice ua OV.length uc)
 have h2:=(g.out.ext a.out).grown (gb_set w1 Bo 0 (.slice ua OV.length uc)) (fun e=>hoc e.symm)
 have h3:=h2.put1 (u:=.slice ta CV.length tc)
 have h4:=h1.grown (gb_set (w1.setCell ⟨Bo,0,none⟩ (.slice ua OV.length uc)) Bc 0 (.slice ta CV.length tc)) hoc
 have j:=HX.out.size
 refine ⟨rfl,fun b hb1 hb3 c=>?_,by simpa [World.setCell] using l,_,_,h4,h3,?_,?_,?_⟩
 ·rw [(gb_set (w1.setCell ⟨Bo,0,none⟩ (.slice ua OV.length uc)) Bc 0 (.slice ta CV.length tc)).block b (by simp [World.setCell];omega) (by simp;omega),(gb_set w1 Bo 0 (.slice ua OV.length uc)).block b (by omega) (by simp;omega),a.out.block b (by omega),HX.out.block b (by omega)]
 ·exact ((HU.out.less j).grown (gb_set w1 Bo 0 _) (fun k hk e=>by have:=(HU.out.at hk).1;injection e with e;omega)).grown (gb_set _ Bc 0 _) (fun k hk e=>by have:=(HU.out.at hk).1;injection e with e;omega)
 ·exact ((HT.out.less j).grown (gb_set w1 Bo 0 _) (fun k hk e=>by have:=(HT.out.at hk).1;injection e with e;omega)).grown (gb_set _ Bc 0 _) (fun k hk e=>by have:=(HT.out.at hk).1;injection e with e;omega)
 ·exact ((HA.out.trans (HX.out.trans a.out)).grown (gb_set w1 Bo 0 _) hbo.1).grown (gb_set _ Bc 0 _) hbc.1
theorem Outs_calls13 (d:Flat) (v:Value) (vs:List Nat) (s:Value) (w:World) (hF:FlatV w v d) (hok:d.ok) (hs:Us w s vs) (h64:us64 vs) (hln:vs.length<=1048576) :
  Calls Tryz.prog 33 #[v,s] w fun r w'=>∃ u t,r=.returned (.tuple #[u,t,.int .i64 (outsR d vs).2.2])/\Us w' u (outsR d vs).1/\Bools w' t (outsR d vs).2.1/\Ext w w':=by
 have HF:=Jh (fun W (h:Ext w W)=>hF.ext h)
 have ac:=Jh hs
 have hn:=Jh hok
 obtain ⟨sv,pv,cv,rfl,hS,hP,hC⟩:=hF
 obtain ⟨sa,sb,so,sc,rfl,-,-,-,-⟩:=hs.open
 have g:=Jh (((ext_alloc w (.cells [sv,pv,cv].toArray 26)).trans (ext_alloc _ (.cells #[.slice none 0 0] 27))).trans (ext_alloc _ (.cells #[.slice none 0 0] 64)))
 have l:=Jh (((Blk.new w [sv,pv,cv].toArray 26).alloc (.cells #[.slice none 0 0] 27)).alloc (.cells #[.slice none 0 0] 64))
 have i:=Jh (show Blk _ (w.heap.size+1) _ _ from by have:=(Blk.new (w.alloc (.cells [sv,pv,cv].toArray 26)) #[.slice none 0 0] 27).alloc (.cells #[.slice none 0 0] 64);rwa [World.size_alloc] at this)
 have j:=Jh (show Blk _ (w.heap.size+1+1) _ _ from by have:=Blk.new ((w.alloc (.cells [sv,pv,cv].toArray 26)).alloc (.cells #[.slice none 0 0] 27)) #[.slice none 0 0] 64;rwa [World.size_alloc,World.size_alloc] at this)
 have ag:∀ (fn:Fn) (first cap:Array Value) (w:World),(Instr.makeFunc fn first cap).run Tryz.prog w=.ok (.func fn first cap) w:=fun _ _ _ _=>rfl
 obtain ⟨⟨O,C,e⟩,f⟩:∃ x,outsR d vs=x:=⟨_,rfl⟩
 rw [f]
 have h9:=Jh f
 clear hS hP hC hs hok f
 go_enter Tryz.func33,Tryz.ntmps33
 go_upto_region 1 with fail
 generalize ((w.alloc _).alloc _).alloc _=w0 at *
 obtain ⟨Bo,hi⟩:∃ B,w.heap.size+1=B:=⟨_,rfl⟩
 have ae:w.heap.size<=Bo:=by omega
 have h8:=Jh hi
 rw [hi] at i j ⊢
 clear hi
 obtain ⟨Bf,hj⟩:∃ B,w.heap.size=B:=⟨_,rfl⟩
 have ab:=Jh hj
 rw [hj] at l ⊢
 clear hj
 have hm:=Jh (fun W ad n c (h:Ext w0 W) (hu:Us W (.slice (some ad) n c) vs)=>(played_calls (HF.out W (g.out.trans h)) hn.out (.inl ⟨ad,n,c,rfl,hu⟩) h64 hln (fi:=#[]) (lb:=#[.pointer (some ⟨Bo,0,none⟩),.pointer (some ⟨Bo+1,0,none⟩)]) leads_outs1
  (Good:=fun wb P W'=>(∀ b,b≠Bo->b≠Bo+1->b<wb.heap.size->W'.heap[b]? = wb.heap[b]?)/\∃ u t,Blk W' Bo #[u] 27/\Blk W' (Bo+1) #[t] 64/\WordRow wb.heap.size u (outV d.signals vs) W'/\BoolRow wb.heap.size t (chkV d vs) W'/\Ext w W') (Bad:=fun _ _ _=>False)
  (fun h0 wb P nv W2 hx hcw=>(Outs1_calls (N0:=W.heap.size) ⟨hn.out,(playE_zero.1 h0).1,HF.out wb ((g.out.trans h).trans hx)⟩ ((g.out.trans h).trans hx) hx.size hcw ⟨ae,Nat.lt_of_lt_of_le i.out.lt h.size⟩ ⟨by omega,Nat.lt_of_lt_of_le j.out.lt h.size⟩ (by omega) ((i.out.ext h).ext hx) ((j.out.ext h).ext hx)).mono fun r W' hh =>
   ⟨fun b hb=>hh.2.1 b (by have:=i.out.lt;have:=h.size;omega) (by have:=j.out.lt;have:=h.size;omega),hh.2.2.1,.inl ⟨hh.1,hh.2.1,hh.2.2.2⟩⟩)).mono fun r w' hh=>show ∃ Q u t,r=.returned (.tuple #[.pointer (some ⟨Q,0,none⟩),.int .i64 e])/\(∃ a n c,u=.slice a n c)/\(∃ a n c,t=.slice a n c)/\Blk w' Bo #[u] 27/\Blk w' (Bo+1) #[t] 64/\Us w' u O/\Bools w' t C/\Ext w w'/\Blk w' Bf [sv,pv,cv].toArray 26 from by
  have f:=h9.out
  unfold outsR at f
  rcases hh with ⟨h0,Z,hr,-,hx⟩ | ⟨h0,wb,P,W',w1,Bp,Be,h1,h2,h3,h4,h5,h6,h7,⟨hr,q0,u,t,q1,q2,q3,q4,q5⟩ | ⟨e',Z,he,hr,-,-,hf⟩⟩
  ·rw [if_neg h0] at f
   simp only [Prod.mk.injEq] at f
   obtain ⟨rfl,rfl,rfl⟩:=f
   exact ⟨Z,_,_,hr,⟨_,_,_,rfl⟩,⟨_,_,_,rfl⟩,(i.out.ext h).ext hx,(j.out.ext h).ext hx,Sl.nil _ _,Sl.nil _ _,(g.out.trans h).trans hx,(l.out.ext h).ext hx⟩
  ·rw [if_pos h0] at f
   simp only [Prod.mk.injEq] at f
   obtain ⟨rfl,rfl,rfl⟩:=f
   have l1:=i.out.lt
   have l2:=j.out.lt
   have l3:=h.size
   have l4:=g.out.size
   have r3:=(q3.grown h6 (fun k hk e=>by have:=(q3.at hk).1;injection e with e;omega)).grown h7 (fun k hk e=>by have:=(q3.at hk).1;injection e with e;omega)
   have r4:=(q4.grown h6 (fun k hk e=>by have:=(q4.at hk).1;injection e with e;omega)).grown h7 (fun k hk e=>by have:=(q4.at hk).1;injection e with e;omega)
   obtain ⟨a1,c1,e1,-⟩:=r3.open
   obtain ⟨a2,c2,e2,-⟩:=r4.open
   exact ⟨P,u,t,hr,⟨_,_,_,e1⟩,⟨_,_,_,e2⟩,(q1.grown h6 (by omega)).grown h7 (by omega),(q2.grown h6 (by omega)).grown h7 (by omega),r3.cells,r4.cells,(q5.grown h6 (by omega)).grown h7 (by omega),by
    have ai:=ab.out
    have af:=h8.out
    have hd:=((l.out.ext h).ext h1)
    have ha:Blk W' Bf [sv,pv,cv].toArray 26:=by
     unfold Blk at hd ⊢
     rw [q0 Bf (by omega) (by omega) (by have:=hd;exact (Array.getElem?_eq_some_iff.1 hd).1)];exact hd
    have:=l.out.lt
    exact (ha.grown h6 (by omega)).grown h7 (by omega)⟩
  ·exact hf.elim)
 clear h64
 refine wp_region_held_drew (S:=fun W=>Ext w W/\Blk W Bf [sv,pv,cv].toArray 26) (by kernel_rfl) ⟨g.out.drew,l.out.drew⟩ (fun hH=>?_)
 try simp only [J]
 (refine Jt 0 (.agg [sv,pv,cv].toArray) rfl (yif_load rfl 26 _ rfl rfl (fun W hW=>hW.2.has) agg_Flat rfl) hH ?_;try simp only [J])
 (refine Jt 1 (.slice sa vs.length sc) rfl (yif_load1 rfl fun _ _=>rfl) hH ?_;try simp only [J])
 (refine Jt 3 (.func (.func 62) #[] #[.pointer (some ⟨Bo,0,none⟩),.pointer (some ⟨Bo+1,0,none⟩)]) rfl (yif_load1 rfl (by intro W hW;clear hW;go_simp)) hH ?_;try simp only [J])
 (refine Jr 2 rfl fun K hK=>?_)
 go_simp
 refine (asked_calls vs _ _ (ac.out.ext (g.out.trans (Below.drew (Below.refl _ _))))).mono ?_
 rintro r w1 ⟨ad,n,c,rfl,ho,m⟩
 refine hK.out _ _ ⟨hH.1.trans m,hH.2.ext m⟩ (fun hH=>?_)
 clear hK K
 try simp only [J]
 have hw:=Jh ho
 have hv:=Jh ((Below.drew (Below.refl _ _):Ext w0 w0.drew).trans m)
 clear ho m
 (refine Jr 4 rfl fun K hK=>?_)
 go_simp
 refine (hm.out w1 ad n c hv.out hw.out).mono ?_
 rintro r w2 ⟨Q,u,t,rfl,⟨ua,un,uc,rfl⟩,⟨ta,tn,tc,rfl⟩,ho2,hc2,hu2,ht2,hx2,ha⟩
 have hc:=Jh ho2
 have hg:=Jh hc2
 have ht:=Jh hu2
 have hq:=Jh ht2
 have hp:=Jh hx2
 refine hK.out _ _ ⟨hx2,ha⟩ (fun hH=>?_)
 clear hK K ho2 hc2 hu2 ht2 hx2 ha
 try simp only [J]
 (refine Jt 5 (.tuple #[.pointer (some ⟨Q,0,none⟩),.int .i64 e]) rfl (yif_load1 rfl fun _ _=>rfl) hH ?_;try simp only [J])
 (refine Jt 6 (.pointer (some ⟨Q,0,none⟩)) rfl (yif_load1 rfl (by intro W hW;clear hW;go_simp)) hH ?_;try simp only [J])
 (refine Jt 7 (.int .i64 e) rfl (yif_load1 rfl (by intro W hW;clear hW;go_simp)) hH ?_;try simp only [J])
 (refine Jt 8 (.int .i64 e) rfl (yif_load1 rfl fun _ _=>rfl) hH ?_;try simp only [J])
 refine Jz ?_
 clear hH hm l hv hw
 generalize w2=w5 at *
 go_upto_region 2 with fail
 refine wp_region_held_drew (S:=fun W=>Blk W Bo #[.slice ua un uc] 27/\Blk W (Bo+1) #[.slice ta tn tc] 64) (by kernel_rfl) ⟨hc.out.drew,hg.out.drew⟩ (fun hH=>?_)
 try simp only [J]
 (refine Jt 0 (.slice ua un uc) rfl (yif_load1 rfl (by intro W hW;have z:=hW.1.cell 0;simp only [List.getElem?_toArray,List.getElem?_cons_zero] at z;clear hW;go_simp)) hH ?_;try simp only [J])
 (refine Jt 1 (.slice ta tn tc) rfl (yif_load1 rfl (by intro W hW;have z:=hW.2.cell 0;simp only [List.getElem?_toArray,List.getElem?_cons_zero] at z;clear hW;go_simp)) hH ?_;try simp only [J])
 (refine Jt 2 (.int .i64 e) rfl (yif_load1 rfl fun _ _=>rfl) hH ?_;try simp only [J])
 have aa:=Jh (hp.out.trans (Below.drew (Below.refl _ w5)))
 have hl:Ext w5 w5.drew:=Below.drew (Below.refl _ w5)
 have hz:=Jh (show Us w5.drew _ _ from ht.out.ext hl)
 have hy:=Jh (show Bools w5.drew _ _ from hq.out.mono fun y _ b o h=>Has.ext h hl)
 have q:=Jh hc.out.drew
 have p:=Jh hg.out.drew
 clear hp ht hq hc hg hl
 generalize w5.drew=w6 at *
 have yo:=q.out.cell 0
 have fo:=q.out.frozen 0
 simp only [List.getElem?_toArray,List.getElem?_cons_zero] at yo
 have so:=setCell_same q.out
 (refine Jr 3 rfl fun K hK=>?_)
 go_simp
 refine hK.out _ _ hH (fun hH=>?_)
 clear hK K yo fo so
 try simp only [J]
 have yo:=p.out.cell 0
 have fo:=p.out.frozen 0
 simp only [List.getElem?_toArray,List.getElem?_cons_zero] at yo
 have so:=setCell_same p.out
 (refine Jr 4 rfl fun K hK=>?_)
 go_simp
 refine hK.out _ _ hH (fun hH=>?_)
 clear hK K yo fo so
 try simp only [J]
 (refine Jt 5 (.int .i64 e) rfl (yif_load1 rfl fun _ _=>rfl) hH ?_;try simp only [J])
 refine Jz ?_
 clear hH
 go_wp2_with ((with_reducible show bodyPost _ _ _ _ _ _);refine Hid.out ?_)
 refine Jh ?_
 have z1:=q.out.cell 0
 have z2:=p.out.cell 0
 simp only [List.getElem?_toArray,List.getElem?_cons_zero] at z1 z2
 refine bodyPost_ret (v:=.tuple #[.slice ua un uc,.slice ta tn tc,.int .i64 e]) (by simp [results,Tryz.results33,go_sem,z1,z2]) rfl ⟨_,_,rfl,hz.out,hy.out,aa.out⟩
def fewIns (l:List (List Nat)) (most:Int):Bool:=!decide (most<(l.length:Int))&&l.all fun x=>!decide ((60:Int)<(x.length:Int))
theorem FewIns_calls (l:List (List Nat)) (v:Value) (most:Int) (w:World) (h:UsL w v l) (hm:i64r most) :
  Calls Tryz.prog 28 #[v,.int .i64 most] w fun r w'=>r=.returned (.bool (fewIns l most))/\Ext w w':=by
 obtain ⟨a,b,o,c,rfl,n,p,ha,hr⟩:=h.open
 have HA:=Jh ha
 have HR:=Jh hr
 obtain ⟨t,ht⟩:∃ t,fewIns l most=t:=⟨_,rfl⟩
 have HT:=Jh ht
 rw [ht]
 unfold i64r at hm
 clear h ha hr ht
 go_enter Tryz.func28,Tryz.ntmps28
 by_cases hl:most<(l.length:Int)
 ·have bl:decide (most<(l.length:Int))=true:=decide_eq_true hl
  obtain rfl:t=false:=by rw [<-HT.out];unfold fewIns;rw [bl];rfl
  clear hl
  go_wp2_with fail
  go_ret
  exact ⟨rfl,Below.refl _ _⟩
 have bl:decide (most<(l.length:Int))=false:=decide_eq_false hl
 have m:=Jh (show (l.all fun x=>!decide ((60:Int)<(x.length:Int)))=t by rw [<-HT.out];unfold fewIns;rw [bl];rfl)
 clear hl HT
 go_wp2_with fail
 clear bl
 go_loopw [5] (fun i wr=>∃ k:Nat,k<=l.length/\i=.int .i64 k/\((l.drop k).all fun x=>!decide ((60:Int)<(x.length:Int)))=t/\Ext w wr) (fun i _=>l.length-(intOf i).toNat)
 case atStart=>exact ⟨0,Nat.zero_le _,rfl,by rw [List.drop_zero];exact m.out,Below.refl _ _⟩
 case round =>
  obtain ⟨k,hk,rfl,f,hx⟩:=hrel
  have HM:=Jh f
  have d:=Jh hx
  clear f hx
  by_cases hlt:k<l.length
  ·obtain rfl:=HA.out (by omega)
   obtain ⟨u,hu,g⟩:=HR.out.get (List.getElem?_eq_getElem hlt)
   obtain ⟨ua,ub,uo,uc,rfl,-,-,-,-⟩:=g.open
   have y:=(Has.ext hu d.out) 0 _ rfl
   simp only [Nat.mul_one,Nat.add_zero] at y
   have e:=HM.out
   rw [List.drop_eq_getElem_cons hlt,List.all_cons] at e
   generalize l[k]=x at *
   have j:=Jh e
   clear e hu g
   by_cases hg:(60:Int)<(x.length:Int)
   ·have bg:decide ((60:Int)<(x.length:Int))=true:=decide_eq_true hg
    obtain rfl:t=false:=by rw [<-j.out,bg];rfl
    clear hg
    go_wp2_with fail
    go_ret
    exact ⟨rfl,d.out⟩
   ·have bg:decide ((60:Int)<(x.length:Int))=false:=decide_eq_false hg
    have HN:=Jh (show ((l.drop (k+1)).all fun x=>!decide ((60:Int)<(x.length:Int)))=t by rw [<-j.out,bg];rfl)
    clear hg
    go_wp2_with fail
    go_roundw
    case rel=>exact ⟨k+1,hlt,by go_num,HN.out,d.out⟩
    case measure=>simp [intOf];omega
  ·obtain rfl:k=l.length:=by omega
   obtain rfl:t=true:=by rw [<-HM.out,List.drop_length];rfl
   go_wp2_with fail
   go_ret
   exact ⟨rfl,d.out⟩
theorem CycleSteps_calls (d:Flat) (v:Value) (is:List (List Nat)) (iv:Value) (w:World) (hF:FlatV w v d) (hok:d.ok) (hi:UsL w iv is) (h64i:∀ l∈is,us64 l) (hli:is.length+1<=1048576) :
  Calls Tryz.prog 9 #[v,iv] w fun r w'=>r=.returned (.bool true)/\Ext w w':=by
 have HF:=Jh (fun W (h:Ext w W)=>hF.ext h)
 have z:=Jh (fun W (h:Ext w W)=>few13_calls d v [] (.slice none 0 0) W (hF.ext h) hok (Sl.nil _ _))
 have ho:=Jh (fun W (h:Ext w W)=>FewIns_calls is iv 12 W (hi.ext h) (by unfold i64r;decide))
 have a0:=Jh (fun W (h:Ext w W)=>Run_calls13 d v is iv W (hF.ext h) hok (hi.ext h) h64i (by omega))
 have o:=Jh (fun W (h:Ext w W)=>Reset_calls13 d v W (hF.ext h) hok)
 have al:=Jh (fun W (h:Ext w W)=>LCheck_calls d v W (hF.ext h) hok)
 have m:=Jh hok
 have b9:=Jh h64i
 have cj:=hok.signals
 have cp:=hok.checks
 obtain ⟨sv,pv,cv,rfl,hS,hP,hC⟩:=hF
 obtain ⟨ia,ib,io,ic,rfl,cq,cr,bq,bk⟩:=hi.open
 have ca:=Jh bq
 have b6:=Jh bk
 have x1:=ext_alloc w (.cells [sv,pv,cv].toArray 26)
 have hD:=Blk.new w [sv,pv,cv].toArray 26
 clear hS hP hC hok hi h64i bq bk
 go_enter Tryz.func9,Tryz.ntmps9
 go_upto_region 1 with fail
 generalize w.alloc _=w0 at *
 have ax:=Jh x1
 have ba:=Jh hD
 clear x1 hD
 go_upto_region 4 with (go_at_call 17;refine (live13_calls _).mono ?_;rintro r w1 ⟨rfl,ae⟩)
 have HD:=Jh (ba.out.ext ae)
 have HX:=Jh (ax.out.trans ae)
 clear ae ba ax
 have d1:=HD.out.has
 obtain ⟨fw,aw⟩:∃ fw,few13 d []=fw:=⟨_,rfl⟩
 rw [aw] at z
 clear aw
 cases fw
 ·go_wp2_with (first | ((with_reducible show Jl 26);refine Jm 26 (d1) agg_Flat rfl ?_) | (go_at_call 18;refine (z.out w1 HX.out).mono ?_;rintro r w2 ⟨rfl,n⟩))
  go_ret
  exact ⟨rfl,HX.out.trans n⟩
 obtain ⟨f1,az⟩:∃ f,fewIns is 12=f:=⟨_,rfl⟩
 rw [az] at ho
 clear az
 cases f1
 ·go_wp2_with (first | ((with_reducible show Jl 26);refine Jm 26 (d1) agg_Flat rfl ?_) | (go_at_call 18;refine (z.out w1 HX.out).mono ?_;rintro r w2 ⟨rfl,n⟩;have p:=Jh (HX.out.trans n)) | (go_at_call 28;refine (ho.out w2 p.out).mono ?_;rintro r w3 ⟨rfl,hd⟩))
  go_ret
  exact ⟨rfl,p.out.trans hd⟩
 go_upto_region 6 with (first | ((with_reducible show Jl 26);refine Jm 26 (d1) agg_Flat rfl ?_) | (go_at_call 18;refine (z.out w1 HX.out).mono ?_;rintro r w2 ⟨rfl,n⟩;have p:=Jh (HX.out.trans n)) | (go_at_call 28;refine (ho.out w2 p.out).mono ?_;rintro r w3 ⟨rfl,hd⟩))
 have j:=Jh (p.out.trans hd)
 have ar:=Jh (HD.out.ext (n.trans hd))
 clear n hd d1 HD HX z ho p
 have d3:=ar.out.has
 have HC:=Jh (a0.out w3 j.out)
 rcases steps_cases d is with ⟨e,he,hl,h1,h2⟩ | ⟨hl,h2,⟨h1,aa⟩ | ⟨rs,cs,h1,t⟩⟩
 ·rw [h1] at HC
  rw [h2] at o
  rw [hl] at al
  have be:(e != 0)=true:=by rw [bne_iff_ne];exact he
  clear he hl h1 h2
  go_wp2_with (first | ((with_reducible show Jl 26);refine Jm 26 (d3) agg_Flat rfl ?_) | (go_at_call 29;refine HC.out.mono ?_;rintro r w4 ⟨ua,ub,rfl,-,-,a⟩;have d4:=Has.ext d3 a) | ((with_reducible show Jl 26);refine Jm 26 (d4) agg_Flat rfl ?_) | (go_at_call 32;refine (o.out w4 (j.out.trans a)).mono ?_;rintro r w5 ⟨uc,rfl,-,g⟩;have d5:=Has.ext d4 g) | ((with_reducible show Jl 26);refine Jm 26 (d5) agg_Flat rfl ?_) | (go_at_call 20;refine (al.out w5 (j.out.trans (a.trans g))).mono ?_;rintro r w6 ⟨rfl,hg⟩))
  go_ret
  exact ⟨rfl,j.out.trans (a.trans (g.trans hg))⟩
 ·rw [h1] at HC
  rw [h2] at o
  have br:=Jh aa
  clear hl h1 h2 aa
  go_wp2_with (first | ((with_reducible show Jl 26);refine Jm 26 (d3) agg_Flat rfl ?_) | (go_at_call 29;refine HC.out.mono ?_;rintro r w4 ⟨ua,ub,rfl,hq,hj,a⟩;obtain ⟨a4,-,-,c4,rfl,-,-,-,-⟩:=hq.open;obtain ⟨b4,-,-,e4,rfl,-,-,-,-⟩:=hj.open;have d4:=Has.ext d3 a) | ((with_reducible show Jl 26);refine Jm 26 (d4) agg_Flat rfl ?_) | (go_at_call 32;refine (o.out w4 (j.out.trans a)).mono ?_;rintro r w5 ⟨uc,rfl,-,g⟩))
  go_ret
  refine ⟨?_,j.out.trans (a.trans g)⟩
  show Ending.returned (.bool (decide (0<is.length)))=_
  rw [decide_eq_true br.out]
 have h5:=(look_in m.out hl).1
 have bd:∀ x∈d.signals,x.w<=64:=fun x hx=>(checkM_w h5 x hx).2
 have hp:=Jh bd
 have ck:=Jh (reset_val m.out h5)
 obtain ⟨hm,h7⟩:=cyc_len2 d is _ _ _ t
 have ht:=Jh hm
 have h0:=Jh h7
 have ci:=Jh t
 have hn:=Jh (fun (x:List Nat) (hv:Val2 d.signals x) (i:Nat) (hi:i<is.length) (hr:i<rs.length) (hc:i<cs.length) (h:cycM d (is.drop i) x=some (rs.drop i,cs.drop i))=>cyc_step m.out hl hv hi hr hc h)
 rw [h1] at HC
 rw [h2] at o
 clear hl h1 h2 h5 bd hm h7 t al
 go_upto_region 7 with (first | ((with_reducible show Jl 26);refine Jm 26 (d3) agg_Flat rfl ?_) | (go_at_call 29;refine HC.out.mono ?_;rintro r w4 ⟨ua,ub,rfl,hq,hj,a⟩))
 obtain ⟨ra,rb,ro,rc,rfl,-,-,bg,bm⟩:=hq.open
 obtain ⟨ta,tb,tO,tc,rfl,-,-,bo,a5⟩:=hj.open
 have b5:=Jh bg
 have b0:=Jh bm
 have cl:=Jh bo
 have cb:=Jh a5
 have h6:=Jh (j.out.trans a)
 have ag:=Jh (ar.out.ext a)
 clear hq hj bg bm bo a5 a d3 j ar HC a0
 have d4:=ag.out.has
 go_upto_region 8 with (first | ((with_reducible show Jl 26);refine Jm 26 (d4) agg_Flat rfl ?_) | (go_at_call 32;refine (o.out w4 h6.out).mono ?_;rintro r w5 ⟨u5,rfl,a2,g⟩))
 have cn:=Jh a2
 have bv:=Jh g
 have b1:((rs.length:Int) != (is.length:Int))=false:=by rw [bne_eq_false_iff_eq,ht.out]
 have b2:((cs.length:Int) != (is.length:Int))=false:=by rw [bne_eq_false_iff_eq,h0.out]
 clear a2 g d4 o
 go_upto_region 14 with fail
 clear b1 b2
 go_wp2_with fail
 go_loopw [9,11,12,13,14,15,16,17,18,19,20,21] (fun uv i _ _ _ _ _ _ _ _ _ _ wr=>∃ (k:Nat) (x:List Nat),k<=is.length/\i=.int .i64 k/\Us wr uv x/\Val2 d.signals x/\cycM d (is.drop k) x=some (rs.drop k,cs.drop k)/\Ext w4 wr) (fun _ i _ _ _ _ _ _ _ _ _ _ _=>is.length-(intOf i).toNat)
 case atStart=>exact ⟨0,resetM d,Nat.zero_le _,rfl,cn.out,ck.out,ci.out,bv.out⟩
 case round =>
  obtain ⟨k,x,hk,rfl,h9,bf,t,bn⟩:=hrel
  obtain ⟨xa,-,-,xc,rfl,-,-,-,-⟩:=h9.open
  have cg:=Jh h9
  have ad:=Jh bf
  have bt:=Jh t
  have b:=Jh bn
  clear h9 bf t bn
  by_cases hlt:k<is.length
  ·obtain rfl:=ca.out (by omega)
   obtain rfl:=b5.out (by rw [ht.out];omega)
   obtain rfl:=cl.out (by rw [h0.out];omega)
   have ah:k<rs.length:=by rw [ht.out];exact hlt
   have a1:k<cs.length:=by rw [h0.out];exact hlt
   obtain ⟨ui,aq,ab⟩:=b6.out.get (List.getElem?_eq_getElem hlt)
   obtain ⟨uq,hz,ac⟩:=b0.out.get (List.getElem?_eq_getElem ah)
   obtain ⟨ut,av,am⟩:=cb.out.get (List.getElem?_eq_getElem a1)
   rw [Nat.mul_one] at aq hz av
   have cd:=Jh (fun W (h:Ext w W)=>(show W.cell? ⟨ib,io+k,none⟩=some ui from by have y:=(Has.ext aq h) 0 _ rfl;rwa [Nat.add_zero] at y))
   have cc:=Jh (fun W (h:Ext w4 W)=>(show W.cell? ⟨rb,ro+k,none⟩=some uq from by have y:=(Has.ext hz h) 0 _ rfl;rwa [Nat.add_zero] at y))
   have bz:=Jh (fun W (h:Ext w4 W)=>(show W.cell? ⟨tb,tO+k,none⟩=some ut from by have y:=(Has.ext av h) 0 _ rfl;rwa [Nat.add_zero] at y))
   obtain ⟨x1,x2,x3,h1,h2,h3,hm,bw,h4,v1,v2,v3,ai⟩:=hn.out x ad.out k hlt ah a1 bt.out
   have ha:∀ y:List Nat,Val2 d.signals y->y.length<=1048576:=fun y hy=>by rw [hy.1];exact cj
   have s:=Jh (h6.out.trans b.out)
   have bc:=Jh (fun W (h:Ext wr W)=>Put_calls13 d _ x _ is[k] ui W (HF.out W (s.out.trans h)) m.out (cg.out.ext h) (val2_us64 hp.out ad.out) (ha x ad.out) (ab.ext (s.out.trans h)) (b9.out _ (List.getElem_mem hlt)))
   rw [h1] at bc
   have ay:=Jh (fun W u (h:Ext wr W) (hu:Us W u x1)=>Settle_calls13 d _ x1 u W (HF.out W (s.out.trans h)) m.out hu (val2_us64 hp.out v1) (ha x1 v1))
   rw [h2] at ay
   have a3:=Jh (fun W u (h:Ext wr W) (hu:Us W u x2)=>Outs_calls13 d _ x2 u W (HF.out W (s.out.trans h)) m.out hu (val2_us64 hp.out v2) (ha x2 v2))
   rw [h3] at a3
   have bi:=Jh (fun W u (h:Ext wr W) (hu:Us W u x2)=>Tick_calls13 d _ x2 u W (HF.out W (s.out.trans h)) m.out hu (val2_us64 hp.out v2) (ha x2 v2))
   rw [h4] at bi
   have bp:=Jh (fun W u (h:Ext w4 W) (hu:Us W u rs[k])=>Words_calls11 rs[k] rs[k] u uq W hu (ac.ext h) (by omega))
   have bb:=Jh (fun W u (h:Ext w4 W) (hu:Bools W u cs[k])=>Bools_calls13 cs[k] cs[k] u ut W hu (am.mono fun _ _ _ _ q=>Has.ext q h) (by omega))
   simp only [decide_true] at bp bb
   have co:=Jh v3
   have bx:=Jh ai
   obtain ⟨ua,ub,uo,uc,rfl,-,-,-,-⟩:=ab.open
   obtain ⟨qa,qb,qo,qc,rfl,-,-,-,-⟩:=ac.open
   obtain ⟨sa,sb,so,sc,rfl,-,-,-,-⟩:=am.open
   generalize is[k]=I at *
   generalize rs[k]=RW at *
   generalize cs[k]=CW at *
   clear h1 h2 h3 h4 v1 v2 v3 ai aq hz av ab ac am hm bw ha hn
   go_upto_region 17 with fail
   refine Jg wr fun hH=>?_
   try simp only [J]
   (refine Jt 0 (.agg [sv,pv,cv].toArray) rfl (yif_load rfl 26 _ rfl rfl (fun W hW=>(ag.out.ext (b.out.trans hW)).has) agg_Flat rfl) hH ?_;try simp only [J])
   (refine Jt 1 (.slice xa x.length xc) rfl (yif_load1 rfl fun _ _=>rfl) hH ?_;try simp only [J])
   (refine Jt 2 (.slice (some ⟨ib,io,none⟩) is.length ic) rfl (yif_load1 rfl fun _ _=>rfl) hH ?_;try simp only [J])
   (refine Jt 3 (.int .i64 (k:Int)) rfl (yif_load1 rfl fun _ _=>rfl) hH ?_;try simp only [J])
   (refine Jt 4 (.pointer (some ⟨ib,io+k,none⟩)) rfl (yif_load1 rfl (by intro W hW;clear hW;go_simp;try (intro h;omega))) hH ?_;try simp only [J])
   (refine Jt 5 (.slice ua I.length uc) rfl (yif_load1 rfl (by intro W hW;have y:=cd.out W (s.out.trans hW);clear hW;go_simp)) hH ?_;try simp only [J])
   (refine Jr 6 rfl fun K hK=>?_)
   go_simp
   refine (bc.out _ hH).mono ?_
   rintro r w6 ⟨u6,rfl,h8,hg⟩
   refine hK.out _ _ (hH.trans hg) (fun hH=>?_)
   clear hK K hg
   have b3:=Jh h8
   obtain ⟨a6,-,-,c6,rfl,-,-,-,-⟩:=h8.open
   clear h8
   try simp only [J]
   (refine Jt 7 (.tuple #[.slice a6 x1.length c6,.int .i64 0]) rfl (yif_load1 rfl fun _ _=>rfl) hH ?_;try simp only [J])
   (refine Jt 8 (.slice a6 x1.length c6) rfl (yif_load1 rfl (by intro W hW;clear hW;go_simp)) hH ?_;try simp only [J])
   (refine Jt 9 (.int .i64 0) rfl (yif_load1 rfl (by intro W hW;clear hW;go_simp)) hH ?_;try simp only [J])
   (refine Jt 10 (.slice a6 x1.length c6) rfl (yif_load1 rfl fun _ _=>rfl) hH ?_;try simp only [J])
   (refine Jt 11 (.int .i64 0) rfl (yif_load1 rfl fun _ _=>rfl) hH ?_;try simp only [J])
   refine Jz ?_
   have au:=Jh hH
   have hw:=Jh (fun W (h:Ext wr W)=>(ag.out.ext (b.out.trans h)).has)
   clear hH
   have d6:=hw.out w6 au.out
   go_upto_region 19 with (first | ((with_reducible show Jl 26);refine Jm 26 (d6) agg_Flat rfl ?_) | (go_at_call 19;refine (ay.out w6 _ au.out b3.out).mono ?_;rintro r w7 ⟨u7,rfl,an,bj⟩))
   obtain ⟨a7,-,-,c7,rfl,-,-,-,-⟩:=an.open
   have af:=Jh (au.out.trans bj)
   have bl:=Jh an
   clear bj an d6
   have d7:=hw.out w7 af.out
   go_upto_region 20 with (first | ((with_reducible show Jl 26);refine Jm 26 (d7) agg_Flat rfl ?_) | (go_at_call 33;refine (a3.out w7 _ af.out bl.out).mono ?_;rintro r w8 ⟨u8,t8,rfl,aj,ap,ak⟩))
   have hs:=Jh (af.out.trans ak)
   have cf:=Jh aj
   have bh:=Jh ap
   have ce:=Jh (bl.out.ext ak)
   obtain ⟨a8,-,-,c8,rfl,-,-,-,-⟩:=aj.open
   obtain ⟨b8,-,-,e8,rfl,-,-,-,-⟩:=ap.open
   clear ak aj ap d7
   have d8:=hw.out w8 hs.out
   go_upto_region 21 with (first | ((with_reducible show Jl 26);refine Jm 26 (d8) agg_Flat rfl ?_) | (go_at_call 25;refine (bi.out w8 _ hs.out ce.out).mono ?_;rintro r w9 ⟨u9,rfl,a9,ao⟩))
   have hb:=Jh (hs.out.trans ao)
   have b7:=Jh a9
   have hh:=Jh ao
   clear ao a9 d8
   have y1:=cc.out w9 (b.out.trans hb.out)
   have cm:=Jh (bp.out w9 _ (b.out.trans hb.out) (cf.out.ext hh.out))
   go_upto_region 22 with (first | (go_at_call 24;refine cm.out.mono ?_;rintro r w10 ⟨rfl,c⟩;have y2:=bz.out w10 (b.out.trans (hb.out.trans c))) | (go_at_call 34;refine (bb.out w10 _ (b.out.trans (hb.out.trans c)) (bh.out.mono fun _ _ _ _ q=>Has.ext q (hh.out.trans c))).mono ?_;rintro r w11 ⟨rfl,hf⟩))
   have bu:=Jh (hb.out.trans (c.trans hf))
   have bs:=Jh (b7.out.ext (c.trans hf))
   clear c hf y1 y2
   go_wp2_with fail
   go_roundw
   case rel=>exact ⟨k+1,x3,hlt,by go_num,bs.out,co.out,bx.out,b.out.trans bu.out⟩
   case measure=>simp [intOf];omega
  ·obtain rfl:k=is.length:=by omega
   go_wp2_with fail
   go_ret
   exact ⟨rfl,h6.out.trans b.out⟩
section
variable {H:Type} {enc:TypeId × Value->H} {w:World}
theorem lift_U64ss (m:Nat):∀ cs x,DataW.trod enc Tryz.prog w 0 (fun _=>true) true m 55 cs=some x->∃ (s:Value) (l:List (List Nat)),cs=[s]/\UsL w s l/\(∀ y∈l,us64 y)/\l.length+1<=Rows.uptoBulk x.1:=by
 intro cs x h
 obtain ⟨s,l,e,hs,d,-,a⟩:=lift_slice (At:=fun (x:List Nat) b o=>∃ u,Has w b o [u]/\Us w u x) (ok:=us64) (ms:=fun _=>0) Tryz.underlying55 cells_sU (by decide) h (fun k hk cs x b o hh hx=>by
  obtain ⟨s,vs,rfl,hu,c,-⟩:=lift_U64s k cs x hx
  exact ⟨vs,⟨s,hh,hu⟩,c,Nat.zero_le _⟩)
 exact ⟨s,l,e,hs,d,a⟩
end
end Go.Proofs.YtoaamjgfhppppaaGreat
