/- Laws and walks that a claim of this seat leans on: R01e, R10v. -/
import Derived.Test.YtbliplladmamoaaGreatS23
import Derived.Test.YtbliplladmamoaaGreatS16
import Derived.Test.YtbliplladmamoaaGreatS19
import Derived.Test.YtbliplladmamoaaGreatS00
set_option maxRecDepth 100000
set_option maxHeartbeats 8000000
set_option linter.all false
namespace Go.Proofs.YtbliplladmamoaaGreat
open Go.RowKit
theorem Zf (l:List Bt) (ab:∀ x∈l,x.ok) (ai:l≠[]) (hw:catW l<=64) (s:Value) (w:World) (h:Bts w s l) :
  Calls Tryz.prog 150 #[s] w (Gk w ⟨catW l,catM (catP l) 0⟩):=by
 have HX:=Ab w (.cells #[.int .i64 0,.int .u64 0] 151)
 have hR:=Blk.new w #[.int .i64 0,.int .u64 0] 151
 have aa:=Jh ab
 have HW:=Jh hw
 have au:0<l.length:=List.length_pos_iff.2 ai
 have ah:1<=catW l:=by
  cases l with
  | nil=>exact absurd rfl ai
  | cons x l =>
   have h1:=(ab x (by simp)).1
   have h2:=(Oz l (fun y hy=>ab y (by simp [hy]))).1
   unfold catW at *
   rw [List.map_cons,List.sum_cons]
   omega
 obtain ⟨a,b,o,cap,hs,ay,az,ha,hr⟩:=h.open
 subst hs
 have ak:=Jh (fun W (h:Ext w W)=>(hr.mono fun x _ b o (hh:Has w b o x.cells)=>Has.ext hh h:Rows 2 (Nv W) l b o))
 clear ab hw ai h hr
 have c1:(catW l==0)=false:=by rw [beq_eq_false_iff_ne];omega
 have c2:decide (64<catW l)=false:=decide_eq_false (by have:=HW.out;omega)
 go_enter Tryz.func150,Tryz.ntmps150
 go_upto_region 1 with fail
 generalize w.alloc _=w0 at *
 obtain rfl:=ha au
 clear ha
 have HR:=Jh hR
 have ag:=Jh HX
 clear hR HX
 go_wp2_with fail
 go_loopw [4,5] (fun v i wr=>∃ k:Nat,k<=l.length/\i=.int .i64 k/\v=.int .i64 (catW (l.take k))/\Ext w0 wr) (fun _ i _=>l.length-(intOf i).toNat)
 case atStart=>exact ⟨0,Nat.zero_le _,rfl,rfl,Below.refl _ _⟩
 case round =>
  obtain ⟨k,hk,rfl,rfl,hB⟩:=hrel
  by_cases u:k<l.length
  ·have he:=Bts.get (ak.out wr (ag.out.trans hB)) u
   obtain ⟨t1,-,t3⟩:=Qx l aa.out k u
   have j:=aa.out _ (List.getElem_mem u)
   obtain ⟨z1,-⟩:=Oz (l.take k) (fun x hx=>aa.out x (List.mem_of_mem_take hx))
   have HC:=Jh (fun W=>Dd l[k] j W)
   have al:=HW.out
   generalize l[k]=x at *
   rw [t1] at t3
   have T1:=Jh t1
   have aw:=j.1
   have ax:=j.2.1
   generalize catW (l.take k)=s0 at *
   clear t1 j
   obtain ⟨xw,xv⟩:=x
   simp only at *
   go_upto_region 7 with (first | ((with_reducible show Jl 151);refine Aa rfl 151 _ rfl rfl (he) Ae rfl ?_) | (go_at_call 180;refine (HC.out _).mono ?_;rintro r w2 ⟨rfl,hx⟩))
   have g0:=(Has.ext he hx) 0 _ rfl
   rw [Nat.add_zero] at g0
   have ap:=hB.trans hx
   clear he hx hB
   go_wp2_with fail
   go_roundw
   case rel=>exact ⟨k+1,by omega,by go_num,by rw [T1.out],ap⟩
   case measure=>simp [intOf];omega
  ·obtain rfl:k=l.length:=by omega
   rw [List.take_length]
   obtain ⟨wo,rfl⟩:∃ wo,wo=wr:=⟨_,rfl⟩
   have HB:=Jh hB
   clear hB
   go_wp2_with fail
   go_loopw [6,7] (fun v i wq=>∃ k:Nat,k<=l.length/\i=.int .i64 k/\v=.int .u64 (catM (catP (l.take k)) 0:Nat)/\Ext wo wq) (fun _ i _=>l.length-(intOf i).toNat)
   case atStart=>exact ⟨0,Nat.zero_le _,rfl,rfl,Below.refl _ _⟩
   case round =>
    obtain ⟨k,hk,rfl,rfl,hB⟩:=hrel
    by_cases u:k<l.length
    ·have he:=Bts.get (ak.out wr (ag.out.trans (HB.out.trans hB))) u
     obtain ⟨t1,t2,t3⟩:=Qx l aa.out k u
     have j:=aa.out _ (List.getElem_mem u)
     obtain ⟨z1,z2⟩:=Oz (l.take k) (fun x hx=>aa.out x (List.mem_of_mem_take hx))
     have al:=HW.out
     generalize l[k]=x at *
     rw [t1] at t3
     obtain ⟨e1,e2⟩:=Xz z2 j.2.2 (by have:=j.1;omega)
     have a1:=Bt.lt64 j
     have aw:=j.1
     have ax:=j.2.1
     generalize catW (l.take k)=s0 at *
     generalize catM (catP (l.take k)) 0=a0 at *
     have ae:a0*2^x.w.toNat<18446744073709551616:=by
      have h1:a0*2^x.w.toNat<2^(s0.toNat+x.w.toNat):=by
       rw [Nat.pow_add];exact Nat.mul_lt_mul_of_pos_right z2 (Nat.two_pow_pos _)
      exact Nat.lt_of_lt_of_le h1 (Nat.pow_le_pow_right (n:=2) (by decide) (show s0.toNat+x.w.toNat<=64 by omega))
     have ac:a0<2^64:=Nat.lt_of_lt_of_le z2 (Nat.pow_le_pow_right (by decide) (by omega))
     have af:=Jh (fun W=>Uk a0 x.w.toNat ac W)
     rw [Nat.mod_eq_of_lt ae] at af
     generalize a0*2^x.w.toNat=m0 at *
     have T2:=Jh t2
     have E2:=Jh e2
     clear t1 t2 z2 e1 e2 j
     obtain ⟨xw,xv⟩:=x
     simp only at *
     have am:((xw.toNat:Nat):Int)=xw:=by omega
     rw [am] at af
     have HE:=Jh he
     have aj:=Jh hB
     have av:IntKind.u64.wrap xw=xw:=by rw [IntKind.wrap_u64];omega
     clear he hB ae ac am
     go_wp2_with fail
     refine Jg wr fun hH=>?_
     try simp only [J]
     (refine Ji 0 (.int .u64 (a0:Int)) rfl hH ?_;try simp only [J])
     (refine Ji 1 (.slice (some ⟨b,o,none⟩) l.length cap) rfl hH ?_;try simp only [J])
     (refine Ji 2 (.int .i64 (k:Int)) rfl hH ?_;try simp only [J])
     (refine Jk 3 (.pointer (some ⟨b,o+k*2,none⟩)) rfl hH ?_;try simp only [J])
     (refine Jk 4 (.pointer (some ⟨b,o+k*2,none⟩)) rfl hH ?_;try simp only [J])
     (refine Jt 5 (.int .i64 xw) rfl (yif_load1 rfl (by intro W hW;have y:=(HE.out.ext hW) 0 _ rfl;rw [Nat.add_zero] at y;clear hW;go_simp)) hH ?_;try simp only [J])
     (refine Jk 6 (.int .u64 xw) rfl hH ?_;try simp only [J])
     (refine Ji 8 (.slice (some ⟨b,o,none⟩) l.length cap) rfl hH ?_;try simp only [J])
     (refine Ji 9 (.int .i64 (k:Int)) rfl hH ?_;try simp only [J])
     (refine Jk 10 (.pointer (some ⟨b,o+k*2,none⟩)) rfl hH ?_;try simp only [J])
     (refine Jk 11 (.pointer (some ⟨b,o+k*2+1,none⟩)) rfl hH ?_;try simp only [J])
     (refine Jt 12 (.int .u64 (xv:Int)) rfl (yif_load1 rfl (by intro W hW;have y:=(HE.out.ext hW) 1 _ rfl;clear hW;go_simp)) hH ?_;try simp only [J])
     (refine Jr 7 rfl fun K hK=>?_)
     go_simp
     refine (af.out _).mono ?_
     rintro r w3 ⟨rfl,rfl⟩
     refine hK.out _ _ hH (fun hH=>?_)
     clear hK K
     try simp only [J]
     (refine Jt 13 (.int .u64 ((m0+xv:Nat):Int)) rfl (yif_load1 rfl (by intro W hW;clear hW;go_simp;exact E2.out)) hH ?_;try simp only [J])
     (refine Ji 14 (.int .u64 ((m0+xv:Nat):Int)) rfl hH ?_;try simp only [J])
     refine Jz ?_
     have HD:=Jh (aj.out.trans hH)
     clear hH aj HE av
     go_wp2_with fail
     go_roundw
     case rel=>exact ⟨k+1,by omega,by go_num,by rw [T2.out],HD.out⟩
     case measure=>simp [intOf];omega
    ·obtain rfl:k=l.length:=by omega
     rw [List.take_length]
     have ao:=Jh (ag.out.trans (HB.out.trans hB))
     have an:=Jh (HR.out.ext (HB.out.trans hB))
     clear hB
     go_wp2_with (first | ((with_reducible show Js 151);refine Ac rfl 151 _ _ rfl (an.out) rfl (cs:=Bt.cells ⟨catW l,catM (catP l) 0⟩) (rfl) Ae (rfl) rfl (rfl) ?_;intro w4 aq ar) | ((with_reducible show bodyPost _ _ _ _ _ _);refine Hid.out ?_))
     refine Jh ?_
     exact Am rfl rfl rfl aq.has Ae rfl rfl ⟨rfl,ao.out.grown ar (by omega)⟩
theorem Lp {W:World} {g n cr k:Nat} {L:List Bt} (h:Bts W (.slice (some ⟨g,0,none⟩) n cr) L) (hk:k<L.length):Has W g (k*2) L[k].cells:=by
 obtain ⟨b,o,⟨a,cap,e1,-,-,e4⟩,hr⟩:=h
 injection e1 with e1 _ _
 have h4:=e4 (by omega)
 rw [h4] at e1
 injection e1 with e1
 injection e1 with e1 e2 _
 subst e1
 subst e2
 have:=Bts.get hr hk
 rwa [Nat.zero_add] at this
def Ow (d:Bb) (vs:List Nat) (e:E):Prop:=∀ (fv uv:Value) (cs:List Value) (w:World),Ck w fv d->Us w uv vs->VE w cs e->nodes e<=1048576 ->
 Calls Tryz.prog 110 #[fv,uv,.agg cs.toArray] w fun r w'=>r=.returned (.agg (evB vs e).cells.toArray)/\Ext w w'
theorem Aaw (d:Bb) (vs:List Nat) (cn:∀ x∈d.signals,1<=x.w/\x.w<=64) (bh:Nc d.signals vs) (e:E) (du:WS d.signals e) (dt:e.wf) (cc:e.op=2\/e.op=3->vs.length=d.signals.length) (ih:∀ x∈e.l,Ow d vs x):Ow d vs e:=by
 intro fv uv cs w hF hU hV hn
 have d1:=Jh (fun W (h:Ext w W)=>hF.ext h)
 have d5:=Jh (fun W (h:Ext w W)=>hU.ext h)
 have bs:∀ x∈d.signals,x.w<=64:=fun x hx=>(cn x hx).2
 obtain ⟨h0,hp⟩:=(Hv _ e).1 du
 have b1:=(E.wf_iff e).1 dt
 have ah:=Jh (show ∀ x∈e.l,(evB vs x).ok from fun x hx=>Adw bs (hp x hx) (b1.2.2.2.2.2.2.2 x hx))
 have d6:=Jh b1.2.2.1.1
 have eb:=C7 e
 obtain ⟨u,bw⟩:∃ r,evB vs e=r:=⟨_,rfl⟩
 have al:=Jh (show u=⟨e.w,Gn vs e.op e.w e.v e.sig e.hi e.lo e.n (e.l.map (·.w)) (e.l.map (evM vs))⟩ by rw [<-bw];unfold evB;rw [Z2])
 rw [bw]
 have am:=Jh (show ∀ k (hk:k<d.signals.length),k<vs.length->Bt.ok ⟨d.signals[k].w,vs.getD k 0⟩ from fun k hk _=>by
  have h2:Dn d.signals (k:Int)=d.signals[k].w:=by simp [Dn,List.getElem?_eq_getElem hk]
  have h3:=cn _ (List.getElem_mem hk)
  have h4:=bh (k:Int) (by omega) (by omega)
  rw [h2] at h4
  exact ⟨h3.1,h3.2,h4⟩)
 have bb:=Jh bs
 have a2:=Jh h0
 have ap:=Jh cc
 have IH:=Jh ih
 have bc:=Jh (show ∀ x∈e.l,nodes x<=1048576 from fun x hx=>by have:=Bf nodes e.l x hx;omega)
 have ba:=Jh (show e.l.length+1<=16777216 by have:=A8 nodes e.l (fun x _=>Gh x);omega)
 obtain ⟨s,rfl,hs⟩:=hV
 obtain ⟨a,b,ob,cap,rfl,ef,eg,ha,hr⟩:=hs.open
 obtain ⟨sv,pv,cv,rfl,hS,hP,hC⟩:=hF
 obtain ⟨a0,b0,o0,c0,rfl,ek,em,dk,dl⟩:=hS.open
 obtain ⟨av,bv,ov,bl,rfl,en,eo,dp,dr⟩:=hU.open
 have d4:=Jh (fun W (h:Ext w W)=>(hr.mono fun x _ b o hh=>EAt.ext h x b o hh:Rows 8 (EAt W) e.l b ob))
 have c5:=Jh (fun W (h:Ext w W)=>(dl.mono fun x _ b o hh=>C6.ext' h hh:Rows 4 (C6 W) d.signals b0 o0))
 have c6:=Jh (fun W (h:Ext w W)=>(dr.mono fun x _ b o (hh:UAt w x b o)=>Has.ext hh h:Rows 1 (UAt W) vs bv ov))
 have HA:=Jh ha
 have c4:=Jh dk
 have c7:=Jh dp
 have x1:=Ab w (.cells [.slice a0 d.signals.length c0,pv,cv].toArray 26)
 have x2:=Ab (w.alloc (.cells [.slice a0 d.signals.length c0,pv,cv].toArray 26)) (.cells (e.cells (.slice a e.l.length cap)).toArray 40)
 have x3:=Ab ((w.alloc (.cells [.slice a0 d.signals.length c0,pv,cv].toArray 26)).alloc (.cells (e.cells (.slice a e.l.length cap)).toArray 40)) (.cells #[.int .i64 0,.int .u64 0] 151)
 have hD:=((Blk.new w [.slice a0 d.signals.length c0,pv,cv].toArray 26).ext x2).ext x3
 have hE:=(Blk.new (w.alloc (.cells [.slice a0 d.signals.length c0,pv,cv].toArray 26)) (e.cells (.slice a e.l.length cap)).toArray 40).ext x3
 have hR:=Blk.new ((w.alloc (.cells [.slice a0 d.signals.length c0,pv,cv].toArray 26)).alloc (.cells (e.cells (.slice a e.l.length cap)).toArray 40)) #[.int .i64 0,.int .u64 0] 151
 have hX:=(x1.trans x2).trans x3
 simp only [World.size_alloc] at hE hR
 clear x1 x2 x3 hS hP hC hU hs hr dl dr ha dk dp hn eb b1 hp du dt cn bs bh cc ih bw h0
 go_enter Tryz.func110,Tryz.ntmps110
 go_upto_region 1 with fail
 generalize ((w.alloc _).alloc _).alloc _=w0 at *
 have HD:=Jh hD
 have HE:=Jh hE
 have HR:=Jh hR
 have HX:=Jh hX
 have g0:=hE.has 0 _ rfl
 clear hD hE hR hX
 by_cases o1:e.op=1
 ·obtain ⟨nv,cp⟩:=Int.eq_ofNat_of_zero_le d6.out
  have g1:=HE.out.has 1 _ rfl
  have g2:=HE.out.has 2 _ rfl
  obtain rfl:u=⟨e.w,nv⟩:=by rw [al.out];unfold Gn;rw [if_pos o1,cp];rfl
  replace g0:w0.cell? ⟨w.heap.size+1,0+0,none⟩=some (.int .i64 1):=by rw [<-o1];exact g0
  replace g2:w0.cell? ⟨w.heap.size+1,0+2,none⟩=some (.int .u64 (nv:Int)):=by rw [<-cp];exact g2
  clear o1 cp al
  go_wp2_with (first | ((with_reducible show Js 151);refine Ac rfl 151 _ _ rfl (HR.out) rfl (cs:=Bt.cells ⟨e.w,nv⟩) (rfl) Ae (rfl) rfl (rfl) ?_;intro w4 b4 d9) | ((with_reducible show bodyPost _ _ _ _ _ _);refine Hid.out ?_))
  refine Jh ?_
  exact Av rfl rfl b4.has Ae rfl rfl ⟨rfl,HX.out.grown d9 (by omega)⟩
 by_cases o2:e.op=2
 ·have ct:slice d.signals e.sig e.hi e.lo=true/\e.w=e.hi-e.lo+1:=by
   have h0:=a2.out
   unfold wsN at h0
   rcases h0 with h | ⟨-,-,h1,h2,-⟩ | h | h | h | h | h | h
   case inr.inl=>exact ⟨h1,h2⟩
   all_goals (exfalso;have:=h.1;omega)
  obtain ⟨q1,q2,q3,q4,q5,-⟩:=Gw _ bb.out ct.1
  have cu:=ap.out (.inl o2)
  obtain ⟨k,hk⟩:=Int.eq_ofNat_of_zero_le q1
  have bg:k<d.signals.length:=by omega
  have be:k<vs.length:=by omega
  obtain rfl:=c4.out (by omega)
  obtain rfl:=c7.out (by omega)
  have az:=am.out k bg be
  have dm:Dn d.signals e.sig=d.signals[k].w:=by rw [hk];simp [Dn,List.getElem?_eq_getElem bg]
  have br:vs.getD k 0=vs[k]:=by simp [List.getD_eq_getElem?_getD,List.getElem?_eq_getElem be]
  have cf:=Jh (fun W (h:Ext w W)=>(Cq.get (c5.out W h) bg) 1 _ rfl)
  have cg:=Jh (fun W (h:Ext w W)=>Us.get (c6.out W h) be)
  have cj:(⟨e.hi-e.lo+1,vs.getD k 0 / 2^e.lo.toNat%2^(e.hi-e.lo+1).toNat⟩:Bt)=u:=by
   rw [al.out]
   unfold Gn
   rw [if_neg o1,if_pos o2,hk,ct.2]
   rfl
  rw [dm] at q5
  rw [br] at az cj
  generalize d.signals[k].w=sw at *
  generalize vs[k]=A at *
  have b2:=Jh (fun W=>N3 ⟨sw,A⟩ az e.hi e.lo q3 q4 q5 W)
  simp only at b2
  rw [cj] at b2
  replace g0:w0.cell? ⟨w.heap.size+1,0+0,none⟩=some (.int .i64 2):=by rw [<-o2];exact g0
  have HK:=Jh hk
  clear o1 o2 ct q1 q2 q3 q4 q5 cu hk az dm br cj am
  go_wp2_with fail
  refine wp_region_held_drew (S:=fun W=>Ext w W/\Blk W w.heap.size [.slice (some ⟨b0,o0,none⟩) d.signals.length c0,pv,cv].toArray 26/\Blk W (w.heap.size+1) (e.cells (.slice a e.l.length cap)).toArray 40) (by kernel_rfl) ⟨HX.out.drew,HD.out.drew,HE.out.drew⟩ (fun hH=>?_)
  try simp only [J]
  (refine Jk 0 (.pointer (some ⟨w.heap.size,0,none⟩)) rfl hH ?_;try simp only [J])
  (refine Jt 1 (.slice (some ⟨b0,o0,none⟩) d.signals.length c0) rfl (yif_load1 rfl (by intro W hW;have y:=hW.2.1.has 0 _ rfl;clear hW;go_simp)) hH ?_;try simp only [J])
  (refine Jk 2 (.pointer (some ⟨w.heap.size+1,3,none⟩)) rfl hH ?_;try simp only [J])
  (refine Jt 3 (.int .i64 (k:Int)) rfl (yif_load1 rfl (by intro W hW;have y:=hW.2.2.has 3 _ rfl;rw [HK.out] at y;clear hW;go_simp)) hH ?_;try simp only [J])
  (refine Jk 4 (.pointer (some ⟨b0,o0+k*4,none⟩)) rfl hH ?_;try simp only [J])
  (refine Jk 5 (.pointer (some ⟨b0,o0+k*4+1,none⟩)) rfl hH ?_;try simp only [J])
  (refine Jt 6 (.int .i64 sw) rfl (yif_load1 rfl (by intro W hW;have y:=cf.out W hW.1;clear hW;go_simp)) hH ?_;try simp only [J])
  (refine Ji 7 (.slice (some ⟨bv,ov,none⟩) vs.length bl) rfl hH ?_;try simp only [J])
  (refine Jk 8 (.pointer (some ⟨w.heap.size+1,3,none⟩)) rfl hH ?_;try simp only [J])
  (refine Jt 9 (.int .i64 (k:Int)) rfl (yif_load1 rfl (by intro W hW;have y:=hW.2.2.has 3 _ rfl;rw [HK.out] at y;clear hW;go_simp)) hH ?_;try simp only [J])
  (refine Jk 10 (.pointer (some ⟨bv,ov+k,none⟩)) rfl hH ?_;try simp only [J])
  (refine Jt 11 (.int .u64 (A:Int)) rfl (yif_load1 rfl (by intro W hW;have y:=cg.out W hW.1;clear hW;go_simp)) hH ?_;try simp only [J])
  (refine Jk 12 (.agg (Bt.cells ⟨sw,A⟩).toArray) rfl hH ?_;try simp only [J])
  (refine Jk 13 (.pointer (some ⟨w.heap.size+1,4,none⟩)) rfl hH ?_;try simp only [J])
  (refine Jt 14 (.int .i64 e.hi) rfl (yif_load1 rfl (by intro W hW;have y:=hW.2.2.has 4 _ rfl;clear hW;go_simp)) hH ?_;try simp only [J])
  (refine Jk 15 (.pointer (some ⟨w.heap.size+1,5,none⟩)) rfl hH ?_;try simp only [J])
  (refine Jt 16 (.int .i64 e.lo) rfl (yif_load1 rfl (by intro W hW;have y:=hW.2.2.has 5 _ rfl;clear hW;go_simp)) hH ?_;try simp only [J])
  have ar:=Jh HR.out.drew
  refine wpAnyH_ready (rs:=[17,21]) (by kernel_rfl) (by simp) ?_
  refine AllReadyH.cons rfl (fun K hK=>?_) (AllReadyH.cons rfl (fun K hK=>?_) AllReadyH.nil)
  ·go_simp
   refine (b2.out _).mono ?_
   rintro r w3 ⟨rfl,ag⟩
   refine hK.out _ _ ⟨hH.1.trans ag,hH.2.1.ext ag,hH.2.2.ext ag⟩ (fun hH=>?_)
   clear hK K
   try simp only [J]
   replace ar:=Jh (ar.out.ext ag)
   (refine Ji 18 (.tuple #[.agg u.cells.toArray,.int .i64 0]) rfl hH ?_;try simp only [J])
   (refine Jk 19 (.agg u.cells.toArray) rfl hH ?_;try simp only [J])
   (refine Jk 20 (.int .i64 0) rfl hH ?_;try simp only [J])
   (refine Jr 21 rfl fun K hK=>?_)
   go_simp
   have af:=Ab w3 (.cells #[.int .i64 0,.int .u64 0] 151)
   have a4:=Blk.new w3 #[.int .i64 0,.int .u64 0] 151
   have bt:=(show Blk w3 (w.heap.size+1+1) #[.int .i64 0,.int .u64 0] 151 from ar.out).lt
   replace ar:=Jh (ar.out.ext af)
   refine hK.out _ _ ⟨hH.1.trans af,hH.2.1.ext af,hH.2.2.ext af⟩ (fun hH=>?_)
   clear hK K af
   obtain ⟨P,a6⟩:∃ P,w3.heap.size=P:=⟨_,rfl⟩
   rw [a6] at a4 bt ⊢
   clear a6
   generalize w3.alloc _=w4 at *
   try simp only [J]
   (refine Jr 22 rfl fun K hK=>?_)
   refine Az rfl 151 _ _ rfl a4 rfl (cs:=u.cells) rfl Ae rfl rfl rfl ?_
   intro w5 bo ax
   refine hK.out _ _ ⟨hH.1.grown ax (by omega),hH.2.1.grown ax (by omega),hH.2.2.grown ax (by omega)⟩ (fun hH=>?_)
   clear hK K
   try simp only [J]
   (refine Ji 23 (.int .i64 0) rfl hH ?_;try simp only [J])
   refine Jz ?_
   have aw:=Jh (ar.out.grown ax (by omega))
   have au:=Jh hH.1
   have b5:=bo.has
   clear hH a4 ax bo
   go_wp2_with (first | ((with_reducible show Jl 151);refine Aa rfl 151 _ rfl rfl (b5) Ae rfl ?_) | ((with_reducible show Js 151);refine Ac rfl 151 _ _ rfl (aw.out) rfl (cs:=u.cells) (rfl) Ae (rfl) rfl (rfl) ?_;intro w9 ai aj) | ((with_reducible show bodyPost _ _ _ _ _ _);refine Hid.out ?_))
   refine Jh ?_
   exact Av rfl rfl ai.has Ae rfl rfl ⟨rfl,au.out.grown aj (by omega)⟩
  ·go_simp
   have af:Ext w0.drew (w0.alloc (.cells #[.int .i64 0,.int .u64 0] 151)).drew:=⟨(Ab w0 (.cells #[.int .i64 0,.int .u64 0] 151)).os,(Ab w0 (.cells #[.int .i64 0,.int .u64 0] 151)).tape,(Ab w0 (.cells #[.int .i64 0,.int .u64 0] 151)).output,(Ab w0 (.cells #[.int .i64 0,.int .u64 0] 151)).size,(Ab w0 (.cells #[.int .i64 0,.int .u64 0] 151)).block⟩
   have a4:Blk (w0.alloc (.cells #[.int .i64 0,.int .u64 0] 151)).drew w0.heap.size #[.int .i64 0,.int .u64 0] 151:=Blk.new w0 #[.int .i64 0,.int .u64 0] 151
   have bt:w.heap.size+1+1<w0.heap.size:=(show Blk w0.drew (w.heap.size+1+1) #[.int .i64 0,.int .u64 0] 151 from ar.out).lt
   replace ar:=Jh (ar.out.ext af)
   refine hK.out _ _ ⟨hH.1.trans af,hH.2.1.ext af,hH.2.2.ext af⟩ (fun hH=>?_)
   clear hK K af
   obtain ⟨P,a6⟩:∃ P,w0.heap.size=P:=⟨_,rfl⟩
   rw [a6] at a4 bt ⊢
   clear a6
   generalize (w0.alloc _).drew=w4 at *
   try simp only [J]
   (refine Jr 17 rfl fun K hK=>?_)
   go_simp
   refine (b2.out _).mono ?_
   rintro r w3 ⟨rfl,ag⟩
   refine hK.out _ _ ⟨hH.1.trans ag,hH.2.1.ext ag,hH.2.2.ext ag⟩ (fun hH=>?_)
   clear hK K
   try simp only [J]
   replace ar:=Jh (ar.out.ext ag)
   replace a4:=a4.ext ag
   (refine Ji 18 (.tuple #[.agg u.cells.toArray,.int .i64 0]) rfl hH ?_;try simp only [J])
   (refine Jk 19 (.agg u.cells.toArray) rfl hH ?_;try simp only [J])
   (refine Jk 20 (.int .i64 0) rfl hH ?_;try simp only [J])
   (refine Jr 22 rfl fun K hK=>?_)
   refine Az rfl 151 _ _ rfl a4 rfl (cs:=u.cells) rfl Ae rfl rfl rfl ?_
   intro w5 bo ax
   refine hK.out _ _ ⟨hH.1.grown ax (by omega),hH.2.1.grown ax (by omega),hH.2.2.grown ax (by omega)⟩ (fun hH=>?_)
   clear hK K
   try simp only [J]
   (refine Ji 23 (.int .i64 0) rfl hH ?_;try simp only [J])
   refine Jz ?_
   have aw:=Jh (ar.out.grown ax (by omega))
   have au:=Jh hH.1
   have b5:=bo.has
   clear hH a4 ax bo
   go_wp2_with (first | ((with_reducible show Jl 151);refine Aa rfl 151 _ rfl rfl (b5) Ae rfl ?_) | ((with_reducible show Js 151);refine Ac rfl 151 _ _ rfl (aw.out) rfl (cs:=u.cells) (rfl) Ae (rfl) rfl (rfl) ?_;intro w9 ai aj) | ((with_reducible show bodyPost _ _ _ _ _ _);refine Hid.out ?_))
   refine Jh ?_
   exact Av rfl rfl ai.has Ae rfl rfl ⟨rfl,au.out.grown aj (by omega)⟩
 have c1:(e.op==1)=false:=by rw [beq_eq_false_iff_ne];exact o1
 have c2:(e.op==2)=false:=by rw [beq_eq_false_iff_ne];exact o2
 have x3:=Ab w0 (.cells #[] 151)
 have a7:=Bi.empty (V:=VBt) (size:=2) (N:=w0.heap.size) (Blk.new w0 #[] 151) (Nat.le_refl _)
 have ed:w0.heap.size<(w0.alloc (.cells #[] 151)).heap.size:=by simp
 go_wp2_with ((with_reducible show Jw (Op.buildSlice _ _ _));refine Hz rfl _ rfl Ic ?_)
 have ce:=Jh a7
 have c8:=Jh x3
 generalize w0.alloc _=w1 at *
 clear a7 x3
 have O1:=Jh o1
 have O2:=Jh o2
 clear g0 o1 o2
 go_loopw [9,10] (fun v i wr=>∃ k:Nat,k<=e.l.length/\i=.int .i64 k/\Bi VBt 151 2 w0.heap.size v ((e.l.take k).map (evB vs)) wr/\Ext w0 wr) (fun _ i _=>e.l.length-(intOf i).toNat)
 case atStart=>exact ⟨0,Nat.zero_le _,rfl,ce.out,c8.out⟩
 case round =>
  obtain ⟨k,hk,rfl,a7,hB⟩:=hrel
  have aq:=Jh a7
  have an:=Jh hB
  have z7:=(HE.out.ext hB).has 7 _ rfl
  clear a7 hB
  by_cases co:k<e.l.length
  ·obtain rfl:=HA.out (by omega)
   obtain ⟨s2,h1,h2⟩:=Es.get (d4.out w (Below.refl _ _)) co
   have cy:=Jh (fun W (h:Ext w W)=>Has.ext h1 h)
   have cz:=Jh (fun W (h:Ext w W)=>(Es.ext h2 h:Es W s2 e.l[k].l))
   have dq:VE wr (e.l[k].cells s2) e.l[k]:=⟨s2,rfl,cz.out wr (HX.out.trans an.out)⟩
   have bu:e.l[k]∈e.l:=List.getElem_mem co
   have HC:=Jh (fun W (h:Ext wr W)=>IH.out _ bu _ _ (e.l[k].cells s2) W (d1.out W ((HX.out.trans an.out).trans h)) (d5.out W ((HX.out.trans an.out).trans h)) (dq.ext h) (bc.out _ bu))
   have db:(e.l.take (k+1)).map (evB vs)=(e.l.take k).map (evB vs)++[evB vs e.l[k]]:=by rw [Ba _ _ co,List.map_append,List.map_cons,List.map_nil]
   have dg:((e.l.take k).map (evB vs)).length=k:=by rw [List.length_map,List.length_take];omega
   have dy:=Jh db
   have bk:=Jh dg
   clear cz
   generalize (e.l.take k).map (evB vs)=rr at *
   generalize e.l[k]=x at *
   generalize evB vs x=y at *
   clear db dg dq h1 h2 bu
   obtain ⟨ur,cr,cq,-⟩:=aq.out.open
   subst cq
   rw [bk.out] at aq ⊢
   go_upto_region 11 with fail
   refine wp_region_held_drew (S:=fun W=>Ext w W/\Blk W w.heap.size [.slice a0 d.signals.length c0,pv,cv].toArray 26/\Blk W (w.heap.size+1) (e.cells (.slice (some ⟨b,ob,none⟩) e.l.length cap)).toArray 40/\Has W b (ob+k*8) (x.cells s2)) (by kernel_rfl) ⟨(HX.out.trans an.out).drew,(HD.out.ext an.out).drew,(HE.out.ext an.out).drew,cy.out _ ((HX.out.trans an.out).drew)⟩ (fun hH=>?_)
   try simp only [J]
   (refine Ji 0 (.slice ur k cr) rfl hH ?_;try simp only [J])
   (refine Jt 1 (.agg [.slice a0 d.signals.length c0,pv,cv].toArray) rfl (Ar rfl 26 _ rfl rfl (fun W hW=>hW.2.1.has) Aj rfl) hH ?_;try simp only [J])
   (refine Ji 2 (.slice av vs.length bl) rfl hH ?_;try simp only [J])
   (refine Jk 3 (.pointer (some ⟨w.heap.size+1,7,none⟩)) rfl hH ?_;try simp only [J])
   (refine Jt 4 (.slice (some ⟨b,ob,none⟩) e.l.length cap) rfl (yif_load1 rfl (by intro W hW;have y:=hW.2.2.1.has 7 _ rfl;clear hW;go_simp)) hH ?_;try simp only [J])
   (refine Ji 5 (.int .i64 (k:Int)) rfl hH ?_;try simp only [J])
   (refine Jk 6 (.pointer (some ⟨b,ob+k*8,none⟩)) rfl hH ?_;try simp only [J])
   (refine Jt 7 (.agg (x.cells s2).toArray) rfl (Ar rfl 40 _ rfl rfl (fun W hW=>hW.2.2.2) Ah rfl) hH ?_;try simp only [J])
   (refine Jr 8 rfl fun K hK=>?_)
   go_simp
   refine (HC.out _ (Below.drew (Below.refl _ _))).mono ?_
   rintro r w3 ⟨rfl,ag⟩
   have bx:=aq.out.since (Al.of_ext (N:=w0.heap.size) ((Ext.drew (Below.refl wr.heap.size wr)).trans ag))
   have da:=an.out.drew.trans ag
   refine hK.out _ _ ⟨hH.1.trans ag,hH.2.1.ext ag,hH.2.2.1.ext ag,hH.2.2.2.ext ag⟩ (fun hH=>?_)
   clear hK K ag
   try simp only [J]
   (refine Jr 9 rfl fun K hK=>?_)
   refine Dg rfl _ _ rfl Ic rfl (cs:=y.cells) rfl rfl (by decide) ?_
   have af:=Ab w3 (.cells y.cells.toArray 151)
   have b4:=Has.alloc w3 y.cells 151
   have a5:=bx.since (Al.of_ext (N:=w0.heap.size) af)
   have cl:=da.trans af
   refine hK.out _ _ ⟨hH.1.trans af,hH.2.1.ext af,hH.2.2.1.ext af,hH.2.2.2.ext af⟩ (fun hH=>?_)
   clear hK K bx da af
   generalize w3.alloc _=w4 at *
   generalize w3.heap.size=B3 at *
   try simp only [J]
   (refine Jr 10 rfl fun K hK=>?_)
   rw [<-bk.out] at a5 ⊢
   refine D1 rfl _ _ _ rfl Ic rfl a5 rfl rfl b4 rfl (y:=y) VBt.st (by have:=ba.out;have:=bk.out;omega) cl.size ?_
   intro g7 c9 w7 bz ab
   have bf:Ext w0 w7:=Ext.grownO cl ab (fun j hj=>(a5.lt j hj).1)
   refine hK.out _ _ ⟨HX.out.trans bf,HD.out.ext bf,HE.out.ext bf,cy.out w7 (HX.out.trans bf)⟩ (fun hH=>?_)
   clear hK K cl a5 b4 ab
   have a1:=Jh bz
   have a3:=Jh bf
   clear bz bf
   rw [bk.out]
   try simp only [J]
   (refine Ji 11 (.slice (some ⟨g7,0,none⟩) (k+1) c9) rfl hH ?_;try simp only [J])
   refine Jz ?_
   clear hH
   go_wp2_with fail
   go_roundw
   case rel=>exact ⟨k+1,by omega,by go_num,by have h:=a1.out;rw [bk.out] at h;rw [dy.out];exact h,a3.out⟩
   case measure=>simp [intOf];omega
  ·obtain rfl:k=e.l.length:=by omega
   rw [List.take_length] at aq
   have cm:=Bi.sl (V:=VBt) (At:=Nv) (fun _ _ _ _ _ h hv=>VBt.at h hv) aq.out (Al.refl _ wr)
   obtain ⟨ur,cr,cq,dn⟩:=aq.out.open
   subst cq
   have dj:0<e.l.length:=by
    have h0:=a2.out
    have hq:(e.l.map (·.w)).length=e.l.length:=List.length_map ..
    have o1:=O1.out
    have o2:=O2.out
    unfold wsN at h0
    generalize e.l.map (·.w)=ws at *
    rcases h0 with h | h | ⟨-,⟨k,rfl⟩,-⟩ | ⟨-,⟨k,rfl,-⟩,-⟩ | ⟨-,⟨j,k,rfl,-⟩,-⟩ | ⟨-,rfl,-⟩ | ⟨-,h,-⟩ | ⟨-,⟨k,rfl,-⟩,-⟩
    ·exact absurd h.1 o1
    ·exact absurd h.1 o2
    ·simp at hq;omega
    ·simp at hq;omega
    ·simp at hq;omega
    ·simp at hq;omega
    ·have:=List.length_pos_iff.2 h;omega
    ·simp at hq;omega
   obtain ⟨g,rfl⟩:=dn (by rw [List.length_map];exact dj)
   rw [List.length_map] at cm ⊢
   have bi:=Ab wr (.cells #[.int .i64 0,.int .u64 0] 151)
   have ci:=Blk.new wr #[.int .i64 0,.int .u64 0] 151
   have di:=(HR.out.ext an.out).lt
   have cd:=Bts.ext cm bi
   have au:=Jh ((HX.out.trans an.out).trans bi)
   have dz:=Jh ((HD.out.ext an.out).ext bi)
   have a9:=Jh ((HE.out.ext an.out).ext bi)
   have aw:=Jh ((HR.out.ext an.out).ext bi)
   have ea:g<wr.heap.size:=(aq.out.lt g rfl).2
   clear cm bi dn aq an
   go_upto_region 13 with (((with_reducible show Js 151);refine Ad rfl 151 _ _ rfl rfl (by first | rfl | simp) rfl Ae (rfl) rfl (rfl) ?_))
   clear z7
   generalize wr.alloc _=w5 at *
   obtain ⟨P,a6⟩:∃ P,wr.heap.size=P:=⟨_,rfl⟩
   rw [a6] at ci di ea ⊢
   clear a6
   have g0:=a9.out.has 0 _ rfl
   have bd:=Jh ci
   have ak:=Jh cd
   clear ci cd
   have h0:=a2.out
   unfold wsN at h0
   rcases h0 with h | h | ⟨ho,⟨kw,hk⟩,h2,h3,hw1,-⟩ | ⟨ho,⟨kw,hk,h1⟩,-⟩ | ⟨ho,⟨jw,kw,hk,h1⟩,-⟩ | ⟨ho,hk,-⟩ | ⟨ho,h1,h2,h3,-⟩ | ⟨ho,⟨kw,hk,h1⟩,h2,h3,-⟩
   ·exact absurd h.1 O1.out
   ·exact absurd h.1 O2.out
   ·obtain ⟨x,hl,-⟩:=P8 hk
    obtain ⟨k,b9⟩:=Int.eq_ofNat_of_zero_le h2
    have cu:=ap.out (.inr ho)
    have bg:k<d.signals.length:=by omega
    have be:k<vs.length:=by omega
    obtain rfl:=c4.out (by omega)
    obtain rfl:=c7.out (by omega)
    have az:=am.out k bg be
    have br:vs.getD k 0=vs[k]:=by simp [List.getD_eq_getElem?_getD,List.getElem?_eq_getElem be]
    have cf:=Jh (fun W (h:Ext w W)=>(Cq.get (c5.out W h) bg) 1 _ rfl)
    have cg:=Jh (fun W (h:Ext w W)=>Us.get (c6.out W h) be)
    have dv:=ah.out x (by rw [hl];simp)
    have ec:evM vs x<2^64:=Bt.lt64 dv
    have ac:u=⟨1,vs.getD k 0 / 2^evM vs x%2⟩:=by rw [al.out];simp [Gn,ho,hl,b9,hw1]
    have H0:Has w5 g 0 (Bt.cells ⟨x.w,evM vs x⟩):=by have:=Lp ak.out (k:=0) (by simp [hl]);simpa [hl,evB] using this
    rw [br] at az ac
    generalize d.signals[k].w=sw at *
    generalize vs[k]=A at *
    generalize evM vs x=B at *
    have dw:=az.1
    have dx:=az.2.1
    have cb:=az.2.2
    have ee:IntKind.u64.wrap sw=sw:=by rw [IntKind.wrap_u64];simp only at dw dx;omega
    have d0:=dz.out.has 0 _ rfl
    have g3:=a9.out.has 3 _ rfl
    rw [b9] at g3
    have gs:=cf.out w5 au.out
    replace g0:w5.cell? ⟨w.heap.size+1,0+0,none⟩=some (.int .i64 3):=by rw [<-ho];exact g0
    have df:0<e.l.length:=dj
    have d2:=Jh b9
    have ca:=Jh ac
    have ch:=Jh az
    have cx:=Jh cb
    simp only at dw dx
    clear hk ho b9 ac br cu dv az cb h2 h3 al a2 O1 O2 ap am bb bc ba ak
    by_cases bm:(B:Int)<sw
    ·have cB:decide ((B:Int)<sw)=true:=decide_eq_true bm
     have b3:=fun W=>N3 ⟨sw,A⟩ ch.out (B:Int) (B:Int) (by omega) (Int.le_refl _) bm W
     have hr:(⟨(B:Int)-(B:Int)+1,A / 2^((B:Int)).toNat%2^((B:Int)-(B:Int)+1).toNat⟩:Bt)=u:=by
      rw [ca.out,show (B:Int)-(B:Int)+1=1 by omega];rfl
     simp only at b3
     rw [hr] at b3
     have HU:=Jh b3
     have ep:IntKind.i64.wrap (B:Int)=(B:Int):=by rw [IntKind.wrap_i64];omega
     clear b3 hr bm
     go_wp2_with (first | (((with_reducible show Js 151);refine Ac rfl 151 _ _ rfl (bd.out) rfl (cs:=Bt.cells ⟨1,0⟩) (rfl) Ae (rfl) rfl (rfl) ?_;intro w6 b6 ay);have q1:=(Has.grown H0 ay (by omega)) 1 _ rfl))
     have d7:=Jh (au.out.grown ay (by omega))
     have dh:=Jh (a9.out.grown ay (by omega))
     have d3:=Jh (aw.out.grown ay (by omega))
     have H6:=Jh (Has.grown H0 ay (by omega))
     clear q1 ay d0 g3 gs g0
     refine wp_region_held_drew (S:=fun W=>Ext w W/\Blk W (w.heap.size+1) (e.cells (.slice a e.l.length cap)).toArray 40/\Has W g 0 (Bt.cells ⟨x.w,B⟩)) (by kernel_rfl) ⟨d7.out.drew,dh.out.drew,H6.out.drew⟩ (fun hH=>?_)
     try simp only [J]
     (refine Ji 0 (.int .i64 sw) rfl hH ?_;try simp only [J])
     (refine Ji 1 (.slice (some ⟨bv,ov,none⟩) vs.length bl) rfl hH ?_;try simp only [J])
     (refine Jk 2 (.pointer (some ⟨w.heap.size+1,3,none⟩)) rfl hH ?_;try simp only [J])
     (refine Jt 3 (.int .i64 (k:Int)) rfl (yif_load1 rfl (by intro W hW;have y:=hW.2.1.has 3 _ rfl;rw [d2.out] at y;clear hW;go_simp)) hH ?_;try simp only [J])
     (refine Jk 4 (.pointer (some ⟨bv,ov+k,none⟩)) rfl hH ?_;try simp only [J])
     (refine Jt 5 (.int .u64 (A:Int)) rfl (yif_load1 rfl (by intro W hW;have y:=cg.out W hW.1;clear hW;go_simp)) hH ?_;try simp only [J])
     (refine Jk 6 (.agg (Bt.cells ⟨sw,A⟩).toArray) rfl hH ?_;try simp only [J])
     (refine Ji 7 (.slice (some ⟨g,0,none⟩) 1 cr) rfl hH ?_;try simp only [J])
     (refine Jk 8 (.pointer (some ⟨g,0,none⟩)) rfl hH ?_;try simp only [J])
     (refine Jk 9 (.pointer (some ⟨g,1,none⟩)) rfl hH ?_;try simp only [J])
     (refine Jt 10 (.int .u64 (B:Int)) rfl (yif_load1 rfl (by intro W hW;have y:=hW.2.2 1 _ rfl;clear hW;go_simp)) hH ?_;try simp only [J])
     (refine Jk 11 (.int .i64 (B:Int)) rfl hH ?_;try simp only [J])
     (refine Ji 12 (.slice (some ⟨g,0,none⟩) 1 cr) rfl hH ?_;try simp only [J])
     (refine Jk 13 (.pointer (some ⟨g,0,none⟩)) rfl hH ?_;try simp only [J])
     (refine Jk 14 (.pointer (some ⟨g,1,none⟩)) rfl hH ?_;try simp only [J])
     (refine Jt 15 (.int .u64 (B:Int)) rfl (yif_load1 rfl (by intro W hW;have y:=hW.2.2 1 _ rfl;clear hW;go_simp)) hH ?_;try simp only [J])
     (refine Jk 16 (.int .i64 (B:Int)) rfl hH ?_;try simp only [J])
     (refine Jr 17 rfl fun K hK=>?_)
     go_simp
     refine (HU.out _).mono ?_
     rintro r w7 ⟨rfl,bj⟩
     refine hK.out _ _ ⟨hH.1.trans bj,hH.2.1.ext bj,hH.2.2.ext bj⟩ (fun hH=>?_)
     clear hK K
     try simp only [J]
     (refine Ji 18 (.tuple #[.agg u.cells.toArray,.int .i64 0]) rfl hH ?_;try simp only [J])
     (refine Jk 19 (.agg u.cells.toArray) rfl hH ?_;try simp only [J])
     (refine Jk 20 (.int .i64 0) rfl hH ?_;try simp only [J])
     (refine Jr 21 rfl fun K hK=>?_)
     refine Az rfl 151 _ _ rfl (b6.drew.ext bj) rfl (cs:=u.cells) rfl Ae rfl rfl rfl ?_
     intro w8 dc bp
     refine hK.out _ _ ⟨hH.1.grown bp (by omega),hH.2.1.grown bp (by omega),hH.2.2.grown bp (by omega)⟩ (fun hH=>?_)
     clear hK K
     refine Jz ?_
     have c3:=Jh ((d3.out.drew.ext bj).grown bp (by omega))
     have d8:=Jh hH.1
     have b8:=dc.has
     clear hH bp dc bj b6
     go_wp2_with (first | ((with_reducible show Jl 151);refine Aa rfl 151 _ rfl rfl (b8) Ae rfl ?_) | ((with_reducible show Js 151);refine Ac rfl 151 _ _ rfl (c3.out) rfl (cs:=u.cells) (rfl) Ae (rfl) rfl (rfl) ?_;intro w9 ai aj) | ((with_reducible show bodyPost _ _ _ _ _ _);refine Hid.out ?_))
     refine Jh ?_
     exact Av rfl rfl ai.has Ae rfl rfl ⟨rfl,d8.out.grown aj (by omega)⟩
    ·have cB:decide ((B:Int)<sw)=false:=decide_eq_false bm
     obtain rfl:u=⟨1,0⟩:=by
      rw [ca.out,Nat.div_eq_of_lt (Nat.lt_of_lt_of_le cx.out (Nat.pow_le_pow_right (by decide) (by show sw.toNat<=B;omega)))]
     clear bm
     go_wp2_with (first | (((with_reducible show Js 151);refine Ac rfl 151 _ _ rfl (bd.out) rfl (cs:=Bt.cells ⟨1,0⟩) (rfl) Ae (rfl) rfl (rfl) ?_;intro w6 b6 ay);have q1:=(Has.grown H0 ay (by omega)) 1 _ rfl) | ((with_reducible show Jl 151);refine Aa rfl 151 _ rfl rfl (b6.has) Ae rfl ?_) | ((with_reducible show Js 151);refine Ac rfl 151 _ _ rfl (aw.out.grown ay (by omega)) rfl (cs:=Bt.cells ⟨1,0⟩) (rfl) Ae (rfl) rfl (rfl) ?_;intro w9 ai aj) | ((with_reducible show bodyPost _ _ _ _ _ _);refine Hid.out ?_))
     refine Jh ?_
     exact Av rfl rfl ai.has Ae rfl rfl ⟨rfl,(au.out.grown ay (by omega)).grown aj (by omega)⟩
   ·obtain ⟨x,hl,a8⟩:=P8 hk
    have hw:unW e.n x.w=e.w:=by unfold unW;split<;>omega
    have ac:(⟨unW e.n x.w,unM e.n x.w.toNat (evM vs x)⟩:Bt)=u:=by rw [al.out,hw];simp [Gn,ho,hl]
    have ae:=fun W=>Abl e.n (by omega) (by omega) (evB vs x) (ah.out x (by rw [hl];simp)) (by intro h;show x.w=1;omega) W
    rw [show (⟨unW e.n (evB vs x).w,unM e.n (evB vs x).w.toNat (evB vs x).v⟩:Bt)=u from ac] at ae
    have HU:=Jh ae
    clear ae ac hw a8 h1
    replace g0:w5.cell? ⟨w.heap.size+1,0+0,none⟩=some (.int .i64 4):=by rw [<-ho];exact g0
    have df:0<e.l.length:=by rw [hl];simp
    have H0:Has w5 g 0 (evB vs x).cells:=by have:=Lp ak.out (k:=0) (by simp [hl]);simpa [hl] using this
    clear hk ho al a2 O1 O2 ap am bb bc ba ak
    go_wp2_with fail
    refine wp_region_held_drew (S:=fun W=>Ext w W/\Blk W (w.heap.size+1) (e.cells (.slice a e.l.length cap)).toArray 40/\Has W g 0 (evB vs x).cells) (by kernel_rfl) ⟨au.out.drew,a9.out.drew,H0.drew⟩ (fun hH=>?_)
    try simp only [J]
    (refine Jk 0 (.pointer (some ⟨w.heap.size+1,6,none⟩)) rfl hH ?_;try simp only [J])
    (refine Jt 1 (.int .i64 e.n) rfl (yif_load1 rfl (by intro W hW;have y:=hW.2.1.has 6 _ rfl;clear hW;go_simp)) hH ?_;try simp only [J])
    (refine Ji 2 (.slice (some ⟨g,0,none⟩) 1 cr) rfl hH ?_;try simp only [J])
    (refine Jk 3 (.pointer (some ⟨g,0,none⟩)) rfl hH ?_;try simp only [J])
    (refine Jt 4 (.agg (evB vs x).cells.toArray) rfl (Ar rfl 151 _ rfl rfl (fun W hW=>hW.2.2) Ae rfl) hH ?_;try simp only [J])
    (refine Jr 5 rfl fun K hK=>?_)
    go_simp
    refine (HU.out _).mono ?_
    rintro r w6 ⟨rfl,aa⟩
    refine hK.out _ _ ⟨hH.1.trans aa,hH.2.1.ext aa,hH.2.2.ext aa⟩ (fun hH=>?_)
    clear hK K
    try simp only [J]
    (refine Ji 6 (.tuple #[.agg u.cells.toArray,.int .i64 0]) rfl hH ?_;try simp only [J])
    (refine Jk 7 (.agg u.cells.toArray) rfl hH ?_;try simp only [J])
    (refine Jk 8 (.int .i64 0) rfl hH ?_;try simp only [J])
    (refine Jr 9 rfl fun K hK=>?_)
    refine Az rfl 151 _ _ rfl (bd.out.drew.ext aa) rfl (cs:=u.cells) rfl Ae rfl rfl rfl ?_
    intro w7 ao ab
    refine hK.out _ _ ⟨hH.1.grown ab (by omega),hH.2.1.grown ab (by omega),hH.2.2.grown ab (by omega)⟩ (fun hH=>?_)
    clear hK K
    refine Jz ?_
    have a1:=Jh ((aw.out.drew.ext aa).grown ab (by omega))
    have a3:=Jh hH.1
    have b7:=ao.has
    clear hH ab ao aa
    go_wp2_with (first | ((with_reducible show Jl 151);refine Aa rfl 151 _ rfl rfl (b7) Ae rfl ?_) | ((with_reducible show Js 151);refine Ac rfl 151 _ _ rfl (a1.out) rfl (cs:=u.cells) (rfl) Ae (rfl) rfl (rfl) ?_;intro w9 ai aj) | ((with_reducible show bodyPost _ _ _ _ _ _);refine Hid.out ?_))
    refine Jh ?_
    exact Av rfl rfl ai.has Ae rfl rfl ⟨rfl,a3.out.grown aj (by omega)⟩
   ·obtain ⟨x,y,hl,a8,cw⟩:=Aca hk
    have hw:Fm e.n x.w=e.w:=by unfold Fm;split<;>omega
    have ac:(⟨Fm e.n x.w,D4 e.n x.w.toNat (evM vs x) (evM vs y)⟩:Bt)=u:=by rw [al.out,hw];simp [Gn,ho,hl]
    have ae:=fun W=>Ze e.n (by omega) (by omega) (evB vs x) (evB vs y) (ah.out x (by rw [hl];simp)) (ah.out y (by rw [hl];simp)) (by intro p1 p2;show x.w=y.w;omega) (by intro p1;show x.w=1;omega) W
    rw [show (⟨Fm e.n (evB vs x).w,D4 e.n (evB vs x).w.toNat (evB vs x).v (evB vs y).v⟩:Bt)=u from ac] at ae
    have HU:=Jh ae
    clear ae ac hw a8 cw h1
    replace g0:w5.cell? ⟨w.heap.size+1,0+0,none⟩=some (.int .i64 5):=by rw [<-ho];exact g0
    have ei:1<e.l.length:=by rw [hl];simp
    have H0:Has w5 g 0 (evB vs x).cells:=by have:=Lp ak.out (k:=0) (by simp [hl]);simpa [hl] using this
    have H1:Has w5 g 2 (evB vs y).cells:=by have:=Lp ak.out (k:=1) (by simp [hl]);simpa [hl] using this
    clear hk ho al a2 O1 O2 ap am bb bc ba ak
    go_wp2_with fail
    refine wp_region_held_drew (S:=fun W=>Ext w W/\Blk W (w.heap.size+1) (e.cells (.slice a e.l.length cap)).toArray 40/\Has W g 0 (evB vs x).cells/\Has W g 2 (evB vs y).cells) (by kernel_rfl) ⟨au.out.drew,a9.out.drew,H0.drew,H1.drew⟩ (fun hH=>?_)
    try simp only [J]
    (refine Jk 0 (.pointer (some ⟨w.heap.size+1,6,none⟩)) rfl hH ?_;try simp only [J])
    (refine Jt 1 (.int .i64 e.n) rfl (yif_load1 rfl (by intro W hW;have y:=hW.2.1.has 6 _ rfl;clear hW;go_simp)) hH ?_;try simp only [J])
    (refine Ji 2 (.slice (some ⟨g,0,none⟩) 2 cr) rfl hH ?_;try simp only [J])
    (refine Jk 3 (.pointer (some ⟨g,0,none⟩)) rfl hH ?_;try simp only [J])
    (refine Jt 4 (.agg (evB vs x).cells.toArray) rfl (Ar rfl 151 _ rfl rfl (fun W hW=>hW.2.2.1) Ae rfl) hH ?_;try simp only [J])
    (refine Ji 5 (.slice (some ⟨g,0,none⟩) 2 cr) rfl hH ?_;try simp only [J])
    (refine Jk 6 (.pointer (some ⟨g,2,none⟩)) rfl hH ?_;try simp only [J])
    (refine Jt 7 (.agg (evB vs y).cells.toArray) rfl (Ar rfl 151 _ rfl rfl (fun W hW=>hW.2.2.2) Ae rfl) hH ?_;try simp only [J])
    (refine Jr 8 rfl fun K hK=>?_)
    go_simp
    refine (HU.out _).mono ?_
    rintro r w6 ⟨rfl,aa⟩
    refine hK.out _ _ ⟨hH.1.trans aa,hH.2.1.ext aa,hH.2.2.1.ext aa,hH.2.2.2.ext aa⟩ (fun hH=>?_)
    clear hK K
    try simp only [J]
    (refine Ji 9 (.tuple #[.agg u.cells.toArray,.int .i64 0]) rfl hH ?_;try simp only [J])
    (refine Jk 10 (.agg u.cells.toArray) rfl hH ?_;try simp only [J])
    (refine Jk 11 (.int .i64 0) rfl hH ?_;try simp only [J])
    (refine Jr 12 rfl fun K hK=>?_)
    refine Az rfl 151 _ _ rfl (bd.out.drew.ext aa) rfl (cs:=u.cells) rfl Ae rfl rfl rfl ?_
    intro w7 ao ab
    refine hK.out _ _ ⟨hH.1.grown ab (by omega),hH.2.1.grown ab (by omega),hH.2.2.1.grown ab (by omega),hH.2.2.2.grown ab (by omega)⟩ (fun hH=>?_)
    clear hK K
    refine Jz ?_
    have a1:=Jh ((aw.out.drew.ext aa).grown ab (by omega))
    have a3:=Jh hH.1
    have b7:=ao.has
    clear hH ab ao aa
    go_wp2_with (first | ((with_reducible show Jl 151);refine Aa rfl 151 _ rfl rfl (b7) Ae rfl ?_) | ((with_reducible show Js 151);refine Ac rfl 151 _ _ rfl (a1.out) rfl (cs:=u.cells) (rfl) Ae (rfl) rfl (rfl) ?_;intro w9 ai aj) | ((with_reducible show bodyPost _ _ _ _ _ _);refine Hid.out ?_))
    refine Jh ?_
    exact Av rfl rfl ai.has Ae rfl rfl ⟨rfl,a3.out.grown aj (by omega)⟩
   ·obtain ⟨c,x,y,hl,dd,a8,cw⟩:=Aeo hk
    have ac:(⟨x.w,if evM vs c=1 then evM vs x else evM vs y⟩:Bt)=u:=by rw [al.out,a8];simp [Gn,ho,hl]
    have ae:=fun W=>Xb (evB vs c) (evB vs x) (evB vs y) (ah.out c (by rw [hl];simp)) (ah.out x (by rw [hl];simp)) (ah.out y (by rw [hl];simp)) dd (by show x.w=y.w;omega) W
    rw [show (⟨(evB vs x).w,if (evB vs c).v=1 then (evB vs x).v else (evB vs y).v⟩:Bt)=u from ac] at ae
    have HU:=Jh ae
    clear ae ac dd a8 cw
    replace g0:w5.cell? ⟨w.heap.size+1,0+0,none⟩=some (.int .i64 6):=by rw [<-ho];exact g0
    have ej:2<e.l.length:=by rw [hl];simp
    have H0:Has w5 g 0 (evB vs c).cells:=by have:=Lp ak.out (k:=0) (by simp [hl]);simpa [hl] using this
    have H1:Has w5 g 2 (evB vs x).cells:=by have:=Lp ak.out (k:=1) (by simp [hl]);simpa [hl] using this
    have H2:Has w5 g 4 (evB vs y).cells:=by have:=Lp ak.out (k:=2) (by simp [hl]);simpa [hl] using this
    clear hk ho al a2 O1 O2 ap am bb bc ba ak
    go_wp2_with fail
    refine wp_region_held_drew (S:=fun W=>Ext w W/\Blk W (w.heap.size+1) (e.cells (.slice a e.l.length cap)).toArray 40/\Has W g 0 (evB vs c).cells/\Has W g 2 (evB vs x).cells/\Has W g 4 (evB vs y).cells) (by kernel_rfl) ⟨au.out.drew,a9.out.drew,H0.drew,H1.drew,H2.drew⟩ (fun hH=>?_)
    try simp only [J]
    (refine Ji 0 (.slice (some ⟨g,0,none⟩) 3 cr) rfl hH ?_;try simp only [J])
    (refine Jk 1 (.pointer (some ⟨g,0,none⟩)) rfl hH ?_;try simp only [J])
    (refine Jt 2 (.agg (evB vs c).cells.toArray) rfl (Ar rfl 151 _ rfl rfl (fun W hW=>hW.2.2.1) Ae rfl) hH ?_;try simp only [J])
    (refine Ji 3 (.slice (some ⟨g,0,none⟩) 3 cr) rfl hH ?_;try simp only [J])
    (refine Jk 4 (.pointer (some ⟨g,2,none⟩)) rfl hH ?_;try simp only [J])
    (refine Jt 5 (.agg (evB vs x).cells.toArray) rfl (Ar rfl 151 _ rfl rfl (fun W hW=>hW.2.2.2.1) Ae rfl) hH ?_;try simp only [J])
    (refine Ji 6 (.slice (some ⟨g,0,none⟩) 3 cr) rfl hH ?_;try simp only [J])
    (refine Jk 7 (.pointer (some ⟨g,4,none⟩)) rfl hH ?_;try simp only [J])
    (refine Jt 8 (.agg (evB vs y).cells.toArray) rfl (Ar rfl 151 _ rfl rfl (fun W hW=>hW.2.2.2.2) Ae rfl) hH ?_;try simp only [J])
    (refine Jr 9 rfl fun K hK=>?_)
    go_simp
    refine (HU.out _).mono ?_
    rintro r w6 ⟨rfl,aa⟩
    refine hK.out _ _ ⟨hH.1.trans aa,hH.2.1.ext aa,hH.2.2.1.ext aa,hH.2.2.2.1.ext aa,hH.2.2.2.2.ext aa⟩ (fun hH=>?_)
    clear hK K
    try simp only [J]
    (refine Ji 10 (.tuple #[.agg u.cells.toArray,.int .i64 0]) rfl hH ?_;try simp only [J])
    (refine Jk 11 (.agg u.cells.toArray) rfl hH ?_;try simp only [J])
    (refine Jk 12 (.int .i64 0) rfl hH ?_;try simp only [J])
    (refine Jr 13 rfl fun K hK=>?_)
    refine Az rfl 151 _ _ rfl (bd.out.drew.ext aa) rfl (cs:=u.cells) rfl Ae rfl rfl rfl ?_
    intro w7 ao ab
    refine hK.out _ _ ⟨hH.1.grown ab (by omega),hH.2.1.grown ab (by omega),hH.2.2.1.grown ab (by omega),hH.2.2.2.1.grown ab (by omega),hH.2.2.2.2.grown ab (by omega)⟩ (fun hH=>?_)
    clear hK K
    refine Jz ?_
    have a1:=Jh ((aw.out.drew.ext aa).grown ab (by omega))
    have a3:=Jh hH.1
    have b7:=ao.has
    clear hH ab ao aa
    go_wp2_with (first | ((with_reducible show Jl 151);refine Aa rfl 151 _ rfl rfl (b7) Ae rfl ?_) | ((with_reducible show Js 151);refine Ac rfl 151 _ _ rfl (a1.out) rfl (cs:=u.cells) (rfl) Ae (rfl) rfl (rfl) ?_;intro w9 ai aj) | ((with_reducible show bodyPost _ _ _ _ _ _);refine Hid.out ?_))
    refine Jh ?_
    exact Av rfl rfl ai.has Ae rfl rfl ⟨rfl,a3.out.grown aj (by omega)⟩
   ·have de:e.l.map (evB vs)≠[]:=by
     intro h;apply h1;simpa using h
    have ac:(⟨catW (e.l.map (evB vs)),catM (catP (e.l.map (evB vs))) 0⟩:Bt)=u:=by rw [al.out,Lq,<-h2,<-V8];simp [Gn,ho]
    have ae:=Zf (e.l.map (evB vs)) (fun bq hb=>by obtain ⟨x,hx,rfl⟩:=List.mem_map.1 hb;exact ah.out x hx) de (by rw [Lq];omega) _ w5 ak.out
    rw [ac] at ae
    have HU:=Jh ae
    replace g0:w5.cell? ⟨w.heap.size+1,0+0,none⟩=some (.int .i64 7):=by rw [<-ho];exact g0
    clear ae ac de h1 h2 h3 ho al a2 O1 O2 ap am bb bc ba ak
    go_wp2_with (first | (go_at_call 150;refine HU.out.mono ?_;rintro r w6 ⟨rfl,aa⟩) | ((with_reducible show Js 151);refine Ac rfl 151 _ _ rfl (bd.out.ext aa) rfl (cs:=u.cells) (rfl) Ae (rfl) rfl (rfl) ?_;intro w7 ao ab) | ((with_reducible show Jl 151);refine Aa rfl 151 _ rfl rfl (ao.has) Ae rfl ?_) | ((with_reducible show Js 151);refine Ac rfl 151 _ _ rfl ((aw.out.ext aa).grown ab (by omega)) rfl (cs:=u.cells) (rfl) Ae (rfl) rfl (rfl) ?_;intro w9 ai aj) | ((with_reducible show bodyPost _ _ _ _ _ _);refine Hid.out ?_))
    refine Jh ?_
    exact Av rfl rfl ai.has Ae rfl rfl ⟨rfl,((au.out.trans aa).grown ab (by omega)).grown aj (by omega)⟩
   ·obtain ⟨x,hl,a8⟩:=P8 hk
    have ac:(⟨e.w,Ir e.n e.w.toNat x.w.toNat (evM vs x)⟩:Bt)=u:=by rw [al.out];simp [Gn,ho,hl]
    have ae:=fun W=>Zi e.n e.w (by omega) (by omega) h2 h3 (evB vs x) (ah.out x (by rw [hl];simp)) (by intro p1;show x.w<=e.w;omega) (by intro p1;show e.w<=x.w;omega) W
    rw [show (⟨e.w,Ir e.n e.w.toNat (evB vs x).w.toNat (evB vs x).v⟩:Bt)=u from ac] at ae
    have HU:=Jh ae
    clear ae ac a8 h1 h2 h3
    replace g0:w5.cell? ⟨w.heap.size+1,0+0,none⟩=some (.int .i64 8):=by rw [<-ho];exact g0
    have df:0<e.l.length:=by rw [hl];simp
    have H0:Has w5 g 0 (evB vs x).cells:=by have:=Lp ak.out (k:=0) (by simp [hl]);simpa [hl] using this
    clear hk ho al a2 O1 O2 ap am bb bc ba ak
    go_wp2_with fail
    refine wp_region_held_drew (S:=fun W=>Ext w W/\Blk W (w.heap.size+1) (e.cells (.slice a e.l.length cap)).toArray 40/\Has W g 0 (evB vs x).cells) (by kernel_rfl) ⟨au.out.drew,a9.out.drew,H0.drew⟩ (fun hH=>?_)
    try simp only [J]
    (refine Jk 0 (.pointer (some ⟨w.heap.size+1,6,none⟩)) rfl hH ?_;try simp only [J])
    (refine Jt 1 (.int .i64 e.n) rfl (yif_load1 rfl (by intro W hW;have y:=hW.2.1.has 6 _ rfl;clear hW;go_simp)) hH ?_;try simp only [J])
    (refine Jk 2 (.pointer (some ⟨w.heap.size+1,1,none⟩)) rfl hH ?_;try simp only [J])
    (refine Jt 3 (.int .i64 e.w) rfl (yif_load1 rfl (by intro W hW;have y:=hW.2.1.has 1 _ rfl;clear hW;go_simp)) hH ?_;try simp only [J])
    (refine Ji 4 (.slice (some ⟨g,0,none⟩) 1 cr) rfl hH ?_;try simp only [J])
    (refine Jk 5 (.pointer (some ⟨g,0,none⟩)) rfl hH ?_;try simp only [J])
    (refine Jt 6 (.agg (evB vs x).cells.toArray) rfl (Ar rfl 151 _ rfl rfl (fun W hW=>hW.2.2) Ae rfl) hH ?_;try simp only [J])
    (refine Jr 7 rfl fun K hK=>?_)
    go_simp
    refine (HU.out _).mono ?_
    rintro r w6 ⟨rfl,aa⟩
    refine hK.out _ _ ⟨hH.1.trans aa,hH.2.1.ext aa,hH.2.2.ext aa⟩ (fun hH=>?_)
    clear hK K
    try simp only [J]
    (refine Ji 8 (.tuple #[.agg u.cells.toArray,.int .i64 0]) rfl hH ?_;try simp only [J])
    (refine Jk 9 (.agg u.cells.toArray) rfl hH ?_;try simp only [J])
    (refine Jk 10 (.int .i64 0) rfl hH ?_;try simp only [J])
    (refine Jr 11 rfl fun K hK=>?_)
    refine Az rfl 151 _ _ rfl (bd.out.drew.ext aa) rfl (cs:=u.cells) rfl Ae rfl rfl rfl ?_
    intro w7 ao ab
    refine hK.out _ _ ⟨hH.1.grown ab (by omega),hH.2.1.grown ab (by omega),hH.2.2.grown ab (by omega)⟩ (fun hH=>?_)
    clear hK K
    refine Jz ?_
    have a1:=Jh ((aw.out.drew.ext aa).grown ab (by omega))
    have a3:=Jh hH.1
    have b7:=ao.has
    clear hH ab ao aa
    go_wp2_with (first | ((with_reducible show Jl 151);refine Aa rfl 151 _ rfl rfl (b7) Ae rfl ?_) | ((with_reducible show Js 151);refine Ac rfl 151 _ _ rfl (a1.out) rfl (cs:=u.cells) (rfl) Ae (rfl) rfl (rfl) ?_;intro w9 ai aj) | ((with_reducible show bodyPost _ _ _ _ _ _);refine Hid.out ?_))
    refine Jh ?_
    exact Av rfl rfl ai.has Ae rfl rfl ⟨rfl,a3.out.grown aj (by omega)⟩
def Ahx (d:Bb) (vs:List Nat) (e:E):Prop:=vs.length=d.signals.length\/(e.op≠2/\e.op≠3/\∀ x∈e.l,x.op=1)
theorem R3 (d:Bb) (vs:List Nat) (ac:∀ x∈d.signals,1<=x.w/\x.w<=64) (u:Nc d.signals vs) (e:E):WS d.signals e->e.wf->Ahx d vs e->Ow d vs e:=by
 induction e using E.ind with
 | h e ih =>
  intro ab aa j
  have hp:=((Hv _ e).1 ab).2
  have hw:=((E.wf_iff e).1 aa).2.2.2.2.2.2.2
  refine Aaw d vs ac u e ab aa (fun h=>?_) (fun x hx=>ih x hx (hp x hx) (hw x hx) ?_)
  ·rcases j with h1 | ⟨h1,h2,-⟩
   ·exact h1
   ·rcases h with h | h
    ·exact absurd h h1
    ·exact absurd h h2
  ·rcases j with h1 | ⟨-,-,h3⟩
   ·exact .inl h1
   ·have af:=h3 x hx
    have ae:x.l=[]:=by
     have h0:=((Hv _ x).1 (hp x hx)).1
     unfold wsN at h0
     rcases h0 with h | h | h | h | h | h | h | h
     ·simpa using h.2.1
     all_goals (exfalso;have:=h.1;omega)
    exact .inr ⟨by omega,by omega,by rw [ae];intro y hy;cases hy⟩
end Go.Proofs.YtbliplladmamoaaGreat
