/- Laws and walks that a claim of this seat leans on: Writes. -/
import Derived.Test.YtbliplladmamoaaGreatS13
import Derived.Test.YtbliplladmamoaaGreatS00
set_option maxRecDepth 100000
set_option maxHeartbeats 8000000
set_option linter.all false
namespace Go.Proofs.YtbliplladmamoaaGreat
open Go.RowKit
/-! ### stmt.Writes$1: the bits that statements write -/
def wS (ts:List T) (n:Nat):List Cb:=((ts.take n).filter (fun t=>t.op==1)).map Fh
theorem Ag1 (ts:List T) (n:Nat) (t:T) (h:ts[n]? = some t):wS ts (n+1)=wS ts n++(if (t.op==1)=true then [Fh t] else []):=by
 obtain ⟨hn,rfl⟩:=List.getElem?_eq_some_iff.1 h
 unfold wS
 rw [Ba _ _ hn,List.filter_append,List.map_append]
 congr 1
 by_cases h1:(ts[n].op==1)=true
 ·rw [if_pos h1];simp [h1]
 ·rw [if_neg h1];simp [h1]
theorem Ul (ts:List T) (n:Nat):(wS ts n).length<=ts.length:=by
 unfold wS
 rw [List.length_map]
 exact Nat.le_trans (List.length_filter_le _ _) (by simp;omega)
theorem D5.len {wb:World} {ts:List T} {xs:List (List Value)} (h:D5 wb ts xs):xs.length=ts.length:=by
 induction ts generalizing xs with
 | nil=>cases xs with
  | nil=>rfl
  | cons _ _=>exact h.elim
 | cons t ts ih=>cases xs with
  | nil=>exact h.elim
  | cons x xs=>simp [ih h.2]
theorem D5.at {wb:World} {ts:List T} {j:List (List Value)} {x:List Value} {u:List (List Value)} (h:D5 wb ts (j++x::u)):∃ t,ts[j.length]? = some t/\VT wb x t:=by
 induction j generalizing ts with
 | nil=>cases ts with
  | nil=>exact h.elim
  | cons t ts=>exact ⟨t,rfl,h.1⟩
 | cons y j ih=>cases ts with
  | nil=>exact h.elim
  | cons t ts =>
   obtain ⟨t',h1,h2⟩:=ih h.2
   exact ⟨t',by simpa using h1,h2⟩
theorem Pc {aa:Array Oper} {o:Oper} {a:Act} {w:World} {K:Act->World->Prop} {Q:Exit->Act->World->Prop} {E:Prop} (hw:Region.wanted o (yielded aa a.tmps)=true) (s x:Operand)
  (ho:o.op=.call { callee:=.builtin .append,args:=#[s,x],argTypes:=#[64,64] }) {N:Nat} {v:Value} {zs:List Cb} (hs:a.eval s=v) (u:Ci N v zs w)
  {B c:Nat} (hx:a.eval x=.slice (some ⟨B,0,none⟩) 1 c) {sp:Cb} (ab:Has w B 0 sp.cells) (hn:zs.length+1<=16777216) (j:N<=w.heap.size)
  (h:∀ g cap w',Ci N (.slice (some ⟨g,0,none⟩) (zs.length+1) cap) (zs++[sp]) w'->w.grownBy w' v.ownBlock->K (a.put o.dst (.slice (some ⟨g,0,none⟩) (zs.length+1) cap)) w') :
  if Region.wanted o (yielded aa a.tmps)=true then Oper.wp Tryz.prog o a w K Q else E:=by
 rw [if_pos hw]
 obtain ⟨v',w',hr,h2,h3,g,cap,rfl,hg⟩:=Vp (P:=Tryz.prog) (ty:=o.type) (a:=⟨B,0,none⟩) (m:=1) (c:=c) (news:=sp.cells) Km u (fun _=>Nat.lt_of_lt_of_le Nat.zero_lt_one (Nat.le_refl 1)) rfl (Lt ab) (by simp [Bc]) hn j
 unfold Oper.wp execOp
 simp only [ho,resolve,invoke,builtin,Sem.run_bind,Sem.run_pure,Result.andThen_ok,List.map_toArray,List.map_cons,List.map_nil,hs,hx]
 rw [hr]
 refine h g cap w' ?_ h3
 unfold Ci
 rw [List.length_append,List.map_append,List.flatten_append]
 simpa using h2
theorem Sl.ints_ext {w w':World} {v:Value} {l:List Int} (h:Ints w v l) (hx:Ext w w'):Ints w' v l:=Sl.mono h fun _ _ _ _ q=>Has.ext q hx
theorem Yr {A B:World} {N M:Nat} {v:Value} {l:List Int} {u:Option Nat} (h:Au N v l A) (hg:A.grownBy B u) (hr:∀ r,u=some r->M<=r/\∃ o:Obj,A.heap[r]? = some o/\o.isCells=false):Au N v l B :=
 h.grown hg fun k hk e=>by
  obtain ⟨-,o,ho,hc⟩:=hr k e.symm
  obtain ⟨-,aa,j⟩:=h.at hk
  rw [j] at ho;cases ho;cases hc
theorem R4 (an:List Int) (L:List T) (ov lv:Value) (w:World) (ho:Ints w ov an) (hl:Ts w lv L) (bp:∀ s∈wS (Cd.eachTs L) (Cd.eachTs L).length,H9 an s) (bo:∀ o∈an,0<=o/\o<=1099511627776) (bm:(Cd.eachTs L).length<=1048576) :
  Calls Tryz.prog 31 #[ov,lv] w fun r w'=>∃ v,r=.returned v/\Au w.heap.size v (Dl an (wS (Cd.eachTs L) (Cd.eachTs L).length)) w'/\Ext w w':=by
 obtain ⟨xs,bb,a0⟩:=S9 L w lv hl
 have a4:=hl.one
 have b8:=bb.len
 have bf:=Jh bb
 have b0:=Jh bp
 have bh:=Jh bo
 have HO:=Jh ho
 obtain ⟨B5,bg⟩:∃ y,w.heap.size=y:=⟨_,rfl⟩
 have b7:=Ab w (.cells #[.slice Option.none 0 0] 64)
 have bk:=Blk.new w #[.slice Option.none 0 0] 64
 have br:(w.alloc (.cells #[.slice Option.none 0 0] 64)).heap.size=w.heap.size+1:=by simp
 clear bb bp bo ho hl
 refine callsIn_wide.1 (callsIn_of_wp_marks (n:=0) Tryz.func31 rfl trivial ?_);rw [wpIn_wide];simp only [Tryz.ntmps31,List.size_toArray,List.length_cons,List.length_nil,Nat.reduceAdd,Nat.reduceSub,Array.replicate_succ,Array.replicate_zero,List.push_toArray,List.append_toArray,List.nil_append,List.cons_append]
 go_upto_region 2 with fail
 generalize w.alloc _=w1 at *
 rw [bg] at br bk
 have bd:=Jh a4
 clear a4
 go_wp2_with (first | (go_at_call 27;refine (Nj lv bd.out _).mono ?_;rintro r w2 ⟨rfl,rfl⟩))
 have bz:=Ab w1 (.cells #[lv] 42)
 have a8:=Blk.new w1 #[lv] 42
 have b6:(w1.alloc (.cells #[lv] 42)).heap.size=w1.heap.size+1:=by simp
 rw [br] at a8 b6
 generalize w1.alloc _=w2 at *
 have bj:=b7.trans bz
 have bl:=bk.ext bz
 have b1:Be B5 w w2:=Be.of_ext bj (by omega)
 have a6:=a0 B5 w2 (B5+1) (by omega) bj a8 (by omega)
 have be:=Jh a6
 clear a6 a0 a8
 have hI:OwnFrom w2.heap.size (fun (aj:List (List Value)) (Wx:World)=>∃ (zs:List Cb) (u:Value),zs=wS (Cd.eachTs L) aj.length/\Blk Wx B5 #[u] 64/\Ci B5 u zs Wx/\Be B5 w Wx/\B5<Wx.heap.size):=by
  rintro aj A B bc ⟨zs,u,h1,h2,h3,h4,h5⟩ hg hr
  exact ⟨zs,u,h1,Du h2 hg hr,Qf h3 hg hr,Fb h4 (by omega) (by omega) hg hr,Gt h5 hg⟩
 refine Mc (n0:=B5) rfl Ls be.out rfl (by omega)
  (fun aj Wx=>∃ (zs:List Cb) (u:Value),zs=wS (Cd.eachTs L) aj.length/\Blk Wx B5 #[u] 64/\Ci B5 u zs Wx/\Be B5 w Wx/\B5<Wx.heap.size) hI
  ⟨[],_,by simp [wS],bl,Ci.nil _ _,b1,by omega⟩
  (fun aj x aM Wx=>(∃ (zs:List Cb) (u:Value),zs=wS (Cd.eachTs L) aj.length/\Blk Wx B5 #[u] 64/\Ci B5 u zs Wx/\Be B5 w Wx/\B5<Wx.heap.size)/\∃ (U:Nat) (t:T) (v1 v2:Value),x=t.cells v1 v2/\Blk Wx U x.toArray 44/\aM=⟨#[ov,lv,undef,undef,.slice Option.none 0 0,.pointer (some ⟨B5,0,Option.none⟩),.pointer (some ⟨U,0,Option.none⟩),lv,.func (.func 44) #[] #[.pointer (some ⟨B5+1,0,Option.none⟩)],.agg x.toArray,undef,undef,undef,undef,undef,undef,undef,undef,undef,undef,undef],[]⟩)
  (fun aj x aM s A B bc hs hg hr=>⟨hI aj A B bc hs.1 hg hr,by
   obtain ⟨U,t,v1,v2,h1,h2,h3⟩:=hs.2
   exact ⟨U,t,v1,v2,h1,Du h2 hg hr,h3⟩⟩) ?assign ?body ?done
 case assign =>
  rintro l' m aj x Wx ⟨zs,u,h1,h2,h3,h4,h5⟩ ⟨av,ba⟩ hsz
  obtain ⟨t,-,v1,v2,rfl,a2,a3⟩:=(show D5 w (Cd.eachTs L) (aj++x::av) by rw [<-ba];exact bf.out).at
  refine Bu (r:=some l') (by kernel_rfl) (by rintro ⟨_,_,h⟩;exact h) ?_
  have a1:=Ab Wx (.cells (t.cells v1 v2).toArray 44)
  have b2:=Blk.new Wx (t.cells v1 v2).toArray 44
  go_wp2_with (first | ((with_reducible show Js 44);refine Ad rfl 44 _ _ rfl rfl (by first | rfl | simp) rfl Aw (rfl) rfl (by simp [a2.one,a3.one,Bc]) ?_))
  exact ⟨Bh a1,Be.of_ext a1 (by omega),⟨zs,u,h1,h2.ext a1,h3.ext a1,h4.trans (Be.of_ext a1 (by omega)),by simp;omega⟩,Wx.heap.size,t,v1,v2,rfl,b2,rfl⟩
 case body =>
  rintro l' m aj x aM Wx ⟨⟨zs,u,h1,h2,h3,h4,h5⟩,U,t,v1,v2,rfl,hU,rfl⟩ ⟨av,ba⟩ hsz
  obtain ⟨t',bs,ca,cb,bt,a2,a3⟩:=(show D5 w (Cd.eachTs L) (aj++t.cells v1 v2::av) by rw [<-ba];exact bf.out).at
  obtain ⟨bw,bx,bu,bv,b3,b4⟩:t.op=t'.op/\t.sig=t'.sig/\t.hi=t'.hi/\t.lo=t'.lo/\v1=ca/\v2=cb:=by simpa [T.cells] using bt
  subst b3
  subst b4
  have a5:Fh t'=Fh t:=by simp [Fh,bx,bu,bv]
  have ar:=Ag1 _ _ _ bs
  rw [<-h1,<-bw,a5] at ar
  have b9:zs.length<=(Cd.eachTs L).length:=by rw [h1];exact Ul _ _
  clear bs bt bw bx bu bv a5
  obtain ⟨au,cu,hu⟩:=h3.open
  subst hu
  have aw:=Jh ar
  have H1:=Jh h1
  clear ar h1
  refine wpIn_block ?_
  refine wpIn_seq ?_
  refine Bu (r:=some l') (by kernel_rfl) (by rintro ⟨_,_,h⟩;exact h) ?_
  have g0:=hU.has 0 _ rfl
  by_cases bq:(t.op==1)=true
  ·have a7:zs++[Fh t]=wS (Cd.eachTs L) (aj++[t.cells v1 v2]).length:=by
    rw [List.length_append,List.length_singleton,aw.out,if_pos bq]
   have ax:=Jh a7
   clear a7
   go_wp2_with fail
   show Code.wpIn _ _ _ _ _ _ _
   refine wpIn_cond_true rfl ?_
   clear g0
   obtain ⟨n,hn⟩:∃ n,zs.length=n:=⟨_,rfl⟩
   rw [hn] at h2 h3
   refine M3 (S:=fun W3=>Blk W3 U (t.cells v1 v2).toArray 44) (by kernel_rfl) (by kernel_rfl) (by rintro ⟨_,_,h⟩;exact h) hU.drew (fun hH=>?_)
   try simp only [J]
   (refine Jt 1 (.agg (t.cells v1 v2).toArray) rfl (Ar rfl 44 _ rfl rfl (fun _ h=>Blk.has h) Aw rfl) hH ?_;try simp only [J])
   have j:=h2.drew
   have aa:Ci B5 (.slice au n cu) zs Wx.drew:=h3.ext (Below.drew (Below.refl _ _))
   have ac:Be B5 Wx Wx.drew:=Be.drew _
   have af:KeepsFrom w2.heap.size Wx Wx.drew:=Bh (Below.drew (Below.refl _ _))
   refine wpAnyH_ready (rs:=[0,2]) (by kernel_rfl) (by simp) ?_
   refine AllReadyH.cons rfl (fun K hK=>?_) (AllReadyH.cons rfl (fun K hK=>?_) AllReadyH.nil)
   ·have x0:=j.has 0 _ rfl
    go_simp
    refine hK.out _ _ hH (fun hH=>?_)
    clear hK K x0
    try simp only [J]
    refine Jr 2 rfl fun K hK=>?_
    go_simp
    refine (Nm t v1 v2 a2.one a3.one _).mono ?_
    rintro r w6 ⟨rfl,ab⟩
    replace j:=j.ext ab
    replace aa:=aa.ext ab
    replace ac:=ac.trans (Be.of_ext ab (by have:=ac.below.size;omega))
    replace af:=af.trans (Bh ab)
    refine hK.out _ _ (hH.ext ab) (fun hH=>?_)
    clear hK K ab
    try simp only [J]
    refine Jr 3 rfl fun K hK=>?_
    refine Dg rfl _ _ rfl Km rfl (cs:=(Fh t).cells) rfl rfl (by decide) ?_
    have ab:=Ab w6 (.cells (Fh t).cells.toArray 70)
    have az:=Blk.new w6 (Fh t).cells.toArray 70
    replace j:=j.ext ab
    replace aa:=aa.ext ab
    replace ac:=ac.trans (Be.of_ext ab (by have:=ac.below.size;omega))
    replace af:=af.trans (Bh ab)
    refine hK.out _ _ (hH.ext ab) (fun hH=>?_)
    clear hK K ab
    generalize w6.alloc _=w9 at *
    try simp only [J]
    refine Jr 4 rfl fun K hK=>?_
    refine Pc (sp:=Fh t) rfl _ _ rfl rfl aa rfl az.has (by omega) (by have:=ac.below.size;omega) ?_
    intro g7 ak w7 ae ag
    simp only [hn] at ae ⊢
    have al:Blk w7 B5 #[.slice au n cu] 64:=(ag.block _ j.lt (fun e=>aa.ne j e.symm rfl)).trans j
    replace ac:=ac.trans (Be.of_gb ag (by have:=ac.below.size;omega) fun k hk=>by obtain ⟨q1,ao,h⟩:=aa.at hk;exact ⟨q1,fun c t f hc=>by rw [h] at hc;cases hc;rfl⟩)
    replace af:=af.trans (Cs ag fun k hk=>by obtain ⟨-,ao,h⟩:=aa.at hk;exact ⟨_,_,_,h⟩)
    have ap:=ag.block _ hH.lt (fun e=>by obtain ⟨-,ao,h⟩:=aa.at e.symm;exact absurd (hH.symm.trans h) (by simp))
    refine hK.out _ _ (ap.trans hH) (fun hH=>?_)
    clear hK K aa j ap
    have aa:=ae
    have j:=al
    clear ae al
    try simp only [J]
    refine Jr 5 rfl fun K hK=>?_
    have x0:=j.has 0 _ rfl
    have y0:=j.frozen 0
    have aq:=j.set 0 (.slice (some ⟨g7,0,none⟩) (n+1) ak)
    have ai:=Ay w7 B5 0 (.slice (some ⟨g7,0,none⟩) (n+1) ak)
    have ah:=aa.grown ai (fun k hk e=>aa.ne j hk (by cases e;rfl))
    have am:=ac.trans (Be.of_gb ai (by have:=ac.below.size;omega) fun k hk=>by cases hk;exact ⟨by omega,fun c t f hc=>by rw [show w7.heap[B5]? = _ from j] at hc;cases hc;rfl⟩)
    have ay:=af.trans (Cs ai fun k hk=>by cases hk;exact ⟨_,_,_,j⟩)
    go_simp
    refine hK.out _ _ (Blk.grown (B':=B5) hH ai (by rintro rfl;have q:=hH.symm.trans j;injection q with q;injection q with _ q;exact absurd q (by decide))) (fun hH=>?_)
    clear hK K x0 y0
    refine Jz ?_
    exact ⟨ay,am,zs++[Fh t],_,ax.out,aq,ah,h4.trans am,by have:=am.below.size;omega⟩
   ·go_simp
    refine (Nm t v1 v2 a2.one a3.one _).mono ?_
    rintro r w6 ⟨rfl,ab⟩
    replace j:=j.ext ab
    replace aa:=aa.ext ab
    replace ac:=ac.trans (Be.of_ext ab (by have:=ac.below.size;omega))
    replace af:=af.trans (Bh ab)
    refine hK.out _ _ (hH.ext ab) (fun hH=>?_)
    clear hK K ab
    try simp only [J]
    refine wpAnyH_ready (rs:=[0,3]) (by kernel_rfl) (by simp) ?_
    refine AllReadyH.cons rfl (fun K hK=>?_) (AllReadyH.cons rfl (fun K hK=>?_) AllReadyH.nil)
    ·have x0:=j.has 0 _ rfl
     go_simp
     refine hK.out _ _ hH (fun hH=>?_)
     clear hK K x0
     try simp only [J]
     refine Jr 3 rfl fun K hK=>?_
     refine Dg rfl _ _ rfl Km rfl (cs:=(Fh t).cells) rfl rfl (by decide) ?_
     have ab:=Ab w6 (.cells (Fh t).cells.toArray 70)
     have az:=Blk.new w6 (Fh t).cells.toArray 70
     replace j:=j.ext ab
     replace aa:=aa.ext ab
     replace ac:=ac.trans (Be.of_ext ab (by have:=ac.below.size;omega))
     replace af:=af.trans (Bh ab)
     refine hK.out _ _ (hH.ext ab) (fun hH=>?_)
     clear hK K ab
     generalize w6.alloc _=w9 at *
     try simp only [J]
     refine Jr 4 rfl fun K hK=>?_
     refine Pc (sp:=Fh t) rfl _ _ rfl rfl aa rfl az.has (by omega) (by have:=ac.below.size;omega) ?_
     intro g7 ak w7 ae ag
     simp only [hn] at ae ⊢
     have al:Blk w7 B5 #[.slice au n cu] 64:=(ag.block _ j.lt (fun e=>aa.ne j e.symm rfl)).trans j
     replace ac:=ac.trans (Be.of_gb ag (by have:=ac.below.size;omega) fun k hk=>by obtain ⟨q1,ao,h⟩:=aa.at hk;exact ⟨q1,fun c t f hc=>by rw [h] at hc;cases hc;rfl⟩)
     replace af:=af.trans (Cs ag fun k hk=>by obtain ⟨-,ao,h⟩:=aa.at hk;exact ⟨_,_,_,h⟩)
     have ap:=ag.block _ hH.lt (fun e=>by obtain ⟨-,ao,h⟩:=aa.at e.symm;exact absurd (hH.symm.trans h) (by simp))
     refine hK.out _ _ (ap.trans hH) (fun hH=>?_)
     clear hK K aa j ap
     have aa:=ae
     have j:=al
     clear ae al
     try simp only [J]
     refine Jr 5 rfl fun K hK=>?_
     have x0:=j.has 0 _ rfl
     have y0:=j.frozen 0
     have aq:=j.set 0 (.slice (some ⟨g7,0,none⟩) (n+1) ak)
     have ai:=Ay w7 B5 0 (.slice (some ⟨g7,0,none⟩) (n+1) ak)
     have ah:=aa.grown ai (fun k hk e=>aa.ne j hk (by cases e;rfl))
     have am:=ac.trans (Be.of_gb ai (by have:=ac.below.size;omega) fun k hk=>by cases hk;exact ⟨by omega,fun c t f hc=>by rw [show w7.heap[B5]? = _ from j] at hc;cases hc;rfl⟩)
     have ay:=af.trans (Cs ai fun k hk=>by cases hk;exact ⟨_,_,_,j⟩)
     go_simp
     refine hK.out _ _ (Blk.grown (B':=B5) hH ai (by rintro rfl;have q:=hH.symm.trans j;injection q with q;injection q with _ q;exact absurd q (by decide))) (fun hH=>?_)
     clear hK K x0 y0
     refine Jz ?_
     exact ⟨ay,am,zs++[Fh t],_,ax.out,aq,ah,h4.trans am,by have:=am.below.size;omega⟩
    ·refine Dg rfl _ _ rfl Km rfl (cs:=(Fh t).cells) rfl rfl (by decide) ?_
     have ab:=Ab w6 (.cells (Fh t).cells.toArray 70)
     have az:=Blk.new w6 (Fh t).cells.toArray 70
     replace j:=j.ext ab
     replace aa:=aa.ext ab
     replace ac:=ac.trans (Be.of_ext ab (by have:=ac.below.size;omega))
     replace af:=af.trans (Bh ab)
     refine hK.out _ _ (hH.ext ab) (fun hH=>?_)
     clear hK K ab
     generalize w6.alloc _=w9 at *
     try simp only [J]
     refine Jr 0 rfl fun K hK=>?_
     have x0:=j.has 0 _ rfl
     go_simp
     refine hK.out _ _ hH (fun hH=>?_)
     clear hK K x0
     try simp only [J]
     refine Jr 4 rfl fun K hK=>?_
     refine Pc (sp:=Fh t) rfl _ _ rfl rfl aa rfl az.has (by omega) (by have:=ac.below.size;omega) ?_
     intro g7 ak w7 ae ag
     simp only [hn] at ae ⊢
     have al:Blk w7 B5 #[.slice au n cu] 64:=(ag.block _ j.lt (fun e=>aa.ne j e.symm rfl)).trans j
     replace ac:=ac.trans (Be.of_gb ag (by have:=ac.below.size;omega) fun k hk=>by obtain ⟨q1,ao,h⟩:=aa.at hk;exact ⟨q1,fun c t f hc=>by rw [h] at hc;cases hc;rfl⟩)
     replace af:=af.trans (Cs ag fun k hk=>by obtain ⟨-,ao,h⟩:=aa.at hk;exact ⟨_,_,_,h⟩)
     have ap:=ag.block _ hH.lt (fun e=>by obtain ⟨-,ao,h⟩:=aa.at e.symm;exact absurd (hH.symm.trans h) (by simp))
     refine hK.out _ _ (ap.trans hH) (fun hH=>?_)
     clear hK K aa j ap
     have aa:=ae
     have j:=al
     clear ae al
     try simp only [J]
     refine Jr 5 rfl fun K hK=>?_
     have x0:=j.has 0 _ rfl
     have y0:=j.frozen 0
     have aq:=j.set 0 (.slice (some ⟨g7,0,none⟩) (n+1) ak)
     have ai:=Ay w7 B5 0 (.slice (some ⟨g7,0,none⟩) (n+1) ak)
     have ah:=aa.grown ai (fun k hk e=>aa.ne j hk (by cases e;rfl))
     have am:=ac.trans (Be.of_gb ai (by have:=ac.below.size;omega) fun k hk=>by cases hk;exact ⟨by omega,fun c t f hc=>by rw [show w7.heap[B5]? = _ from j] at hc;cases hc;rfl⟩)
     have ay:=af.trans (Cs ai fun k hk=>by cases hk;exact ⟨_,_,_,j⟩)
     go_simp
     refine hK.out _ _ (Blk.grown (B':=B5) hH ai (by rintro rfl;have q:=hH.symm.trans j;injection q with q;injection q with _ q;exact absurd q (by decide))) (fun hH=>?_)
     clear hK K x0 y0
     refine Jz ?_
     exact ⟨ay,am,zs++[Fh t],_,ax.out,aq,ah,h4.trans am,by have:=am.below.size;omega⟩
  ·go_wp2_with fail
   show Code.wpIn _ _ _ _ _ _ _
   refine wpIn_cond_false rfl ?_
   refine wpIn_skip ?_
   refine ⟨KeepsFrom.refl _ _,Be.refl _ _,zs,_,?_,h2,h3,h4,h5⟩
   rw [List.length_append,List.length_singleton,aw.out,if_neg bq,List.append_nil]
 case done =>
  rintro M Wx hM ⟨zs,u,h1,h2,h3,h4,h5⟩ hh hdef
  rw [b8] at h1
  obtain ⟨au,cu,hu⟩:=h3.open
  subst hu
  have hX:Ext w Wx:=h4.below.mono (by omega)
  have bi:C2 w2.heap.size [Gq M] Wx:=C2.cons (ds:=[]) (C2.nil _ _) (M:=M) (fun D hD=>by cases hD) (Nat.le_refl _) hM hdef
  have b9:zs.length<=1048576:=by rw [h1];exact Nat.le_trans (Ul _ _) bm
  have hn:=Iu an zs ov _ Wx (Sl.ints_ext HO.out hX) h3.cells (by rw [h1];exact b0.out) bh.out (by omega)
  have HN:=Jh hn
  clear hn
  have g0:=h2.has 0 _ rfl
  have H1:=Jh h1
  clear h1
  go_wp2_with (first | (go_at_call 30;refine HN.out.mono ?_;rintro r w7 ⟨v7,rfl,b5,a9⟩))
  have cc:=a9.size
  have cd:=hX.size
  refine Gp (B:=w2.heap.size) (fun _ W=>Au B5 v7 (Dl an zs) W/\Be B5 w W/\w2.heap.size<=W.heap.size) (fun s A B bc hs hg hr=>⟨Yr hs.1 hg hr,Fb hs.2.1 (by omega) (by have:=hs.2.2;omega) hg hr,Nat.le_trans hs.2.2 hg.size⟩) ?_ _ w7 (bi.ext a9) ⟨b5.less (by omega),h4.trans (Be.of_ext a9 (by omega)),by have:=bi.lt (D:=M) (by simp);omega⟩
  rintro Wz ⟨q1,q2,q3⟩
  exact ⟨v7,by simp [results,Tryz.results31,go_sem],v7,rfl,by rw [bg,<-H1.out];exact q1,q2.below.mono (by omega)⟩
end Go.Proofs.YtbliplladmamoaaGreat
