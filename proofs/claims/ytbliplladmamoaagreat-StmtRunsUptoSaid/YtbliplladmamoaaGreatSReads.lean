/- Laws and walks that a claim of this seat leans on: Reads. -/
import Derived.Test.YtbliplladmamoaaGreatSWrites
import Derived.Test.YtbliplladmamoaaGreatS00
set_option maxRecDepth 100000
set_option maxHeartbeats 8000000
set_option linter.all false
namespace Go.Proofs.YtbliplladmamoaaGreat
open Go.RowKit
/-! ### stmt.Reads$1: the bits that statements read -/
def rS (ls:List Ai) (ts:List T) (n:Nat):List Cb:=((ts.take n).map fun t=>(t.e.map (Cg ls)).flatten).flatten
theorem Agn (ls:List Ai) (ts:List T) (n:Nat) (t:T) (h:ts[n]? = some t):rS ls ts (n+1)=rS ls ts n++(t.e.map (Cg ls)).flatten:=by
 obtain ⟨hn,rfl⟩:=List.getElem?_eq_some_iff.1 h
 unfold rS
 rw [Ba _ _ hn,List.map_append,List.flatten_append]
 simp only [List.map_cons,List.map_nil,List.flatten_cons,List.flatten_nil,List.append_nil]
theorem Aid (ls:List Ai) (ts:List T) (n:Nat):∃ j,rS ls ts ts.length=rS ls ts n++j:=by
 unfold rS
 refine ⟨((ts.drop n).map fun t=>(t.e.map (Cg ls)).flatten).flatten,?_⟩
 rw [<-List.flatten_append,<-List.map_append,List.take_append_drop,List.take_length]
theorem Uw (ls:List Ai) (cr:∀ x∈ls,1<=x.w/\x.w<=64) (am:List Int) (L:List T) (ov lv sv pv cv:Value) (D:Nat) (w:World) (ho:Ints w ov am) (hl:Ts w lv L) (hS:Cq w sv ls) (h3:[sv,pv,cv].all (·.oneCell')=true)
  (hD:Blk w D [sv,pv,cv].toArray 26) (cp:∀ t∈Cd.eachTs L,∀ e∈t.e,Lh ls e)
  (cw:∀ s∈rS ls (Cd.eachTs L) (Cd.eachTs L).length,H9 am s) (ct:∀ o∈am,0<=o/\o<=1099511627776) (cq:(rS ls (Cd.eachTs L) (Cd.eachTs L).length).length<=1048576) :
  Calls Tryz.prog 26 #[ov,lv,.pointer (some ⟨D,0,none⟩)] w fun r w'=>∃ v,r=.returned v/\Au w.heap.size v (Dl am (rS ls (Cd.eachTs L) (Cd.eachTs L).length)) w'/\Ext w w':=by
 obtain ⟨xs,b2,a9⟩:=S9 L w lv hl
 have bj:=hl.one
 have dw:=b2.len
 have d5:=hD.lt
 have b9:=Jh b2
 have di:=Jh cw
 have dg:=Jh ct
 have HO:=Jh ho
 have HS:=Jh hS
 have H3:=Jh h3
 have b7:=Jh cr
 have df:=Jh cp
 obtain ⟨B6,cc⟩:∃ y,w.heap.size=y:=⟨_,rfl⟩
 have dv:=Ab w (.cells #[.slice Option.none 0 0] 64)
 have cj:=Blk.new w #[.slice Option.none 0 0] 64
 have cz:(w.alloc (.cells #[.slice Option.none 0 0] 64)).heap.size=w.heap.size+1:=by simp
 clear b2 cw ct ho hl hS h3 cr cp
 refine callsIn_wide.1 (callsIn_of_wp_marks (n:=0) Tryz.func26 rfl trivial ?_);rw [wpIn_wide];simp only [Tryz.ntmps26,List.size_toArray,List.length_cons,List.length_nil,Nat.reduceAdd,Nat.reduceSub,Array.replicate_succ,Array.replicate_zero,List.push_toArray,List.append_toArray,List.nil_append,List.cons_append]
 go_upto_region 2 with fail
 generalize w.alloc _=w1 at *
 rw [cc] at cz cj
 have b8:=Jh bj
 clear bj
 go_wp2_with (first | (go_at_call 27;refine (Nj lv b8.out _).mono ?_;rintro r w2 ⟨rfl,rfl⟩))
 have c1:=Ab w1 (.cells #[lv] 42)
 have bu:=Blk.new w1 #[lv] 42
 have bx:(w1.alloc (.cells #[lv] 42)).heap.size=w1.heap.size+1:=by simp
 rw [cz] at bu bx
 generalize w1.alloc _=w2 at *
 have cg:=dv.trans c1
 have cl:=cj.ext c1
 have dp:Be B6 w w2:=Be.of_ext cg (by omega)
 have ag:=a9 B6 w2 (B6+1) (by omega) cg bu (by omega)
 have aq:=Jh ag
 have HD:=Jh hD
 clear ag a9 bu hD
 have hI:OwnFrom w2.heap.size (fun (af:List (List Value)) (Wx:World)=>∃ (zs:List Cb) (u:Value),zs=rS ls (Cd.eachTs L) af.length/\Blk Wx B6 #[u] 64/\Ci B6 u zs Wx/\Be B6 w Wx/\B6<Wx.heap.size):=by
  rintro af A B b4 ⟨zs,u,h1,h2,h3,h4,h5⟩ hg hr
  exact ⟨zs,u,h1,Du h2 hg hr,Qf h3 hg hr,Fb h4 (by omega) (by omega) hg hr,Gt h5 hg⟩
 refine Mc (n0:=B6) rfl Ls aq.out rfl (by omega)
  (fun af Wx=>∃ (zs:List Cb) (u:Value),zs=rS ls (Cd.eachTs L) af.length/\Blk Wx B6 #[u] 64/\Ci B6 u zs Wx/\Be B6 w Wx/\B6<Wx.heap.size) hI
  ⟨[],_,by simp [rS],cl,Ci.nil _ _,dp,by omega⟩
  (fun af x aM Wx=>(∃ (zs:List Cb) (u:Value),zs=rS ls (Cd.eachTs L) af.length/\Blk Wx B6 #[u] 64/\Ci B6 u zs Wx/\Be B6 w Wx/\B6<Wx.heap.size)/\∃ (U:Nat) (t:T) (v1 v2:Value),x=t.cells v1 v2/\Blk Wx U x.toArray 44/\aM=⟨#[ov,lv,.pointer (some ⟨D,0,Option.none⟩),undef,undef,.slice Option.none 0 0,.pointer (some ⟨B6,0,Option.none⟩),.pointer (some ⟨U,0,Option.none⟩),undef,undef,lv,.func (.func 44) #[] #[.pointer (some ⟨B6+1,0,Option.none⟩)],.agg x.toArray,undef,undef,undef,undef,undef,undef,undef,undef,undef,undef,undef,undef,undef,undef,undef,undef],[]⟩)
  (fun af x aM s A B b4 hs hg hr=>⟨hI af A B b4 hs.1 hg hr,by
   obtain ⟨U,t,v1,v2,h1,h2,h3⟩:=hs.2
   exact ⟨U,t,v1,v2,h1,Du h2 hg hr,h3⟩⟩) ?assign ?body ?done
 case assign =>
  rintro l' m af x Wx ⟨zs,u,h1,h2,h3,h4,h5⟩ ⟨ah,b1⟩ hsz
  obtain ⟨t,-,v1,v2,rfl,ba,bh⟩:=(show D5 w (Cd.eachTs L) (af++x::ah) by rw [<-b1];exact b9.out).at
  refine Bu (r:=some l') (by kernel_rfl) (by rintro ⟨_,_,h⟩;exact h) ?_
  have ai:=Ab Wx (.cells (t.cells v1 v2).toArray 44)
  have bf:=Blk.new Wx (t.cells v1 v2).toArray 44
  go_wp2_with (first | ((with_reducible show Js 44);refine Ad rfl 44 _ _ rfl rfl (by first | rfl | simp) rfl Aw (rfl) rfl (by simp [ba.one,bh.one,Bc]) ?_))
  exact ⟨Bh ai,Be.of_ext ai (by omega),⟨zs,u,h1,h2.ext ai,h3.ext ai,h4.trans (Be.of_ext ai (by omega)),by simp;omega⟩,Wx.heap.size,t,v1,v2,rfl,bf,rfl⟩
 case body =>
  rintro l' m af x aM Wx ⟨⟨zs,u,h1,h2,h3,h4,h5⟩,U,t,v1,v2,rfl,hU,rfl⟩ ⟨ah,b1⟩ hsz
  obtain ⟨t',bz,dy,dz,c0,ba,bh⟩:=(show D5 w (Cd.eachTs L) (af++t.cells v1 v2::ah) by rw [<-b1];exact b9.out).at
  obtain ⟨-,-,-,-,dq,dr⟩:t.op=t'.op/\t.sig=t'.sig/\t.hi=t'.hi/\t.lo=t'.lo/\v1=dy/\v2=dz:=by simpa [T.cells] using c0
  subst dq
  subst dr
  have az:=Agn ls _ _ _ bz
  rw [<-h1] at az
  obtain ⟨d3,a8⟩:=Aid ls (Cd.eachTs L) (af.length+1)
  have bi:=df.out t' (List.mem_of_getElem? bz)
  have bp:=Jh a8
  have a1:=Jh az
  have H1:=Jh h1
  have b6:=Jh bi
  have d4:=Jh ba
  have bs:=Jh h4
  obtain ⟨ae,be,oe,ce,du,d0,d1,ci,cm⟩:=ba.open
  subst du
  have dc:=Jh ci
  have dd:=Jh cm
  clear bz c0 az h1 a8 bi ba bh ci cm
  refine wpIn_block ?_
  refine wpIn_seq ?_
  refine Bu (r:=some l') (by kernel_rfl) (by rintro ⟨_,_,h⟩;exact h) ?_
  have g4:=hU.has 4 _ rfl
  go_wp2_with fail
  clear g4
  show Code.wpIn _ _ _ _ _ _ _
  refine wpIn_block ?_
  refine wpIn_loop (fun a wr=>∃ (k:Nat) (u x9 c2 c3 c4 c5 c6 c8 c9 da db:Value),a=⟨#[ov,lv,.pointer (some ⟨D,0,Option.none⟩),undef,undef,.slice Option.none 0 0,.pointer (some ⟨B6,0,Option.none⟩),.pointer (some ⟨U,0,Option.none⟩),undef,x9,lv,.func (.func 44) #[] #[.pointer (some ⟨B6+1,0,Option.none⟩)],.agg (t.cells (.slice ae t'.e.length ce) v2).toArray,.pointer (some ⟨U,4,Option.none⟩),.slice ae t'.e.length ce,.int .i64 t'.e.length,.int .i64 k,c2,c3,c4,c5,c6,c8,c9,da,db,undef,undef,undef],[]⟩ /\
   k<=t'.e.length/\Blk wr B6 #[u] 64/\Ci B6 u (zs++((t'.e.take k).map (Cg ls)).flatten) wr/\Be B6 Wx wr/\KeepsFrom w2.heap.size Wx wr/\Wx.heap.size<=wr.heap.size) (fun a _=>t'.e.length-(intOf (a.tmps.getD 16 undef)).toNat)
   ⟨0,_,_,_,_,_,_,_,_,_,_,_,rfl,Nat.zero_le _,h2,by simpa using h3,Be.refl _ _,KeepsFrom.refl _ _,Nat.le_refl _⟩ ?_
  clear h2 h3
  rintro a wr ⟨k,u,x9,c2,c3,c4,c5,c6,c8,c9,da,db,rfl,hk,h2,h3,bt,cd,d7⟩
  obtain ⟨au,cu,hu⟩:=h3.open
  subst hu
  obtain ⟨n,hn⟩:∃ n,(zs++((t'.e.take k).map (Cg ls)).flatten).length=n:=⟨_,rfl⟩
  rw [hn] at h2 h3
  have bm:=Jh (bs.out.trans bt)
  have dl:=Jh (bm.out.below.mono (B':=w.heap.size) (by omega))
  refine wpIn_seq ?_
  refine Bu (r:=some l') (by kernel_rfl) (by rintro ⟨_,_,h⟩;exact h) ?_
  by_cases bv:k<t'.e.length
  ·obtain ⟨s1,bg,cn⟩:=Es.get dd.out bv
   obtain rfl:=dc.out (by omega)
   have cy:=Ba t'.e k bv
   have co:=b6.out _ (List.getElem_mem bv)
   generalize t'.e[k]=ek at *
   obtain ⟨pk,cx⟩:∃ pk,Cg ls ek=pk:=⟨_,rfl⟩
   have bo:=Jh cx
   have dj:=Jh cy
   have a0:=Jh cn
   have b5:=Jh co
   have de:=Jh (bg.ext dl.out)
   have HN:=Jh hn
   clear cy co cn bg cx hn
   go_wp2_with fail
   show Code.wpIn _ _ _ _ _ _ _
   refine wpIn_seq ?_
   refine wpIn_cond_true rfl ?_
   refine wpIn_skip ?_
   show Code.wpIn _ _ _ _ _ _ _
   refine wpIn_seq ?_
   refine wpIn_block ?_
   refine wpIn_seq ?_
   refine Bu (r:=some l') (by kernel_rfl) (by rintro ⟨_,_,h⟩;exact h) ?_
   have ai:=Ab wr (.cells (ek.cells s1).toArray 40)
   have bf:=Blk.new wr (ek.cells s1).toArray 40
   have ch:(wr.alloc (.cells (ek.cells s1).toArray 40)).heap.size=wr.heap.size+1:=by simp
   go_wp2_with (first | ((with_reducible show Jl 40);refine Aa rfl 40 _ rfl rfl (de.out) Ah rfl ?_) | ((with_reducible show Js 40);refine Ad rfl 40 _ _ rfl rfl (by first | rfl | simp) rfl Ah (rfl) rfl (by simp [a0.out.one,Bc]) ?_))
   show Code.wpIn _ _ _ _ _ _ _
   obtain ⟨zz,bd⟩:∃ zz,zs++((t'.e.take k).map (Cg ls)).flatten=zz:=⟨_,rfl⟩
   rw [bd] at h3
   have cb:=Jh bd
   clear bd
   have d6:zz.length=n:=by rw [<-cb.out];exact HN.out
   have b3:zz++pk=zs++((t'.e.take (k+1)).map (Cg ls)).flatten:=by
    rw [dj.out,<-cb.out,List.map_append,List.flatten_append]
    simp only [List.map_cons,List.map_nil,List.flatten_cons,List.flatten_nil,List.append_nil,List.append_assoc,bo.out]
   have d9:zz.length+pk.length<=1048576:=by
    have e1:=congrArg List.length bp.out
    rw [a1.out,List.length_append,List.length_append] at e1
    have e2:=congrArg List.length b3
    rw [List.length_append,List.length_append] at e2
    have e3:((t'.e.take (k+1)).map (Cg ls)).flatten.length<=(t'.e.map (Cg ls)).flatten.length:=by
     conv=>rhs;rw [<-List.take_append_drop (k+1) t'.e,List.map_append,List.flatten_append,List.length_append]
     omega
    omega
   have ca:=Jh b3
   clear b3
   have j:=(h2.ext ai).drew
   have ac:Ci B6 (.slice au n cu) zz (wr.alloc (.cells (ek.cells s1).toArray 40)).drew:=(h3.ext ai).ext (Below.drew (Below.refl _ _))
   have aa:Be B6 Wx (wr.alloc (.cells (ek.cells s1).toArray 40)).drew:=(bt.trans (Be.of_ext ai (by omega))).trans (Be.drew _)
   have al:KeepsFrom w2.heap.size Wx (wr.alloc (.cells (ek.cells s1).toArray 40)).drew:=(cd.trans (Bh ai)).trans (Bh (Below.drew (Below.refl _ _)))
   have dm:Blk (wr.alloc (.cells (ek.cells s1).toArray 40)).drew D [sv,pv,cv].toArray 26:=((bm.out.blk HD.out (by decide)).ext ai).drew
   have dn:Blk (wr.alloc (.cells (ek.cells s1).toArray 40)).drew wr.heap.size (ek.cells s1).toArray 40:=bf.drew
   have bl:(wr.alloc (.cells (ek.cells s1).toArray 40)).drew.heap.size=wr.heap.size+1:=by rw [World.heap_drew];exact ch
   have dh:=Jh bl
   have d2:wr.heap.size<(wr.alloc (.cells (ek.cells s1).toArray 40)).drew.heap.size:=by omega
   clear bl
   clear ai bf ch h2 h3
   refine M3 (S:=fun W3=>Blk W3 D [sv,pv,cv].toArray 26/\Blk W3 wr.heap.size (ek.cells s1).toArray 40) (by kernel_rfl) (by kernel_rfl) (by rintro ⟨_,_,h⟩;exact h) ⟨dm,dn⟩ (fun hH=>?_)
   generalize (wr.alloc _).drew=W0 at *
   try simp only [J]
   (refine Jt 1 (.agg #[sv,pv,cv]) rfl (Ar rfl 26 _ rfl rfl (fun _ h=>Blk.has h.1) Aj rfl) hH ?_;try simp only [J])
   (refine Jt 2 (.agg (ek.cells s1).toArray) rfl (Ar rfl 40 _ rfl rfl (fun _ h=>Blk.has h.2) Ah rfl) hH ?_;try simp only [J])
   refine wpAnyH_ready (rs:=[0,3]) (by kernel_rfl) (by simp) ?_
   refine AllReadyH.cons rfl (fun K hK=>?_) (AllReadyH.cons rfl (fun K hK=>?_) AllReadyH.nil)
   ·have x0:=j.has 0 _ rfl
    go_simp
    refine hK.out _ _ hH (fun hH=>?_)
    clear hK K x0
    try simp only [J]
    refine Jr 3 rfl fun K hK=>?_
    go_simp
    refine (Ly _ sv pv cv rfl H3.out ek s1 a0.out.one _).mono ?_
    rintro r w6 ⟨E6,D6,av,ar,rfl,bc⟩
    have ab:=(Ab W0 (.cells [sv,pv,cv].toArray 26)).trans (Ab _ (.cells (ek.cells s1).toArray 40))
    have an:=(Blk.new W0 [sv,pv,cv].toArray 26).ext (Ab _ (.cells (ek.cells s1).toArray 40))
    have ao:=Blk.new (W0.alloc (.cells [sv,pv,cv].toArray 26)) (ek.cells s1).toArray 40
    rw [show (W0.alloc (.cells [sv,pv,cv].toArray 26)).heap.size=W0.heap.size+1 by simp,<-av] at ao
    rw [<-ar] at an
    rw [<-bc] at ab an ao
    clear bc
    replace j:=j.ext ab
    replace ac:=ac.ext ab
    have bd:=aa.below.size
    replace aa:=aa.trans (Be.of_ext ab (by omega))
    replace al:=al.trans (Bh ab)
    have ag:Seq Tryz.prog B6 45 #[.pointer (some ⟨E6,0,none⟩),.pointer (some ⟨D6,0,none⟩)] (pk.map Cb.cells) w6:=by rw [<-bo.out];exact Rl ls b7.out ek B6 w w6 sv pv cv s1 D6 E6 HS.out a0.out H3.out (by omega) ((bs.out.trans aa).ext (Below.refl _ _) (by omega)) an ao (by have:=aa.below.size;omega) b5.out
    have aq:=Jh ag
    clear av ar
    refine hK.out _ _ ⟨hH.1.ext ab,hH.2.ext ab⟩ (fun hH=>?_)
    clear hK K ab ag an ao
    try simp only [J]
    refine Jr 4 rfl fun K hK=>?_
    go_simp
    refine (Kz Ks B6 (.slice au n cu) zz pk w6 (by have:=aa.below.size;omega) aq.out ac (by omega) j (by decide)).mono ?_
    rintro r w7 ⟨v7,rfl,ak,ap,a6,aw⟩
    have a4:=ap.blk hH.1 (by decide)
    have a5:=ap.blk hH.2 (by decide)
    replace aa:=aa.trans ap
    replace al:=al.trans (Fy a6 (Nat.zero_le _))
    refine hK.out _ _ ⟨a4,a5⟩ (fun hH=>?_)
    clear hK K ac j a4 a5 ap a6
    have ac:=ak
    have j:=aw
    clear ak aw
    try simp only [J]
    refine Jr 5 rfl fun K hK=>?_
    have x0:=j.has 0 _ rfl
    have y0:=j.frozen 0
    obtain ⟨a7,c7,bb⟩:=ac.open
    obtain ⟨n7,bw⟩:∃ n7,(zz++pk).length=n7:=⟨_,rfl⟩
    rw [bw] at bb
    subst bb
    have ax:=j.set 0 (.slice a7 n7 c7)
    have aj:=Ay w7 B6 0 (.slice a7 n7 c7)
    have ay:=ac.grown aj (fun k hk e=>ac.ne j hk (by cases e;rfl))
    have a2:=aa.trans (Be.of_gb aj (by have:=aa.below.size;omega) fun k hk=>by cases hk;exact ⟨by omega,fun c t f hc=>by rw [show w7.heap[B6]? = _ from j] at hc;cases hc;rfl⟩)
    have a3:=al.trans (Cs aj fun k hk=>by cases hk;exact ⟨_,_,_,j⟩)
    go_simp
    refine hK.out _ _ ⟨Blk.grown (B':=B6) hH.1 aj (by rintro rfl;have q:=hH.1.symm.trans j;injection q with q;injection q with _ q;exact absurd q (by decide)),Blk.grown (B':=B6) hH.2 aj (by rintro rfl;have q:=hH.2.symm.trans j;injection q with q;injection q with _ q;exact absurd q (by decide))⟩ (fun hH=>?_)
    clear hK K x0 y0
    refine Jz ?_
    show Code.wpIn _ _ _ _ _ _ _
    refine Bu (r:=some l') (by kernel_rfl) (by rintro ⟨_,_,h⟩;exact h) ?_
    rw [ca.out] at ay
    have bq:=Jh ay
    have br:=Jh ax
    have dx:=a2.below.size
    clear ay ax
    go_wp2_with fail
    exact ⟨⟨k+1,⟨_,_,_,_,_,_,_,_,_,_,rfl⟩,by omega,_,br.out,by have:=bq.out;rw [List.map_take] at this;exact this,a2,by first | exact a3 | (rw [<-bx];exact a3),by omega⟩,by simp [intOf];omega⟩
   ·go_simp
    refine (Ly _ sv pv cv rfl H3.out ek s1 a0.out.one _).mono ?_
    rintro r w6 ⟨E6,D6,av,ar,rfl,bc⟩
    have ab:=(Ab W0 (.cells [sv,pv,cv].toArray 26)).trans (Ab _ (.cells (ek.cells s1).toArray 40))
    have an:=(Blk.new W0 [sv,pv,cv].toArray 26).ext (Ab _ (.cells (ek.cells s1).toArray 40))
    have ao:=Blk.new (W0.alloc (.cells [sv,pv,cv].toArray 26)) (ek.cells s1).toArray 40
    rw [show (W0.alloc (.cells [sv,pv,cv].toArray 26)).heap.size=W0.heap.size+1 by simp,<-av] at ao
    rw [<-ar] at an
    rw [<-bc] at ab an ao
    clear bc
    replace j:=j.ext ab
    replace ac:=ac.ext ab
    have bd:=aa.below.size
    replace aa:=aa.trans (Be.of_ext ab (by omega))
    replace al:=al.trans (Bh ab)
    have ag:Seq Tryz.prog B6 45 #[.pointer (some ⟨E6,0,none⟩),.pointer (some ⟨D6,0,none⟩)] (pk.map Cb.cells) w6:=by rw [<-bo.out];exact Rl ls b7.out ek B6 w w6 sv pv cv s1 D6 E6 HS.out a0.out H3.out (by omega) ((bs.out.trans aa).ext (Below.refl _ _) (by omega)) an ao (by have:=aa.below.size;omega) b5.out
    have aq:=Jh ag
    clear av ar
    refine hK.out _ _ ⟨hH.1.ext ab,hH.2.ext ab⟩ (fun hH=>?_)
    clear hK K ab ag an ao
    try simp only [J]
    refine Jr 0 rfl fun K hK=>?_
    have x0:=j.has 0 _ rfl
    go_simp
    refine hK.out _ _ hH (fun hH=>?_)
    clear hK K x0
    try simp only [J]
    refine Jr 4 rfl fun K hK=>?_
    go_simp
    refine (Kz Ks B6 (.slice au n cu) zz pk w6 (by have:=aa.below.size;omega) aq.out ac (by omega) j (by decide)).mono ?_
    rintro r w7 ⟨v7,rfl,ak,ap,a6,aw⟩
    have a4:=ap.blk hH.1 (by decide)
    have a5:=ap.blk hH.2 (by decide)
    replace aa:=aa.trans ap
    replace al:=al.trans (Fy a6 (Nat.zero_le _))
    refine hK.out _ _ ⟨a4,a5⟩ (fun hH=>?_)
    clear hK K ac j a4 a5 ap a6
    have ac:=ak
    have j:=aw
    clear ak aw
    try simp only [J]
    refine Jr 5 rfl fun K hK=>?_
    have x0:=j.has 0 _ rfl
    have y0:=j.frozen 0
    obtain ⟨a7,c7,bb⟩:=ac.open
    obtain ⟨n7,bw⟩:∃ n7,(zz++pk).length=n7:=⟨_,rfl⟩
    rw [bw] at bb
    subst bb
    have ax:=j.set 0 (.slice a7 n7 c7)
    have aj:=Ay w7 B6 0 (.slice a7 n7 c7)
    have ay:=ac.grown aj (fun k hk e=>ac.ne j hk (by cases e;rfl))
    have a2:=aa.trans (Be.of_gb aj (by have:=aa.below.size;omega) fun k hk=>by cases hk;exact ⟨by omega,fun c t f hc=>by rw [show w7.heap[B6]? = _ from j] at hc;cases hc;rfl⟩)
    have a3:=al.trans (Cs aj fun k hk=>by cases hk;exact ⟨_,_,_,j⟩)
    go_simp
    refine hK.out _ _ ⟨Blk.grown (B':=B6) hH.1 aj (by rintro rfl;have q:=hH.1.symm.trans j;injection q with q;injection q with _ q;exact absurd q (by decide)),Blk.grown (B':=B6) hH.2 aj (by rintro rfl;have q:=hH.2.symm.trans j;injection q with q;injection q with _ q;exact absurd q (by decide))⟩ (fun hH=>?_)
    clear hK K x0 y0
    refine Jz ?_
    show Code.wpIn _ _ _ _ _ _ _
    refine Bu (r:=some l') (by kernel_rfl) (by rintro ⟨_,_,h⟩;exact h) ?_
    rw [ca.out] at ay
    have bq:=Jh ay
    have br:=Jh ax
    have dx:=a2.below.size
    clear ay ax
    go_wp2_with fail
    exact ⟨⟨k+1,⟨_,_,_,_,_,_,_,_,_,_,rfl⟩,by omega,_,br.out,by have:=bq.out;rw [List.map_take] at this;exact this,a2,by first | exact a3 | (rw [<-bx];exact a3),by omega⟩,by simp [intOf];omega⟩
  ·obtain rfl:k=t'.e.length:=by omega
   have bk:Ci B6 (.slice au n cu) (rS ls (Cd.eachTs L) (af++[t.cells (.slice ae t'.e.length ce) v2]).length) wr:=by
    rw [List.length_append,List.length_singleton,a1.out]
    rw [List.take_length] at h3
    exact h3
   have dk:=Jh bk
   clear bk h3
   go_wp2_with fail
   show Code.wpIn _ _ _ _ _ _ _
   refine wpIn_seq ?_
   refine wpIn_cond_false rfl ?_
   refine wpIn_exit ?_
   exact ⟨cd,bt,_,_,rfl,h2,dk.out,bm.out,by omega⟩
 case done =>
  rintro M Wx hM ⟨zs,u,h1,h2,h3,h4,h5⟩ hh hdef
  rw [dw] at h1
  obtain ⟨au,cu,hu⟩:=h3.open
  subst hu
  have hX:Ext w Wx:=h4.below.mono (by omega)
  have cf:C2 w2.heap.size [Gq M] Wx:=C2.cons (ds:=[]) (C2.nil _ _) (M:=M) (fun D hD=>by cases hD) (Nat.le_refl _) hM hdef
  have ea:zs.length<=1048576:=by rw [h1];exact cq
  have hn:=Iu am zs ov _ Wx (Sl.ints_ext HO.out hX) h3.cells (by rw [h1];exact di.out) dg.out (by omega)
  have HN:=Jh hn
  clear hn
  have g0:=h2.has 0 _ rfl
  have H1:=Jh h1
  clear h1
  go_wp2_with (first | (go_at_call 30;refine HN.out.mono ?_;rintro r w7 ⟨v7,rfl,dt,b0⟩))
  have d8:=b0.size
  have eb:=hX.size
  refine Gp (B:=w2.heap.size) (fun _ W=>Au B6 v7 (Dl am zs) W/\Be B6 w W/\w2.heap.size<=W.heap.size) (fun s A B b4 hs hg hr=>⟨Yr hs.1 hg hr,Fb hs.2.1 (by omega) (by have:=hs.2.2;omega) hg hr,Nat.le_trans hs.2.2 hg.size⟩) ?_ _ w7 (cf.ext b0) ⟨dt.less (by omega),h4.trans (Be.of_ext b0 (by omega)),by have:=cf.lt (D:=M) (by simp);omega⟩
  rintro Wz ⟨q1,q2,q3⟩
  exact ⟨v7,by simp [results,Tryz.results26,go_sem],v7,rfl,by rw [cc,<-H1.out];exact q1,q2.below.mono (by omega)⟩
end Go.Proofs.YtbliplladmamoaaGreat
