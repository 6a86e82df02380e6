/- Laws and walks that a claim of this seat leans on: Writes. -/
import Derived.Test.YtpngepnfinbaoaaGreatC13
import Derived.Test.YtpngepnfinbaoaaGreatC00
set_option maxRecDepth 100000
set_option maxHeartbeats 8000000
set_option linter.all false
namespace Go.Proofs.YtpngepnfinbaoaaGreat
open Go.RowKit
/-! ### stmt.Writes$1: the bits that statements write -/
def wS (ts:List T) (n:Nat):List Span:=((ts.take n).filter (fun t=>t.op==1)).map ownS
theorem wS_succ (ts:List T) (n:Nat) (t:T) (h:ts[n]? = some t):wS ts (n+1)=wS ts n++(if (t.op==1)=true then [ownS t] else []):=by
 obtain ⟨hn,rfl⟩:=List.getElem?_eq_some_iff.1 h
 unfold wS
 rw [take_snoc _ _ hn,List.filter_append,List.map_append]
 congr 1
 by_cases h1:(ts[n].op==1)=true
 ·rw [if_pos h1];simp [h1]
 ·rw [if_neg h1];simp [h1]
theorem wS_length (ts:List T) (n:Nat):(wS ts n).length<=ts.length:=by
 unfold wS
 rw [List.length_map]
 exact Nat.le_trans (List.length_filter_le _ _) (by simp;omega)
theorem Eaches.len {wb:World} {ts:List T} {xs:List (List Value)} (h:Eaches wb ts xs):xs.length=ts.length:=by
 induction ts generalizing xs with
 | nil=>cases xs with
  | nil=>rfl
  | cons _ _=>exact h.elim
 | cons t ts ih=>cases xs with
  | nil=>exact h.elim
  | cons x xs=>simp [ih h.2]
theorem Eaches.at {wb:World} {ts:List T} {pre:List (List Value)} {x:List Value} {post:List (List Value)} (h:Eaches wb ts (pre++x::post)):∃ t,ts[pre.length]? = some t/\VT wb x t:=by
 induction pre generalizing ts with
 | nil=>cases ts with
  | nil=>exact h.elim
  | cons t ts=>exact ⟨t,rfl,h.1⟩
 | cons y pre ih=>cases ts with
  | nil=>exact h.elim
  | cons t ts =>
   obtain ⟨t',h1,h2⟩:=ih h.2
   exact ⟨t',by simpa using h1,h2⟩
theorem step_appS {ops:Array Oper} {o:Oper} {a:Act} {w:World} {K:Act->World->Prop} {Q:Exit->Act->World->Prop} {E:Prop} (hw:Region.wanted o (yielded ops a.tmps)=true) (s x:Operand)
  (ho:o.op=.call { callee:=.builtin .append,args:=#[s,x],argTypes:=#[75,75] }) {N:Nat} {v:Value} {zs:List Span} (hs:a.eval s=v) (hown:SpRow N v zs w)
  {B c:Nat} (hx:a.eval x=.slice (some ⟨B,0,none⟩) 1 c) {sp:Span} (hcs:Has w B 0 sp.cells) (hn:zs.length+1<=16777216) (hbase:N<=w.heap.size)
  (h:∀ g cap w',SpRow N (.slice (some ⟨g,0,none⟩) (zs.length+1) cap) (zs++[sp]) w'->w.grownBy w' v.ownBlock->K (a.put o.dst (.slice (some ⟨g,0,none⟩) (zs.length+1) cap)) w') :
  if Region.wanted o (yielded ops a.tmps)=true then Oper.wp Tryz.prog o a w K Q else E:=by
 rw [if_pos hw]
 obtain ⟨v',w',hr,h2,h3,g,cap,rfl,hg⟩:=run_app (P:=Tryz.prog) (ty:=o.type) (a:=⟨B,0,none⟩) (m:=1) (c:=c) (news:=sp.cells) appSpan hown (fun _=>Nat.lt_of_lt_of_le Nat.zero_lt_one (Nat.le_refl 1)) rfl (news_has hcs) (by simp [one_int]) hn hbase
 unfold Oper.wp execOp
 simp only [ho,resolve,invoke,builtin,Sem.run_bind,Sem.run_pure,Result.andThen_ok,List.map_toArray,List.map_cons,List.map_nil,hs,hx]
 rw [hr]
 refine h g cap w' ?_ h3
 unfold SpRow
 rw [List.length_append,List.map_append,List.flatten_append]
 simpa using h2
theorem Sl.ints_ext {w w':World} {v:Value} {l:List Int} (h:Ints w v l) (hx:Ext w w'):Ints w' v l:=Sl.mono h fun _ _ _ _ q=>Has.ext q hx
theorem own_rowI {A B:World} {N M:Nat} {v:Value} {l:List Int} {row:Option Nat} (h:IntRow N v l A) (hg:A.grownBy B row) (hr:∀ r,row=some r->M<=r/\∃ o:Obj,A.heap[r]? = some o/\o.isCells=false):IntRow N v l B :=
 h.grown hg fun k hk e=>by
  obtain ⟨-,o,ho,hc⟩:=hr k e.symm
  obtain ⟨-,cur,hcur⟩:=h.at hk
  rw [hcur] at ho;cases ho;cases hc
theorem Writes1_calls (offs:List Int) (L:List T) (ov lv:Value) (w:World) (ho:Ints w ov offs) (hl:Ts w lv L) (hok:∀ s∈wS (eachT.eachTs L) (eachT.eachTs L).length,NumOk offs s) (hob:∀ o∈offs,0<=o/\o<=1099511627776) (hlen:(eachT.eachTs L).length<=1048576) :
  Calls Tryz.prog 35 #[ov,lv] w fun r w'=>∃ v,r=.returned v/\IntRow w.heap.size v (numbersM offs (wS (eachT.eachTs L) (eachT.eachTs L).length)) w'/\Ext w w':=by
 obtain ⟨xs,hxs,hseqs⟩:=each1_seq L w lv hl
 have hone:=hl.one
 have hxl:=hxs.len
 have HXS:=Jh hxs
 have HOK:=Jh hok
 have HOB:=Jh hob
 have HO:=Jh ho
 obtain ⟨B5,hB5⟩:∃ y,w.heap.size=y:=⟨_,rfl⟩
 have hx1:=ext_alloc w (.cells #[.slice Option.none 0 0] 75)
 have hb1:=Blk.new w #[.slice Option.none 0 0] 75
 have hs1:(w.alloc (.cells #[.slice Option.none 0 0] 75)).heap.size=w.heap.size+1:=by simp
 clear hxs hok hob ho hl
 refine callsIn_wide.1 (callsIn_of_wp_marks (n:=0) Tryz.func35 rfl trivial ?_);rw [wpIn_wide];simp only [Tryz.ntmps35,List.size_toArray,List.length_cons,List.length_nil,Nat.reduceAdd,Nat.reduceSub,Array.replicate_succ,Array.replicate_zero,List.push_toArray,List.append_toArray,List.nil_append,List.cons_append]
 go_upto_region 2 with fail
 generalize w.alloc _=w1 at *
 rw [hB5] at hs1 hb1
 have HONE:=Jh hone
 clear hone
 go_wp2_with (first | (go_at_call 31;refine (each_calls lv HONE.out _).mono ?_;rintro r w2 ⟨rfl,rfl⟩))
 have hx2:=ext_alloc w1 (.cells #[lv] 34)
 have hb2:=Blk.new w1 #[lv] 34
 have hs2:(w1.alloc (.cells #[lv] 34)).heap.size=w1.heap.size+1:=by simp
 rw [hs1] at hb2 hs2
 generalize w1.alloc _=w2 at *
 have hX2:=hx1.trans hx2
 have hb12:=hb1.ext hx2
 have hH2:Hard B5 w w2:=Hard.of_ext hX2 (by omega)
 have hseq:=hseqs B5 w2 (B5+1) (by omega) hX2 hb2 (by omega)
 have HSEQ:=Jh hseq
 clear hseq hseqs hb2
 have hI:OwnFrom w2.heap.size (fun (pre:List (List Value)) (Wx:World)=>∃ (zs:List Span) (u:Value),zs=wS (eachT.eachTs L) pre.length/\Blk Wx B5 #[u] 75/\SpRow B5 u zs Wx/\Hard B5 w Wx/\B5<Wx.heap.size):=by
  rintro pre A B row ⟨zs,u,h1,h2,h3,h4,h5⟩ hg hr
  exact ⟨zs,u,h1,own_blk h2 hg hr,own_row h3 hg hr,own_hard h4 (by omega) (by omega) hg hr,own_size h5 hg⟩
 refine wp_range (n0:=B5) rfl leads_each1 HSEQ.out rfl (by omega)
  (fun pre Wx=>∃ (zs:List Span) (u:Value),zs=wS (eachT.eachTs L) pre.length/\Blk Wx B5 #[u] 75/\SpRow B5 u zs Wx/\Hard B5 w Wx/\B5<Wx.heap.size) hI
  ⟨[],_,by simp [wS],hb12,SpRow.nil _ _,hH2,by omega⟩
  (fun pre x aM Wx=>(∃ (zs:List Span) (u:Value),zs=wS (eachT.eachTs L) pre.length/\Blk Wx B5 #[u] 75/\SpRow B5 u zs Wx/\Hard B5 w Wx/\B5<Wx.heap.size)/\∃ (U:Nat) (t:T) (v1 v2:Value),x=t.cells v1 v2/\Blk Wx U x.toArray 39/\aM=⟨#[ov,lv,undef,undef,.slice Option.none 0 0,.pointer (some ⟨B5,0,Option.none⟩),.pointer (some ⟨U,0,Option.none⟩),lv,.func (.func 66) #[] #[.pointer (some ⟨B5+1,0,Option.none⟩)],.agg x.toArray,undef,undef,undef,undef,undef,undef,undef,undef,undef,undef,undef],[]⟩)
  (fun pre x aM s A B row hs hg hr=>⟨hI pre A B row hs.1 hg hr,by
   obtain ⟨U,t,v1,v2,h1,h2,h3⟩:=hs.2
   exact ⟨U,t,v1,v2,h1,own_blk h2 hg hr,h3⟩⟩) ?assign ?body ?done
 case assign =>
  rintro l' m pre x Wx ⟨zs,u,h1,h2,h3,h4,h5⟩ ⟨post',hxp⟩ hsz
  obtain ⟨t,-,v1,v2,rfl,hv1,hv2⟩:=(show Eaches w (eachT.eachTs L) (pre++x::post') by rw [<-hxp];exact HXS.out).at
  refine regionIn_of_list (r:=some l') (by kernel_rfl) (by rintro ⟨_,_,h⟩;exact h) ?_
  have hxu:=ext_alloc Wx (.cells (t.cells v1 v2).toArray 39)
  have hbu:=Blk.new Wx (t.cells v1 v2).toArray 39
  go_wp2_with (first | ((with_reducible show Js 39);refine wpList_store_new rfl 39 _ _ rfl rfl (by first | rfl | simp) rfl agg_T (rfl) rfl (by simp [hv1.one,hv2.one,one_int]) ?_))
  exact ⟨keepsFrom_ext hxu,Hard.of_ext hxu (by omega),⟨zs,u,h1,h2.ext hxu,h3.ext hxu,h4.trans (Hard.of_ext hxu (by omega)),by simp;omega⟩,Wx.heap.size,t,v1,v2,rfl,hbu,rfl⟩
 case body =>
  rintro l' m pre x aM Wx ⟨⟨zs,u,h1,h2,h3,h4,h5⟩,U,t,v1,v2,rfl,hU,rfl⟩ ⟨post',hxp⟩ hsz
  obtain ⟨t',ht',v1',v2',hte,hv1,hv2⟩:=(show Eaches w (eachT.eachTs L) (pre++t.cells v1 v2::post') by rw [<-hxp];exact HXS.out).at
  obtain ⟨hto,hts,hth,htl,hq1,hq2⟩:t.op=t'.op/\t.sig=t'.sig/\t.hi=t'.hi/\t.lo=t'.lo/\v1=v1'/\v2=v2':=by simpa [T.cells] using hte
  subst hq1
  subst hq2
  have hown:ownS t'=ownS t:=by simp [ownS,hts,hth,htl]
  have hstep:=wS_succ _ _ _ ht'
  rw [<-h1,<-hto,hown] at hstep
  have hzl:zs.length<=(eachT.eachTs L).length:=by rw [h1];exact wS_length _ _
  clear ht' hte hto hts hth htl hown
  obtain ⟨au,cu,hu⟩:=h3.open
  subst hu
  have HSTEP:=Jh hstep
  have H1:=Jh h1
  clear hstep h1
  refine wpIn_block ?_
  refine wpIn_seq ?_
  refine regionIn_of_list (r:=some l') (by kernel_rfl) (by rintro ⟨_,_,h⟩;exact h) ?_
  have g0:=hU.has 0 _ rfl
  by_cases hop:(t.op==1)=true
  ·have hzs2:zs++[ownS t]=wS (eachT.eachTs L) (pre++[t.cells v1 v2]).length:=by
    rw [List.length_append,List.length_singleton,HSTEP.out,if_pos hop]
   have HZS2:=Jh hzs2
   clear hzs2
   go_wp2_with fail
   show Code.wpIn _ _ _ _ _ _ _
   refine wpIn_cond_true rfl ?_
   clear g0
   obtain ⟨n,hn⟩:∃ n,zs.length=n:=⟨_,rfl⟩
   rw [hn] at h2 h3
   refine regionIn_held (S:=fun W3=>Blk W3 U (t.cells v1 v2).toArray 39) (by kernel_rfl) (by kernel_rfl) (by rintro ⟨_,_,h⟩;exact h) hU.drew (fun hH=>?_)
   try simp only [J]
   (refine Jt 1 (.agg (t.cells v1 v2).toArray) rfl (yif_load rfl 39 _ rfl rfl (fun _ h=>Blk.has h) agg_T rfl) hH ?_;try simp only [J])
   have hBX:=h2.drew
   have hRW:SpRow B5 (.slice au n cu) zs Wx.drew:=h3.ext (Below.drew (Below.refl _ _))
   have hHD:Hard B5 Wx Wx.drew:=Hard.drew _
   have hKF:KeepsFrom w2.heap.size Wx Wx.drew:=keepsFrom_ext (Below.drew (Below.refl _ _))
   refine wpAnyH_ready (rs:=[0,2]) (by kernel_rfl) (by simp) ?_
   refine AllReadyH.cons rfl (fun K hK=>?_) (AllReadyH.cons rfl (fun K hK=>?_) AllReadyH.nil)
   ·have x0:=hBX.has 0 _ rfl
    go_simp
    refine hK.out _ _ hH (fun hH=>?_)
    clear hK K x0
    try simp only [J]
    refine Jr 2 rfl fun K hK=>?_
    go_simp
    refine (ownT_calls t v1 v2 hv1.one hv2.one _).mono ?_
    rintro r w6 ⟨rfl,hx6⟩
    replace hBX:=hBX.ext hx6
    replace hRW:=hRW.ext hx6
    replace hHD:=hHD.trans (Hard.of_ext hx6 (by have:=hHD.below.size;omega))
    replace hKF:=hKF.trans (keepsFrom_ext hx6)
    refine hK.out _ _ (hH.ext hx6) (fun hH=>?_)
    clear hK K hx6
    try simp only [J]
    refine Jr 3 rfl fun K hK=>?_
    refine step_bs1 rfl _ _ rfl appSpan rfl (cs:=(ownS t).cells) rfl rfl (by decide) ?_
    have hx6:=ext_alloc w6 (.cells (ownS t).cells.toArray 81)
    have hb6:=Blk.new w6 (ownS t).cells.toArray 81
    replace hBX:=hBX.ext hx6
    replace hRW:=hRW.ext hx6
    replace hHD:=hHD.trans (Hard.of_ext hx6 (by have:=hHD.below.size;omega))
    replace hKF:=hKF.trans (keepsFrom_ext hx6)
    refine hK.out _ _ (hH.ext hx6) (fun hH=>?_)
    clear hK K hx6
    generalize w6.alloc _=w9 at *
    try simp only [J]
    refine Jr 4 rfl fun K hK=>?_
    refine step_appS (sp:=ownS t) rfl _ _ rfl rfl hRW rfl hb6.has (by omega) (by have:=hHD.below.size;omega) ?_
    intro g7 cap7 w7 hrow7 hg7
    simp only [hn] at hrow7 ⊢
    have hBX7:Blk w7 B5 #[.slice au n cu] 75:=(hg7.block _ hBX.lt (fun e=>hRW.ne hBX e.symm rfl)).trans hBX
    replace hHD:=hHD.trans (Hard.of_gb hg7 (by have:=hHD.below.size;omega) fun k hk=>by obtain ⟨q1,cur,h⟩:=hRW.at hk;exact ⟨q1,fun c t f hc=>by rw [h] at hc;cases hc;rfl⟩)
    replace hKF:=hKF.trans (keepsFrom_gb hg7 fun k hk=>by obtain ⟨-,cur,h⟩:=hRW.at hk;exact ⟨_,_,_,h⟩)
    have hH7:=hg7.block _ hH.lt (fun e=>by obtain ⟨-,cur,h⟩:=hRW.at e.symm;exact absurd (hH.symm.trans h) (by simp))
    refine hK.out _ _ (hH7.trans hH) (fun hH=>?_)
    clear hK K hRW hBX hH7
    have hRW:=hrow7
    have hBX:=hBX7
    clear hrow7 hBX7
    try simp only [J]
    refine Jr 5 rfl fun K hK=>?_
    have x0:=hBX.has 0 _ rfl
    have y0:=hBX.frozen 0
    have hset:=hBX.set 0 (.slice (some ⟨g7,0,none⟩) (n+1) cap7)
    have hgs:=gb_set w7 B5 0 (.slice (some ⟨g7,0,none⟩) (n+1) cap7)
    have hr8:=hRW.grown hgs (fun k hk e=>hRW.ne hBX hk (by cases e;rfl))
    have hH8:=hHD.trans (Hard.of_gb hgs (by have:=hHD.below.size;omega) fun k hk=>by cases hk;exact ⟨by omega,fun c t f hc=>by rw [show w7.heap[B5]? = _ from hBX] at hc;cases hc;rfl⟩)
    have hK8:=hKF.trans (keepsFrom_gb hgs fun k hk=>by cases hk;exact ⟨_,_,_,hBX⟩)
    go_simp
    refine hK.out _ _ (Blk.grown (B':=B5) hH hgs (by rintro rfl;have q:=hH.symm.trans hBX;injection q with q;injection q with _ q;exact absurd q (by decide))) (fun hH=>?_)
    clear hK K x0 y0
    refine Jz ?_
    exact ⟨hK8,hH8,zs++[ownS t],_,HZS2.out,hset,hr8,h4.trans hH8,by have:=hH8.below.size;omega⟩
   ·go_simp
    refine (ownT_calls t v1 v2 hv1.one hv2.one _).mono ?_
    rintro r w6 ⟨rfl,hx6⟩
    replace hBX:=hBX.ext hx6
    replace hRW:=hRW.ext hx6
    replace hHD:=hHD.trans (Hard.of_ext hx6 (by have:=hHD.below.size;omega))
    replace hKF:=hKF.trans (keepsFrom_ext hx6)
    refine hK.out _ _ (hH.ext hx6) (fun hH=>?_)
    clear hK K hx6
    try simp only [J]
    refine wpAnyH_ready (rs:=[0,3]) (by kernel_rfl) (by simp) ?_
    refine AllReadyH.cons rfl (fun K hK=>?_) (AllReadyH.cons rfl (fun K hK=>?_) AllReadyH.nil)
    ·have x0:=hBX.has 0 _ rfl
     go_simp
     refine hK.out _ _ hH (fun hH=>?_)
     clear hK K x0
     try simp only [J]
     refine Jr 3 rfl fun K hK=>?_
     refine step_bs1 rfl _ _ rfl appSpan rfl (cs:=(ownS t).cells) rfl rfl (by decide) ?_
     have hx6:=ext_alloc w6 (.cells (ownS t).cells.toArray 81)
     have hb6:=Blk.new w6 (ownS t).cells.toArray 81
     replace hBX:=hBX.ext hx6
     replace hRW:=hRW.ext hx6
     replace hHD:=hHD.trans (Hard.of_ext hx6 (by have:=hHD.below.size;omega))
     replace hKF:=hKF.trans (keepsFrom_ext hx6)
     refine hK.out _ _ (hH.ext hx6) (fun hH=>?_)
     clear hK K hx6
     generalize w6.alloc _=w9 at *
     try simp only [J]
     refine Jr 4 rfl fun K hK=>?_
     refine step_appS (sp:=ownS t) rfl _ _ rfl rfl hRW rfl hb6.has (by omega) (by have:=hHD.below.size;omega) ?_
     intro g7 cap7 w7 hrow7 hg7
     simp only [hn] at hrow7 ⊢
     have hBX7:Blk w7 B5 #[.slice au n cu] 75:=(hg7.block _ hBX.lt (fun e=>hRW.ne hBX e.symm rfl)).trans hBX
     replace hHD:=hHD.trans (Hard.of_gb hg7 (by have:=hHD.below.size;omega) fun k hk=>by obtain ⟨q1,cur,h⟩:=hRW.at hk;exact ⟨q1,fun c t f hc=>by rw [h] at hc;cases hc;rfl⟩)
     replace hKF:=hKF.trans (keepsFrom_gb hg7 fun k hk=>by obtain ⟨-,cur,h⟩:=hRW.at hk;exact ⟨_,_,_,h⟩)
     have hH7:=hg7.block _ hH.lt (fun e=>by obtain ⟨-,cur,h⟩:=hRW.at e.symm;exact absurd (hH.symm.trans h) (by simp))
     refine hK.out _ _ (hH7.trans hH) (fun hH=>?_)
     clear hK K hRW hBX hH7
     have hRW:=hrow7
     have hBX:=hBX7
     clear hrow7 hBX7
     try simp only [J]
     refine Jr 5 rfl fun K hK=>?_
     have x0:=hBX.has 0 _ rfl
     have y0:=hBX.frozen 0
     have hset:=hBX.set 0 (.slice (some ⟨g7,0,none⟩) (n+1) cap7)
     have hgs:=gb_set w7 B5 0 (.slice (some ⟨g7,0,none⟩) (n+1) cap7)
     have hr8:=hRW.grown hgs (fun k hk e=>hRW.ne hBX hk (by cases e;rfl))
     have hH8:=hHD.trans (Hard.of_gb hgs (by have:=hHD.below.size;omega) fun k hk=>by cases hk;exact ⟨by omega,fun c t f hc=>by rw [show w7.heap[B5]? = _ from hBX] at hc;cases hc;rfl⟩)
     have hK8:=hKF.trans (keepsFrom_gb hgs fun k hk=>by cases hk;exact ⟨_,_,_,hBX⟩)
     go_simp
     refine hK.out _ _ (Blk.grown (B':=B5) hH hgs (by rintro rfl;have q:=hH.symm.trans hBX;injection q with q;injection q with _ q;exact absurd q (by decide))) (fun hH=>?_)
     clear hK K x0 y0
     refine Jz ?_
     exact ⟨hK8,hH8,zs++[ownS t],_,HZS2.out,hset,hr8,h4.trans hH8,by have:=hH8.below.size;omega⟩
    ·refine step_bs1 rfl _ _ rfl appSpan rfl (cs:=(ownS t).cells) rfl rfl (by decide) ?_
     have hx6:=ext_alloc w6 (.cells (ownS t).cells.toArray 81)
     have hb6:=Blk.new w6 (ownS t).cells.toArray 81
     replace hBX:=hBX.ext hx6
     replace hRW:=hRW.ext hx6
     replace hHD:=hHD.trans (Hard.of_ext hx6 (by have:=hHD.below.size;omega))
     replace hKF:=hKF.trans (keepsFrom_ext hx6)
     refine hK.out _ _ (hH.ext hx6) (fun hH=>?_)
     clear hK K hx6
     generalize w6.alloc _=w9 at *
     try simp only [J]
     refine Jr 0 rfl fun K hK=>?_
     have x0:=hBX.has 0 _ rfl
     go_simp
     refine hK.out _ _ hH (fun hH=>?_)
     clear hK K x0
     try simp only [J]
     refine Jr 4 rfl fun K hK=>?_
     refine step_appS (sp:=ownS t) rfl _ _ rfl rfl hRW rfl hb6.has (by omega) (by have:=hHD.below.size;omega) ?_
     intro g7 cap7 w7 hrow7 hg7
     simp only [hn] at hrow7 ⊢
     have hBX7:Blk w7 B5 #[.slice au n cu] 75:=(hg7.block _ hBX.lt (fun e=>hRW.ne hBX e.symm rfl)).trans hBX
     replace hHD:=hHD.trans (Hard.of_gb hg7 (by have:=hHD.below.size;omega) fun k hk=>by obtain ⟨q1,cur,h⟩:=hRW.at hk;exact ⟨q1,fun c t f hc=>by rw [h] at hc;cases hc;rfl⟩)
     replace hKF:=hKF.trans (keepsFrom_gb hg7 fun k hk=>by obtain ⟨-,cur,h⟩:=hRW.at hk;exact ⟨_,_,_,h⟩)
     have hH7:=hg7.block _ hH.lt (fun e=>by obtain ⟨-,cur,h⟩:=hRW.at e.symm;exact absurd (hH.symm.trans h) (by simp))
     refine hK.out _ _ (hH7.trans hH) (fun hH=>?_)
     clear hK K hRW hBX hH7
     have hRW:=hrow7
     have hBX:=hBX7
     clear hrow7 hBX7
     try simp only [J]
     refine Jr 5 rfl fun K hK=>?_
     have x0:=hBX.has 0 _ rfl
     have y0:=hBX.frozen 0
     have hset:=hBX.set 0 (.slice (some ⟨g7,0,none⟩) (n+1) cap7)
     have hgs:=gb_set w7 B5 0 (.slice (some ⟨g7,0,none⟩) (n+1) cap7)
     have hr8:=hRW.grown hgs (fun k hk e=>hRW.ne hBX hk (by cases e;rfl))
     have hH8:=hHD.trans (Hard.of_gb hgs (by have:=hHD.below.size;omega) fun k hk=>by cases hk;exact ⟨by omega,fun c t f hc=>by rw [show w7.heap[B5]? = _ from hBX] at hc;cases hc;rfl⟩)
     have hK8:=hKF.trans (keepsFrom_gb hgs fun k hk=>by cases hk;exact ⟨_,_,_,hBX⟩)
     go_simp
     refine hK.out _ _ (Blk.grown (B':=B5) hH hgs (by rintro rfl;have q:=hH.symm.trans hBX;injection q with q;injection q with _ q;exact absurd q (by decide))) (fun hH=>?_)
     clear hK K x0 y0
     refine Jz ?_
     exact ⟨hK8,hH8,zs++[ownS t],_,HZS2.out,hset,hr8,h4.trans hH8,by have:=hH8.below.size;omega⟩
  ·go_wp2_with fail
   show Code.wpIn _ _ _ _ _ _ _
   refine wpIn_cond_false rfl ?_
   refine wpIn_skip ?_
   refine ⟨KeepsFrom.refl _ _,Hard.refl _ _,zs,_,?_,h2,h3,h4,h5⟩
   rw [List.length_append,List.length_singleton,HSTEP.out,if_neg hop,List.append_nil]
 case done =>
  rintro M Wx hM ⟨zs,u,h1,h2,h3,h4,h5⟩ hh hdef
  rw [hxl] at h1
  obtain ⟨au,cu,hu⟩:=h3.open
  subst hu
  have hX:Ext w Wx:=h4.below.mono (by omega)
  have hM0:Marks w2.heap.size [markOf M] Wx:=Marks.cons (ds:=[]) (Marks.nil _ _) (M:=M) (fun D hD=>by cases hD) (Nat.le_refl _) hM hdef
  have hzl:zs.length<=1048576:=by rw [h1];exact Nat.le_trans (wS_length _ _) hlen
  have hn:=numbers_calls offs zs ov _ Wx (Sl.ints_ext HO.out hX) h3.cells (by rw [h1];exact HOK.out) HOB.out (by omega)
  have HN:=Jh hn
  clear hn
  have g0:=h2.has 0 _ rfl
  have H1:=Jh h1
  clear h1
  go_wp2_with (first | (go_at_call 34;refine HN.out.mono ?_;rintro r w7 ⟨v7,rfl,hr7,hx7⟩))
  have hz7:=hx7.size
  have hzx:=hX.size
  refine leaves_marks (B:=w2.heap.size) (fun _ W=>IntRow B5 v7 (numbersM offs zs) W/\Hard B5 w W/\w2.heap.size<=W.heap.size) (fun s A B row hs hg hr=>⟨own_rowI hs.1 hg hr,own_hard hs.2.1 (by omega) (by have:=hs.2.2;omega) hg hr,Nat.le_trans hs.2.2 hg.size⟩) ?_ _ w7 (hM0.ext hx7) ⟨hr7.less (by omega),h4.trans (Hard.of_ext hx7 (by omega)),by have:=hM0.lt (D:=M) (by simp);omega⟩
  rintro Wz ⟨q1,q2,q3⟩
  exact ⟨v7,by simp [results,Tryz.results35,go_sem],v7,rfl,by rw [hB5,<-H1.out];exact q1,q2.below.mono (by omega)⟩
end Go.Proofs.YtpngepnfinbaoaaGreat
