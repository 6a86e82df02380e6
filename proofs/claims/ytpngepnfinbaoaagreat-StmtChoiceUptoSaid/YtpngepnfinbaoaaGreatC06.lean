/- Laws and walks that a claim of this seat leans on: AppSeq, Ints, Met, SizeM. -/
import Derived.Test.YtpngepnfinbaoaaGreatCParts
import Derived.Test.YtpngepnfinbaoaaGreatC03
import Derived.RangeFuncNested
import Derived.Test.YtpngepnfinbaoaaGreatShelf
import Derived.Sort.OwnSortedInts
import Derived.Lib.OwnBridge
import Derived.Lib.RowBridge
import Derived.Shelf.Slices.In.SortNone
import Derived.Test.YtpngepnfinbaoaaGreatCWant
import Derived.Test.YtpngepnfinbaoaaGreatC00
set_option maxRecDepth 100000
set_option maxHeartbeats 8000000
set_option linter.all false
namespace Go.Proofs.YtpngepnfinbaoaaGreat
open Go.RowKit
/-! ### own, and slices.AppendSeq of spans -/
theorem appSpan:AppT Tryz.prog 75 81 3 24:=⟨Tryz.underlying75,by kernel_rfl,by decide,by decide⟩
def ownS (t:T):Span:=⟨t.sig,t.hi,t.lo⟩
theorem ownT_calls (t:T) (s1 s2:Value) (h1:s1.oneCell'=true) (h2:s2.oneCell'=true) (w:World) :
  Calls Tryz.prog 36 #[.agg (t.cells s1 s2).toArray] w fun r w'=>r=.returned (.agg (ownS t).cells.toArray)/\Ext w w':=by
 go_enter Tryz.func36,Tryz.ntmps36
 go_upto_region 1 with fail
 have hb1:=(Blk.new w (t.cells s1 s2).toArray 39).ext (ext_alloc _ (.cells #[.int .i64 0,.int .i64 0,.int .i64 0] 81))
 have hb2:=Blk.new (w.alloc (.cells (t.cells s1 s2).toArray 39)) #[.int .i64 0,.int .i64 0,.int .i64 0] 81
 have hx:=(ext_alloc w (.cells (t.cells s1 s2).toArray 39)).trans (ext_alloc _ (.cells #[.int .i64 0,.int .i64 0,.int .i64 0] 81))
 rw [show (w.alloc (.cells (t.cells s1 s2).toArray 39)).heap.size=w.heap.size+1 by simp] at hb2
 have g1:=hb1.has 1 _ rfl
 have g2:=hb1.has 2 _ rfl
 have g3:=hb1.has 3 _ rfl
 go_wp2_with ((with_reducible show Js 81);refine wpList_store_blk rfl 81 _ _ rfl hb2 rfl (cs:=(ownS t).cells) rfl agg_span rfl rfl (by simp [one_int]) ?_;intro w7 hb7 hg7)
 refine post_ret_blk rfl rfl hb7.has agg_span rfl rfl ⟨rfl,?_⟩
 exact Ext.grown hx hg7 (by omega)
def SpRow (N:Nat) (v:Value) (xs:List Span) (w:World):Prop:=w.ownsRow N 81 3 v xs.length (xs.map Span.cells).flatten
theorem SpRow.nil (N:Nat) (w:World):SpRow N (.slice none 0 0) [] w:=World.ownsRow_nil _ _ _ _
theorem SpRow.open {N:Nat} {v:Value} {xs:List Span} {w:World} (h:SpRow N v xs w):∃ a cap,v=.slice a xs.length cap:=by
 rcases h.2 with ⟨rfl,h0⟩ | ⟨g,cap,cur,rfl,-⟩
 ·exact ⟨none,0,by rw [h0]⟩
 ·exact ⟨_,cap,rfl⟩
theorem SpRow.at {N:Nat} {v:Value} {xs:List Span} {w:World} (h:SpRow N v xs w) {k:Nat} (hk:v.ownBlock=some k):N<=k/\∃ cur,w.heap[k]? = some (.cells cur 81 (0,0)):=by
 rcases h.2 with ⟨rfl,h0⟩ | ⟨g,cap,cur,rfl,hb,hg,-⟩
 ·cases hk
 ·cases hk;exact ⟨hb,cur,hg⟩
theorem SpRow.keep {N:Nat} {v:Value} {xs:List Span} {w w':World} (h:SpRow N v xs w) (hk:∀ k,v.ownBlock=some k->∀ o,w.heap[k]? = some o->w'.heap[k]? = some o):SpRow N v xs w':=by
 refine ⟨h.1,?_⟩
 rcases h.2 with hn | ⟨g,cap,cur,rfl,hb,hg,rest⟩
 ·exact .inl hn
 ·exact .inr ⟨g,cap,cur,rfl,hb,hk g rfl _ hg,rest⟩
theorem SpRow.ext {N:Nat} {v:Value} {xs:List Span} {w w':World} (h:SpRow N v xs w) (hx:Ext w w'):SpRow N v xs w' :=
 h.keep fun k _ _ ho=>(hx.block k (Array.getElem?_eq_some_iff.1 ho).1).trans ho
theorem SpRow.grown {N:Nat} {v:Value} {xs:List Span} {w w':World} {R:Option Nat} (h:SpRow N v xs w) (hg:w.grownBy w' R) (hR:∀ k,v.ownBlock=some k->some k≠R):SpRow N v xs w' :=
 h.keep fun k hk _ ho=>(hg.block k (Array.getElem?_eq_some_iff.1 ho).1 (hR k hk)).trans ho
theorem own_row {A B:World} {N M:Nat} {v:Value} {xs:List Span} {row:Option Nat} (h:SpRow N v xs A) (hg:A.grownBy B row) (hr:∀ r,row=some r->M<=r/\∃ o:Obj,A.heap[r]? = some o/\o.isCells=false):SpRow N v xs B :=
 h.grown hg fun k hk e=>by
  obtain ⟨-,o,ho,hc⟩:=hr k e.symm
  obtain ⟨-,cur,hcur⟩:=h.at hk
  rw [hcur] at ho;cases ho;cases hc
theorem SpRow.ne {N B:Nat} {v u:Value} {xs:List Span} {w:World} (h:SpRow N v xs w) (hb:Blk w B #[u] 75) {k:Nat} (hk:v.ownBlock=some k):k≠B:=by
 rintro rfl
 obtain ⟨-,cur,hcur⟩:=h.at hk
 have h2:w.heap[k]? = some (.cells #[u] 75 (0,0)):=hb
 rw [hcur] at h2
 injection h2 with h2
 injection h2 with _ h2
 exact absurd h2 (by decide)
theorem SpRow.neT {N B:Nat} {v:Value} {cs:Array Value} {T:TypeId} {xs:List Span} {w:World} (h:SpRow N v xs w) (hb:Blk w B cs T) (hT:(T==81)=false) {k:Nat} (hk:v.ownBlock=some k):k≠B:=by
 rintro rfl
 obtain ⟨-,cur,hcur⟩:=h.at hk
 have h2:w.heap[k]? = some (.cells cs T (0,0)):=hb
 rw [hcur] at h2
 injection h2 with h2
 injection h2 with _ h2
 subst h2
 exact absurd hT (by decide)
theorem Seq.hard {P:Program} {n0:Nat} {g:FuncId} {lb:Array Value} {xs:List (List Value)} {w w':World} (h:Seq P n0 g lb xs w) (hh:Hard n0 w w'):Seq P n0 g lb xs w' :=
 fun l J W hW h1 h2 h3 h4 h5=>h l J W (hh.trans hW) h1 h2 h3 h4 h5
theorem keepsFrom_gb {B:Nat} {W W':World} {R:Option Nat} (hg:W.grownBy W' R) (hR:∀ k,R=some k->∃ c t f,W.heap[k]? = some (Obj.cells c t f)):KeepsFrom B W W' :=
 ⟨hg.size,fun k o _ ho hc=>(hg.block k (Array.getElem?_eq_some_iff.1 ho).1 (fun e=>by
  obtain ⟨c,t,f,h⟩:=hR k e.symm
  rw [h] at ho;cases ho;cases hc)).trans ho⟩
theorem spans_inj {xs zs:List Span} (h:xs.map Span.cells=zs.map Span.cells):xs=zs:=by
 induction xs generalizing zs with
 | nil=>cases zs with
  | nil=>rfl
  | cons=>simp at h
 | cons x xs ih=>cases zs with
  | nil=>simp at h
  | cons z zs =>
   simp only [List.map_cons,List.cons.injEq] at h
   obtain ⟨h1,h2⟩:=h
   rw [ih h2]
   cases x;cases z
   simp only [Span.cells,List.cons.injEq,Value.int.injEq,true_and,and_true] at h1
   obtain ⟨rfl,rfl,rfl⟩:=h1
   rfl
theorem news_has {w:World} {B:Nat} {cs:List Value} (h:Has w B 0 cs):∀ j u,cs[j]? = some u->w.cell? ((⟨B,0,none⟩:Addr).add j)=some u:=by
 intro j u hj
 have hadd:(⟨B,0,none⟩:Addr).add j=⟨B,j,none⟩:=by unfold Addr.add;split<;>simp_all
 have:=h j u hj
 rw [hadd];rwa [Nat.zero_add] at this
theorem appendSeq_calls {g:Nat} {lb:Array Value} (hg:Leads Tryz.prog g) (n0:Nat) (v:Value) (ys xs:List Span) (w:World) (hn:n0<=w.heap.size) (hseq:Seq Tryz.prog n0 g lb (xs.map Span.cells) w) (hrow:SpRow n0 v ys w)
  (hb:ys.length+xs.length<=16777216) {Bk:Nat} {bc:Array Value} {bT:TypeId} (hbk:Blk w Bk bc bT) (hbT:(bT==81)=false) :
  Calls Tryz.prog 32 #[v,.func (.func g) #[] lb] w fun r w'=>∃ v',r=.returned v'/\SpRow n0 v' (ys++xs) w'/\Hard n0 w w'/\KeepsFrom 0 w w'/\Blk w' Bk bc bT:=by
 have hbl:=hbk.lt
 have HBT:=Jh hbT
 clear hbT
 obtain ⟨a0,cap0,rfl⟩:=hrow.open
 have hX:=ext_alloc w (.cells #[.slice a0 ys.length cap0] 75)
 have hbx:=Blk.new w #[.slice a0 ys.length cap0] 75
 have hr1:=hrow.ext hX
 have hs1:(w.alloc (.cells #[.slice a0 ys.length cap0] 75)).heap.size=w.heap.size+1:=by simp
 have hq1:=hseq.hard (Hard.of_ext hX hn)
 have hH1:=Hard.of_ext hX hn
 have HQ1:=Jh hq1
 clear hseq hq1 hrow
 refine callsIn_wide.1 (callsIn_of_wp_marks (n:=0) Tryz.func32 rfl trivial ?_);rw [wpIn_wide];simp only [Tryz.ntmps32,List.size_toArray,List.length_cons,List.length_nil,Nat.reduceAdd,Nat.reduceSub,Array.replicate_succ,Array.replicate_zero,List.push_toArray,List.append_toArray,List.nil_append,List.cons_append]
 go_wp2_with fail
 generalize w.alloc _=w1 at *
 have hI:OwnFrom w1.heap.size (fun (pre:List (List Value)) (Wx:World)=>∃ (u:Value) (zs:List Span),pre=zs.map Span.cells/\Blk Wx w.heap.size #[u] 75/\SpRow n0 u (ys++zs) Wx/\Hard n0 w Wx/\w.heap.size<Wx.heap.size/\KeepsFrom 0 w Wx/\Blk Wx Bk bc bT):=by
  rintro pre A B row ⟨u,zs,h1,h2,h3,h4,h5,h6,h9⟩ hg hr
  exact ⟨u,zs,h1,own_blk h2 hg hr,own_row h3 hg hr,own_hard h4 (by omega) (by omega) hg hr,own_size h5 hg,ownFrom_keepsFrom (β:=Unit) (show w.heap.size<=w1.heap.size by omega) () A B row h6 hg hr,own_blk h9 hg hr⟩
 refine wp_range (n0:=n0) rfl hg HQ1.out rfl (by omega)
  (fun pre Wx=>∃ (u:Value) (zs:List Span),pre=zs.map Span.cells/\Blk Wx w.heap.size #[u] 75/\SpRow n0 u (ys++zs) Wx/\Hard n0 w Wx/\w.heap.size<Wx.heap.size/\KeepsFrom 0 w Wx/\Blk Wx Bk bc bT) hI
  ⟨_,[],rfl,hbx,by simpa using hr1,hH1,by omega,keepsFrom_ext hX,hbk.ext hX⟩
  (fun pre x aM Wx=>(∃ (u:Value) (zs:List Span),pre=zs.map Span.cells/\Blk Wx w.heap.size #[u] 75/\SpRow n0 u (ys++zs) Wx/\Hard n0 w Wx/\w.heap.size<Wx.heap.size/\KeepsFrom 0 w Wx/\Blk Wx Bk bc bT)/\∃ (U:Nat) (sp:Span),x=sp.cells/\Blk Wx U x.toArray 81/\aM=⟨#[.slice a0 ys.length cap0,.func (.func g) #[] lb,.pointer (some ⟨w.heap.size,0,Option.none⟩),undef,.slice Option.none 0 0,.pointer (some ⟨U,0,Option.none⟩),.func (.func g) #[] lb,.agg x.toArray,undef,undef,undef,undef,undef],[]⟩)
  (fun pre x aM s A B row hs hg hr=>⟨hI pre A B row hs.1 hg hr,by
   obtain ⟨U,sp,h1,h2,h3⟩:=hs.2
   exact ⟨U,sp,h1,own_blk h2 hg hr,h3⟩⟩) ?assign ?body ?done
 case assign =>
  rintro l' m pre x Wx ⟨u,zs,h1,h2,h3,h4,h5,h6,h9⟩ ⟨post',hxp⟩ hsz
  obtain ⟨sp,-,rfl⟩:=List.mem_map.1 (show x∈xs.map Span.cells by rw [hxp];simp)
  refine regionIn_of_list (r:=some l') (by kernel_rfl) (by rintro ⟨_,_,h⟩;exact h) ?_
  have hxu:=ext_alloc Wx (.cells sp.cells.toArray 81)
  have hbu:=Blk.new Wx sp.cells.toArray 81
  go_wp2_with (first | ((with_reducible show Js 81);refine wpList_store_new rfl 81 _ _ rfl rfl (by first | rfl | simp) rfl agg_span (rfl) rfl (by simp [one_int]) ?_))
  exact ⟨keepsFrom_ext hxu,Hard.of_ext hxu (by omega),⟨u,zs,h1,h2.ext hxu,h3.ext hxu,h4.trans (Hard.of_ext hxu (by omega)),by simp;omega,h6.trans (keepsFrom_ext hxu),h9.ext hxu⟩,Wx.heap.size,sp,rfl,hbu,rfl⟩
 case body =>
  rintro l' m pre x aM Wx ⟨⟨u,zs,rfl,h2,h3,h4,h5,h6,h9⟩,U,sp,rfl,hU,rfl⟩ ⟨post',hxp⟩ hsz
  have hlen:zs.length+1<=xs.length:=by have:=congrArg List.length hxp;simp at this;omega
  obtain ⟨au,cu,hu⟩:=h3.open
  subst hu
  refine wpIn_block ?_
  refine regionIn_of_list (r:=some l') (by kernel_rfl) (by rintro ⟨_,_,h⟩;exact h) ?_
  have g0:=h2.has 0 _ rfl
  have hx6:=ext_alloc Wx (.cells sp.cells.toArray 81)
  have hb6:=Blk.new Wx sp.cells.toArray 81
  have h26:=h2.ext hx6
  have h36:=h3.ext hx6
  obtain ⟨n,hnn⟩:∃ n,(ys++zs).length=n:=⟨_,rfl⟩
  have HN2:Hid (n=ys.length+zs.length):=Jh (by rw [<-hnn,List.length_append])
  have ho6:World.ownsRow (Wx.alloc (.cells sp.cells.toArray 81)) n0 81 3 (.slice au n cu) n ((ys++zs).map Span.cells).flatten:=by unfold SpRow at h36;rw [hnn] at h36;exact h36
  rw [hnn] at g0 h36 h26 h2 h3
  clear hnn
  go_wp2_with (first | ((with_reducible show Jl 81);refine Jm 81 (hU.has) agg_span rfl ?_) | ((with_reducible show Jw (Op.buildSlice _ _ _));refine wpList_bs1 rfl _ _ rfl appSpan rfl (cs:=sp.cells) rfl rfl (by decide) ?_) | ((with_reducible show Jw (Op.call { callee:=.builtin .append,args:=_,argTypes:=_ }));refine Hid.out ?_))
  refine Jh ?_
  have hnn2:=HN2.out
  refine wpList_app (m:=1) (news:=sp.cells) (n:=n) (base:=n0) (v:=.slice au n cu) rfl _ _ _ rfl appSpan rfl ho6 rfl (fun _=>Nat.lt_of_lt_of_le Nat.zero_lt_one (Nat.le_refl 1)) rfl (news_has hb6.has) (by simp [one_int]) (by omega) (by simp;omega) ?_
  intro g7 cap7 w7 hrow7 hg7 hgg7
  have hs6:(Wx.alloc (.cells sp.cells.toArray 81)).heap.size=Wx.heap.size+1:=by simp
  generalize Wx.alloc _=w6 at *
  have h27:Blk w7 w.heap.size #[.slice au n cu] 75:=(hg7.block _ h26.lt (fun e=>h36.ne h26 e.symm rfl)).trans h26
  have hr7:SpRow n0 (.slice (some ⟨g7,0,none⟩) (n+1) cap7) (ys++(zs++[sp])) w7:=by
   unfold SpRow
   rw [show (ys++(zs++[sp])).length=n+1 by simp;omega,show ((ys++(zs++[sp])).map Span.cells).flatten=((ys++zs).map Span.cells).flatten++sp.cells by simp]
   exact hrow7
  have hk7:Blk w7 Bk bc bT:=(hg7.block _ (h9.ext hx6).lt (fun e=>h36.neT (h9.ext hx6) HBT.out e.symm rfl)).trans (h9.ext hx6)
  have z0:=h27.has 0 _ rfl
  have z1:=h27.frozen 0
  have hset:=h27.set 0 (.slice (some ⟨g7,0,none⟩) (n+1) cap7)
  have hgs:=gb_set w7 w.heap.size 0 (.slice (some ⟨g7,0,none⟩) (n+1) cap7)
  have hk9:=hk7.grown hgs (by omega)
  have hr8:=hr7.grown hgs (fun k hk e=>hr7.ne h27 hk (by cases e;rfl))
  have hk0:=((keepsFrom_ext (B:=0) hx6).trans (keepsFrom_gb hg7 fun k hk=>by obtain ⟨-,cur,h⟩:=h36.at hk;exact ⟨_,_,_,h⟩)).trans (keepsFrom_gb hgs fun k hk=>by cases hk;exact ⟨_,_,_,h27⟩)
  have hk8:=((keepsFrom_ext (B:=w1.heap.size) hx6).trans (keepsFrom_gb hg7 fun k hk=>by obtain ⟨-,cur,h⟩:=h36.at hk;exact ⟨_,_,_,h⟩)).trans (keepsFrom_gb hgs fun k hk=>by cases hk;exact ⟨_,_,_,h27⟩)
  have hh8:=((Hard.of_ext hx6 (by omega)).trans (Hard.of_gb (n0:=n0) hg7 (by omega) fun k hk=>by obtain ⟨q1,cur,h⟩:=h36.at hk;exact ⟨q1,fun c t f hc=>by rw [h] at hc;cases hc;rfl⟩)).trans (Hard.of_gb hgs (by have:=hg7.size;omega) fun k hk=>by cases hk;exact ⟨hn,fun c t f hc=>by rw [show w7.heap[w.heap.size]? = _ from h27] at hc;cases hc;rfl⟩)
  have hz8:=hg7.size
  clear hnn2
  go_wp2_with fail
  rw [hs1] at hk8
  exact ⟨hk8,hh8,_,zs++[sp],by simp,hset,hr8,h4.trans hh8,by have:=hgs.size;omega,h6.trans hk0,hk9⟩
 case done =>
  rintro M Wx hM ⟨u,zs,h1,h2,h3,h4,h5,h6,h9⟩ hh hdef
  obtain rfl:=spans_inj h1
  obtain ⟨au,cu,hu⟩:=h3.open
  subst hu
  have g0:=h2.has 0 _ rfl
  go_wp2_with fail
  refine leaves_marks (B:=w1.heap.size) (fun _ Wx=>SpRow n0 (.slice au (ys++xs).length cu) (ys++xs) Wx/\Hard n0 w Wx/\w1.heap.size<=Wx.heap.size/\KeepsFrom 0 w Wx/\Blk Wx Bk bc bT) (fun s A B row hs hg hr=>⟨own_row hs.1 hg hr,own_hard hs.2.1 (by omega) (by have:=hs.2.2.1;omega) hg hr,Nat.le_trans hs.2.2.1 hg.size,ownFrom_keepsFrom (β:=Unit) (show w.heap.size<=w1.heap.size by omega) () A B row hs.2.2.2.1 hg hr,own_blk hs.2.2.2.2 hg hr⟩) ?_ _ Wx (Marks.cons (ds:=[]) (Marks.nil _ _) (M:=M) (fun D hD=>by cases hD) (Nat.le_refl _) hM hdef) ⟨h3,h4,by omega,h6,h9⟩
  rintro Wx ⟨q1,q2,q3,q4,q5⟩
  exact ⟨.slice au (ys.length+xs.length) cu,by simp [results,Tryz.results32,go_sem],_,rfl,by rw [List.length_append] at q1;exact q1,q2,q4,q5⟩
open Go.RowKit Go.Sort
/-! ### rows of numbers -/
abbrev Ints (w:World) (v:Value) (l:List Int):Prop:=Sl 1 (fun (x:Int) b o=>Has w b o [.int .i64 x]) v l
abbrev Spans (w:World) (v:Value) (l:List Span):Prop:=Sl 3 (fun (x:Span) b o=>Has w b o x.cells) v l
def IntRow (N:Nat) (v:Value) (l:List Int) (w:World):Prop:=w.ownsRow N 3 1 v l.length (l.map (Value.int .i64))
theorem IntRow.nil (N:Nat) (w:World):IntRow N (.slice none 0 0) [] w:=World.ownsRow_nil _ _ _ _
theorem IntRow.open {N:Nat} {v:Value} {l:List Int} {w:World} (h:IntRow N v l w):∃ a cap,v=.slice a l.length cap/\(v.ownBlock=none->l=[]):=by
 rcases h.2 with ⟨rfl,h0⟩ | ⟨g,cap,cur,rfl,-⟩
 ·exact ⟨none,0,by rw [h0],fun _=>List.eq_nil_of_length_eq_zero h0⟩
 ·exact ⟨_,cap,rfl,fun h=>by cases h⟩
theorem IntRow.at {N:Nat} {v:Value} {l:List Int} {w:World} (h:IntRow N v l w) {k:Nat} (hk:v.ownBlock=some k):N<=k/\∃ cur,w.heap[k]? = some (.cells cur 3 (0,0)):=by
 rcases h.2 with ⟨rfl,h0⟩ | ⟨g,cap,cur,rfl,hb,hg,-⟩
 ·cases hk
 ·cases hk;exact ⟨hb,cur,hg⟩
theorem IntRow.keep {N:Nat} {v:Value} {l:List Int} {w w':World} (h:IntRow N v l w) (hk:∀ k,v.ownBlock=some k->∀ o,w.heap[k]? = some o->w'.heap[k]? = some o):IntRow N v l w':=by
 refine ⟨h.1,?_⟩
 rcases h.2 with hn | ⟨g,cap,cur,rfl,hb,hg,rest⟩
 ·exact .inl hn
 ·exact .inr ⟨g,cap,cur,rfl,hb,hk g rfl _ hg,rest⟩
theorem IntRow.ext {N:Nat} {v:Value} {l:List Int} {w w':World} (h:IntRow N v l w) (hx:Ext w w'):IntRow N v l w' :=
 h.keep fun k _ _ ho=>(hx.block k (Array.getElem?_eq_some_iff.1 ho).1).trans ho
theorem IntRow.grown {N:Nat} {v:Value} {l:List Int} {w w':World} {R:Option Nat} (h:IntRow N v l w) (hg:w.grownBy w' R) (hR:∀ k,v.ownBlock=some k->some k≠R):IntRow N v l w' :=
 h.keep fun k hk _ ho=>(hg.block k (Array.getElem?_eq_some_iff.1 ho).1 (hR k hk)).trans ho
theorem IntRow.less {N M:Nat} {v:Value} {l:List Int} {w:World} (h:IntRow N v l w) (hM:M<=N):IntRow M v l w:=by
 refine ⟨h.1,?_⟩
 rcases h.2 with hn | ⟨g,cap,cur,rfl,hb,rest⟩
 ·exact .inl hn
 ·exact .inr ⟨g,cap,cur,rfl,Nat.le_trans hM hb,rest⟩
theorem rows_flat {α:Type} {f:α->List Value} {size:Nat} (hf:∀ x,(f x).length=size) {w:World} {b:Nat} (l:List α):∀ o,Has w b o (l.map f).flatten->Rows size (fun x b o=>Has w b o (f x)) l b o:=by
 induction l with
 | nil=>intro o _;trivial
 | cons x l ih =>
  intro o h
  refine ⟨fun j u hj=>?_,ih _ fun j u hj=>?_⟩
  ·refine h j u ?_
   simp only [List.map_cons,List.flatten_cons]
   rw [List.getElem?_append_left (List.getElem?_eq_some_iff.1 hj).1]
   exact hj
  ·have:=h (size+j) u (by
    simp only [List.map_cons,List.flatten_cons]
    rw [List.getElem?_append_right (by rw [hf];omega),hf,Nat.add_sub_cancel_left]
    exact hj)
   rw [<-Nat.add_assoc] at this
   exact this
theorem flat1 (l:List Int):(l.map fun x=>[Value.int .i64 x]).flatten=l.map (Value.int .i64):=by
 induction l with
 | nil=>rfl
 | cons x l ih=>simp only [List.map_cons,List.flatten_cons,ih];rfl
theorem flat_own {w:World} {N g n cap size:Nat} {e:TypeId} {cur:Array Value} {vs:List Value} (hg:w.heap[g]? = some (.cells cur e (0,0))) (ht:cur.toList.take n=vs):Has w g 0 vs:=by
 intro j u hj
 rw [<-ht] at hj
 rw [Nat.zero_add,cell_of_row w g j cur e (0,0) hg]
 rw [List.getElem?_take] at hj
 split at hj
 ·simpa using hj
 ·cases hj
theorem IntRow.cells {N:Nat} {v:Value} {l:List Int} {w:World} (h:IntRow N v l w):Ints w v l:=by
 rcases h.2 with ⟨rfl,h0⟩ | ⟨g,cap,cur,rfl,hb,hg,hnc,hcm,hcs,htake⟩
 ·obtain rfl:l=[]:=List.eq_nil_of_length_eq_zero h0
  exact Sl.nil _ _
 ·refine ⟨g,0,⟨_,cap,rfl,hnc,hcm,fun _=>rfl⟩,rows_flat (f:=fun x=>[Value.int .i64 x]) (fun _=>rfl) l 0 ?_⟩
  have:=flat_own (N:=N) (cap:=cap) (size:=1) hg htake
  rw [flat1];exact this
theorem SpRow.cells {N:Nat} {v:Value} {l:List Span} {w:World} (h:SpRow N v l w):Spans w v l:=by
 rcases h.2 with ⟨rfl,h0⟩ | ⟨g,cap,cur,rfl,hb,hg,hnc,hcm,hcs,htake⟩
 ·obtain rfl:l=[]:=List.eq_nil_of_length_eq_zero h0
  exact Sl.nil _ _
 ·exact ⟨g,0,⟨_,cap,rfl,hnc,hcm,fun _=>rfl⟩,rows_flat (f:=Span.cells) (fun _=>rfl) l 0 (flat_own (N:=N) (cap:=cap) (size:=3) hg htake)⟩
theorem IntRow.ne {N B:Nat} {v:Value} {cs:Array Value} {T:TypeId} {l:List Int} {w:World} (h:IntRow N v l w) (hb:Blk w B cs T) (hT:(T==3)=false) {k:Nat} (hk:v.ownBlock=some k):k≠B:=by
 rintro rfl
 obtain ⟨-,cur,hcur⟩:=h.at hk
 have h2:w.heap[k]? = some (.cells cs T (0,0)):=hb
 rw [hcur] at h2
 injection h2 with h2
 injection h2 with _ h2
 subst h2
 exact absurd hT (by decide)
def sortI (l:List Int):List Int:=l.mergeSort fun x y=>decide (x<=y)
theorem sort_calls (N:Nat) (v:Value) (l:List Int) (w:World) (h:IntRow N v l w) (hl:l.length<4611686018427387904) :
  Calls Tryz.prog 68 #[v] w fun e w'=>e=.returned (.tuple #[])/\IntRow N v (sortI l) w'/\w.grownBy w' v.ownBlock:=by
 rcases h.2 with ⟨rfl,h0⟩ | ⟨g,cap,cur,rfl,hb,hg,hnc,hcm,hcs,htake⟩
 ·obtain rfl:l=[]:=List.eq_nil_of_length_eq_zero h0
  refine (Any.slices_Sort_int_none Tryz.lays189 none 0 w).mono ?_
  rintro e w' ⟨rfl,rfl⟩
  exact ⟨rfl,by simpa [sortI] using h,rfl,rfl,rfl,Nat.le_refl _,fun _ _ _=>rfl⟩
 ·rw [Nat.mul_one] at htake
  refine (Tryz.slices_Sort_int g 0 cap l w (holds_of_blockI hg htake) (Array.getElem?_eq_some_iff.1 hg).1 hl).mono ?_
  rintro e w' ⟨rfl,n,os,rfl⟩
  refine ⟨rfl,?_,grownBy_sortedI _⟩
  have hlen:(sortI l).length=l.length:=List.length_mergeSort _
  have:=ownsRow_sortedI (n:=n) (os:=os) (ts:=sortI l) hlen hb hg hnc hcm hcs
  unfold IntRow
  rw [hlen]
  exact this
theorem compact_calls (N:Nat) (v:Value) (l:List Int) (w:World) (h:IntRow N v l w) :
  Calls Tryz.prog 69 #[v] w fun e w'=>∃ v',e=.returned v'/\v'.ownBlock=v.ownBlock/\IntRow N v' (Lib.compact l) w'/\w.grownBy w' v.ownBlock:=by
 rcases h.2 with ⟨rfl,h0⟩ | ⟨g,cap,cur,rfl,hb,hg,hnc,hcm,hcs,htake⟩
 ·obtain rfl:l=[]:=List.eq_nil_of_length_eq_zero h0
  refine (Tryz.slices_Compact_int_empty none 0 w).mono ?_
  rintro e w' ⟨rfl,rfl⟩
  exact ⟨_,rfl,rfl,h,rfl,rfl,rfl,Nat.le_refl _,fun _ _ _=>rfl⟩
 ·have h':=h
  rw [Nat.mul_one] at htake
  have hle:=Lib.compact_length_le l
  have hml:cap<=9223372036854775807:=by simpa [maxLen] using hcm
  refine (Tryz.slices_Compact_int g 0 cap l w (holds_of_blockI hg htake) (by omega) hnc).mono ?_
  rintro e w' ⟨rfl,q,rfl⟩
  refine ⟨_,rfl,rfl,?_,grownBy_sortedI (os:=#[]) _⟩
  have:=Lib.ownsRow_putRow (q:=q) (k:=(Lib.compact l).length) (ys:=Lib.compact l++List.replicate (l.length-(Lib.compact l).length) 0) h (by simp;omega) hle
  rw [List.take_left] at this
  exact this
theorem run_appI {w:World} {N:Nat} {v:Value} {l:List Int} (hown:IntRow N v l w) {ty:TypeId} {ad:Addr} {m c:Nat} (hm:v=.slice none 0 0->0<m) {news:List Int} (hl:news.length=m)
  (hnews:∀ j u,(news.map (Value.int .i64))[j]? = some u->w.cell? (ad.add j)=some u) (hn:l.length+m<=1099511627776) (hbase:N<=w.heap.size) :
  ∃ g cap w',(Builtin.append_ #[53,53] ty #[v,.slice (some ad) m c]).run Tryz.prog w=.ok (.slice (some ⟨g,0,none⟩) (l.length+m) cap) w'/\IntRow N (.slice (some ⟨g,0,none⟩) (l.length+m) cap) (l++news) w'/\w.grownBy w' v.ownBlock:=by
 obtain ⟨ht,hinfo,hsz,hby⟩:=appInt
 cases hi:Tryz.prog.info? 3 with
 | none=>simp [hi] at hinfo
 | some i =>
  simp only [hi,Option.map_some,Option.some.injEq,Prod.mk.injEq] at hinfo
  obtain ⟨hz0,hs,hb⟩:=hinfo
  cases hz:i.zero with
  | none=>simp [hz] at hz0
  | some z =>
   simp only [hz,Option.map_some,Option.some.injEq] at hz0
   have h1':∀ u∈news.map (Value.int .i64),u.oneCell'=true:=by simp [one_int]
   obtain ⟨v',w',hr,h2,h3,h4⟩:=run_append_own (P:=Tryz.prog) w N 53 ty 3 i z 1 8 ht hi hz hs hb hz0 (by decide) v l.length _ hown ad m c (news.map (Value.int .i64)) (by simp [hl]) hnews h1' (by simp only [maxLen];omega) (by omega) hbase
   have h5:IntRow N v' (l++news) w':=by unfold IntRow;rw [List.length_append,hl,List.map_append];exact h2
   rcases h2.2 with ⟨rfl,h0⟩ | ⟨g,cap,cur,rfl,-⟩
   ·have:=h4.1 rfl
    exact absurd (hm this.1) (by omega)
   ·exact ⟨g,cap,w',hr,h5,h3⟩
theorem wpList_appI {ops:Array Oper} {rest:List Oper} {o:Oper} {a:Act} {w:World} {Q:Exit->Act->World->Prop} (hw:Region.wanted o (yielded ops a.tmps)=true) (s x:Operand)
  (ho:o.op=.call { callee:=.builtin .append,args:=#[s,x],argTypes:=#[53,53] }) {N:Nat} {v:Value} {l:List Int} (hs:a.eval s=v) (hown:IntRow N v l w)
  {ad:Addr} {m c:Nat} (hx:a.eval x=.slice (some ad) m c) (hm:v=.slice none 0 0->0<m) {news:List Int} (hl:news.length=m)
  (hnews:∀ j u,(news.map (Value.int .i64))[j]? = some u->w.cell? (ad.add j)=some u) (hn:l.length+m<=1099511627776) (hbase:N<=w.heap.size)
  (h:∀ g cap w',IntRow N (.slice (some ⟨g,0,none⟩) (l.length+m) cap) (l++news) w'->w.grownBy w' v.ownBlock->wpList Tryz.prog ops Q rest (a.put o.dst (.slice (some ⟨g,0,none⟩) (l.length+m) cap)) w') :
  wpList Tryz.prog ops Q (o::rest) a w :=
 BigFrame.wpList_want hw fun _ hK=>by
  obtain ⟨g,cap,w',hr,h2,h3⟩:=run_appI (ty:=o.type) (c:=c) hown hm hl hnews hn hbase
  unfold Oper.wp execOp
  simp only [ho,resolve,invoke,builtin,Sem.run_bind,Sem.run_pure,Result.andThen_ok,List.map_toArray,List.map_cons,List.map_nil,hs,hx]
  rw [hr]
  exact hK _ _ (h g cap w' h2 h3)
/-! ### met: what stands in all of some lists -/
def metM (ls:List (List Int)):List Int:=(ls.headD []).filter fun x=>ls.all fun m=>m.contains x
def VInts (w:World) (cs:List Value) (x:List Int):Prop:=∃ u,cs=[u]/\Ints w u x
abbrev IntsL (w:World) (v:Value) (ll:List (List Int)):Prop:=Sl 1 (fun (x:List Int) b o=>∃ u,Has w b o [u]/\Ints w u x) v ll
theorem Ints.ext {w w':World} {v:Value} {l:List Int} (h:Ints w v l) (hx:Ext w w'):Ints w' v l:=Sl.mono h fun _ _ _ _ q=>Has.ext q hx
theorem IntsL.ext {w w':World} {v:Value} {l:List (List Int)} (h:IntsL w v l) (hx:Ext w w'):IntsL w' v l:=Sl.mono h fun _ _ _ _ ⟨u,h1,h2⟩=>⟨u,h1.ext hx,h2.ext hx⟩
theorem VInts.at {W:World} {cs:List Value} {x:List Int} {b o:Nat} (h:Has W b o cs) (hv:VInts W cs x):∃ u,Has W b o [u]/\Ints W u x:=by
 obtain ⟨u,rfl,hs⟩:=hv;exact ⟨u,h,hs⟩
theorem IndexFunc_Ints (g:FuncId) (lb:Array Value) (p:List Int->Bool) (l:List (List Int)) (s:Value) (w:World) (h:IntsL w s l) (eg:Leads Tryz.prog g)
  (hp:∀ wr,Ext w wr->∀ k (hk:k<l.length) u,Ints wr u l[k]->Calls Tryz.prog g (#[u]++lb) wr fun r w'=>r=.returned (.bool (p l[k]))/\Ext wr w') :
  Calls Tryz.prog 146 #[s,.func (.func g) #[] lb] w fun r w'=>r=.returned (.int .i64 (idxOf p l))/\Ext w w':=by
 have HP:=Jh hp
 clear hp
 obtain ⟨a,b,o,cap,hs,hc1,hc2,ha,hr⟩:=h.open
 subst hs
 have HR:=Jh hr
 clear hr
 go_enter Tryz.func146,Tryz.ntmps146
 go_wp2_with fail
 go_loopw [5,8] (fun _ i wr=>∃ k:Nat,k<=l.length/\i=.int .i64 k/\(∀ j (hj:j<l.length),j<k->p l[j]=false)/\Ext w wr) (fun _ i _=>l.length-(intOf i).toNat)
 case atStart=>exact ⟨0,Nat.zero_le _,rfl,fun j hj h=>by omega,Below.refl _ _⟩
 case round =>
  obtain ⟨k,hk,rfl,hno,hB⟩:=hrel
  have HNO:=Jh hno
  clear hno
  by_cases hlt:k<l.length
  ·obtain ⟨u,he1,he2⟩:=HR.out.get (List.getElem?_eq_getElem hlt)
   rw [Nat.mul_one] at he1
   obtain rfl:=ha (by omega)
   have HC:=(HP.out _ hB k hlt u (he2.ext hB))
   have y0:=(he1.ext hB) 0 _ rfl
   rw [Nat.add_zero] at y0
   cases hpk:p l[k] with
   | true =>
    rw [hpk] at HC
    have Hpk:=Jh hpk
    clear hpk
    go_wp2_with ((with_reducible show Jw (Op.call { callee:=.value (.tmp _),args:=_,argTypes:=_ }));refine wpList_call_fv rfl _ _ _ rfl rfl eg rfl HC ?_;intro w1 hx1)
    go_ret
    exact ⟨by rw [idxOf_found hlt (fun j hj=>HNO.out j _ hj) Hpk.out];rfl,hB.trans hx1⟩
   | false =>
    rw [hpk] at HC
    have Hpk:=Jh hpk
    clear hpk
    go_wp2_with ((with_reducible show Jw (Op.call { callee:=.value (.tmp _),args:=_,argTypes:=_ }));refine wpList_call_fv rfl _ _ _ rfl rfl eg rfl HC ?_;intro w1 hx1)
    go_roundw
    case rel =>
     refine ⟨k+1,by omega,by go_num,fun j hj hj2=>?_,hB.trans hx1⟩
     by_cases hjk:j=k
     ·subst hjk;exact Hpk.out
     ·exact HNO.out j hj (by omega)
    case measure=>simp [intOf];omega
  ·go_wp2_with fail
   go_ret
   exact ⟨by rw [idxOf_none (fun j hj=>HNO.out j hj (by omega))];rfl,hB⟩
theorem ContainsFunc_Ints (g:FuncId) (lb:Array Value) (p:List Int->Bool) (l:List (List Int)) (s:Value) (w:World) (h:IntsL w s l) (eg:Leads Tryz.prog g)
  (hp:∀ wr,Ext w wr->∀ k (hk:k<l.length) u,Ints wr u l[k]->Calls Tryz.prog g (#[u]++lb) wr fun r w'=>r=.returned (.bool (p l[k]))/\Ext wr w') :
  Calls Tryz.prog 106 #[s,.func (.func g) #[] lb] w fun r w'=>r=.returned (.bool (l.any p))/\Ext w w':=by
 have HI:=Jh (IndexFunc_Ints g lb p l s w h eg hp)
 clear hp
 go_enter Tryz.func106,Tryz.ntmps106
 go_wp2_with (first | (go_at_call 146;refine HI.out.mono ?_;rintro r w1 ⟨rfl,hx1⟩))
 go_ret
 exact ⟨ret_bool (idxOf_nonneg p l),hx1⟩
theorem leads_met1:Leads Tryz.prog 107:=leads_of Tryz.func107 (by kernel_rfl) rfl
theorem contains_calls (l:List Int) (v:Value) (x:Int) (w:World) (h:Ints w v l) :
  Calls Tryz.prog 108 #[v,.int .i64 x] w fun r w'=>r=.returned (.bool (l.contains x))/\w'=w:=by
 obtain ⟨a,b,o,cap,rfl,hc1,hc2,ha,hr⟩:=h.open
 by_cases h0:0<l.length
 ·obtain rfl:=ha h0
  refine (Tryz.slices_Contains_int b o l.length cap l x w (Nat.le_refl _) (by omega) fun j hj=>?_).mono ?_
  ·have:=(hr.get (List.getElem?_eq_getElem hj)) 0 _ rfl
   rw [List.getD_eq_getElem?_getD,List.getElem?_eq_getElem hj]
   simpa using this
  ·rintro r w' ⟨rfl,rfl⟩
   rw [List.take_length];exact ⟨rfl,rfl⟩
 ·obtain rfl:l=[]:=List.eq_nil_of_length_eq_zero (by omega)
  refine (Tryz.slices_Contains_int_empty a cap x w).mono ?_
  rintro r w' ⟨rfl,rfl⟩
  exact ⟨rfl,rfl⟩
theorem met1_calls (l:List Int) (v:Value) (x:Int) (B:Nat) (w:World) (h:Ints w v l) (hb:Blk w B #[.int .i64 x] 3) :
  Calls Tryz.prog 107 #[v,.pointer (some ⟨B,0,none⟩)] w fun r w'=>r=.returned (.bool (!l.contains x))/\Ext w w':=by
 have HC:=Jh (contains_calls l v x w h)
 have y0:=hb.has 0 _ rfl
 go_enter Tryz.func107,Tryz.ntmps107
 go_wp2_with (first | (go_at_call 108;refine HC.out.mono ?_;rintro r w1 ⟨rfl,rfl⟩))
 go_ret
 exact ⟨ret_bool (by simp),Below.refl _ _⟩
theorem metM_any (ls:List (List Int)) (x:Int):(!(ls.any fun m=>!m.contains x))=(ls.all fun m=>m.contains x):=by
 induction ls with
 | nil=>rfl
 | cons y ls ih=>rw [List.any_cons,List.all_cons,<-ih];cases y.contains x<;>simp
theorem met_calls (ls:List (List Int)) (v:Value) (w:World) (h:IntsL w v ls) (h0:0<ls.length) (hlen:(ls.headD []).length<=1073741824) :
  Calls Tryz.prog 70 #[v] w fun r w'=>∃ u,r=.returned u/\IntRow w.heap.size u (metM ls) w'/\Ext w w':=by
 have HL:=Jh h
 obtain ⟨a,b,o,cap,rfl,hc1,hc2,ha,hr⟩:=h.open
 obtain rfl:=ha h0
 obtain ⟨x0,hx0⟩:∃ x0,ls.headD []=x0:=⟨_,rfl⟩
 have hg0:ls[0]? = some x0:=by
  cases ls with
  | nil=>simp at h0
  | cons y ls=>simp at hx0;subst hx0;rfl
 obtain ⟨u,he1,he2⟩:=hr.get hg0
 rw [Nat.zero_mul,Nat.add_zero] at he1
 have y0:=he1 0 _ rfl
 rw [Nat.add_zero] at y0
 rw [hx0] at hlen
 obtain ⟨p,hp⟩:∃ p,(fun x:Int=>ls.all fun m=>m.contains x)=p:=⟨_,rfl⟩
 have hmet:metM ls=x0.filter p:=by unfold metM;rw [hx0,hp]
 have HMET:=Jh hmet
 have HPE:=Jh hp
 obtain ⟨a0,b0,o0,cap0,rfl,hd1,hd2,hb,hr0⟩:=he2.open
 have HB:=Jh hb
 have HR0:=Jh hr0
 clear hr hx0 hg0 he1 he2 hp hmet hb hr0 ha
 go_enter Tryz.func70,Tryz.ntmps70
 go_wp2_with fail
 refine wp_loop (fun a wr=>∃ (k:Nat) (u x5 x11 x12 x13 x14 x15 x16 x17 x18 x19 x20 x21 x22:Value),a=⟨#[.slice (some ⟨b,o,Option.none⟩) ls.length cap,undef,.slice Option.none 0 0,u,undef,x5,.slice (some ⟨b,o,Option.none⟩) ls.length cap,.pointer (some ⟨b,o,Option.none⟩),.slice a0 x0.length cap0,.int .i64 x0.length,.int .i64 (k:Int),x11,x12,x13,x14,x15,x16,x17,x18,x19,x20,x21,x22,undef],[]⟩ /\
  k<=x0.length/\IntRow w.heap.size u ((x0.take k).filter p) wr/\Ext w wr) (fun a _=>x0.length-(intOf (a.tmps.getD 10 undef)).toNat)
  ⟨0,_,_,_,_,_,_,_,_,_,_,_,_,_,_,rfl,Nat.zero_le _,IntRow.nil _ _,Below.refl _ _⟩ ?_
 rintro a wr ⟨k,u,x5,x11,x12,x13,x14,x15,x16,x17,x18,x19,x20,x21,x22,rfl,hk,hrow,hx⟩
 have HROW:=Jh hrow
 have HX:=Jh hx
 have hsz:=hx.size
 obtain ⟨au,cu,hu,hun⟩:=hrow.open
 obtain ⟨ln,hln⟩:∃ ln,((x0.take k).filter p).length=ln:=⟨_,rfl⟩
 have hlnb:ln<=k:=by
  rw [<-hln]
  refine Nat.le_trans (List.length_filter_le _ _) ?_
  simp;omega
 rw [hln] at hu
 have HLN:=Jh hln
 clear hrow hx hun hln
 subst hu
 by_cases hlt:k<x0.length
 ·obtain rfl:=HB.out (by omega)
  have hhas:Has w b0 (o0+k*1) [.int .i64 x0[k]]:=HR0.out.get (List.getElem?_eq_getElem hlt)
  have hstep:(x0.take (k+1)).filter p=(x0.take k).filter p++(if p x0[k]=true then [x0[k]] else []):=by
   rw [take_snoc _ _ hlt,List.filter_append]
   by_cases hq:p x0[k]=true
   ·rw [if_pos hq];simp [hq]
   ·rw [if_neg hq];simp [hq]
  generalize x0[k]=x at *
  generalize (x0.take k).filter p=pre at *
  have HSTEP:=Jh hstep
  have y1:=(hhas.ext HX.out) 0 _ rfl
  rw [Nat.mul_one,Nat.add_zero] at y1
  clear hstep hhas
  have hx4:=ext_alloc wr (.cells #[.int .i64 x] 3)
  have hb4:=Blk.new wr #[.int .i64 x] 3
  have hr4:=HROW.out.ext hx4
  have hs4:(wr.alloc (.cells #[.int .i64 x] 3)).heap.size=wr.heap.size+1:=by simp
  go_upto_region 5 with fail
  have HLI:=Jh (HL.out.ext (HX.out.trans hx4))
  have hpx:p x = !(ls.any fun m=>!m.contains x):=by rw [metM_any,<-HPE.out]
  generalize wr.alloc _=w4 at *
  have HCF:=Jh (ContainsFunc_Ints 107 #[.pointer (some ⟨wr.heap.size,0,none⟩)] (fun m=>!m.contains x) ls _ w4 HLI.out leads_met1 (fun wr' hx' k hk u hu=>met1_calls ls[k] u x wr.heap.size wr' hu (hb4.ext hx')))
  have HPX:=Jh hpx
  clear hpx
  obtain ⟨q,hq⟩:∃ q,(ls.any fun m=>!m.contains x)=q:=⟨_,rfl⟩
  have hcf:=HCF.out
  have hpx:=HPX.out
  rw [hq] at hcf hpx
  have HCG:=Jh hcf
  have HPQ:=Jh hpx
  clear hcf hpx hq HCF HPX
  cases q
  ·go_upto_region 6 with (first | (go_at_call 106;refine HCG.out.mono ?_;rintro r w5 ⟨rfl,hx5⟩))
   have hb5:=hb4.ext hx5
   have hr5:=hr4.ext hx5
   have hx6:=ext_alloc w5 (.cells [Value.int .i64 x].toArray 3)
   have hb6:=Blk.new w5 [Value.int .i64 x].toArray 3
   have hr6:=hr5.ext hx6
   have y6:=hb5.has 0 _ rfl
   have hs6:=hx5.size
   go_wp2_with (first | ((with_reducible show Jw (Op.buildSlice _ _ _));refine wpList_bs1 rfl _ _ rfl appInt rfl (cs:=[Value.int .i64 x]) rfl rfl (by decide) ?_) | ((with_reducible show Jw (Op.call { callee:=.builtin .append,args:=_,argTypes:=_ }));refine Hid.out ?_))
   refine Jh ?_
   have hs7:(w5.alloc (.cells [Value.int .i64 x].toArray 3)).heap.size=w5.heap.size+1:=by simp
   refine wpList_appI (m:=1) (news:=[x]) rfl _ _ rfl rfl hr6 rfl (fun _=>Nat.lt_of_lt_of_le Nat.zero_lt_one (Nat.le_refl 1)) rfl (news_has hb6.has) (by rw [HLN.out];omega) (by omega) ?_
   intro g7 cap7 w7 hrow7 hg7
   generalize w5.alloc _=w6 at *
   have hx7:Ext w w7:=Below.grown ((HX.out.trans hx4).trans (hx5.trans hx6)) hg7 ((HX.out.trans hx4).trans (hx5.trans hx6)).size (fun k hk=>(hr6.at hk).1)
   have hrow8:IntRow w.heap.size (Value.slice (some ⟨g7,0,none⟩) (pre.length+1) cap7) ((x0.take (k+1)).filter p) w7:=by
    rw [HSTEP.out,if_pos (by rw [HPQ.out];rfl)];exact hrow7
   have HR8:=Jh hrow8
   clear hrow7 hrow8 hg7 hb6 hr6 hx6 hs6 hs7 y6 hb5 hr5 hr4 hb4 hs4
   go_wp2_with fail
   exact ⟨⟨k+1,_,_,_,_,_,_,_,_,_,_,_,_,_,_,rfl,by omega,HR8.out,hx7⟩,by simp [intOf];omega⟩
  ·go_wp2_with (first | (go_at_call 106;refine HCG.out.mono ?_;rintro r w5 ⟨rfl,hx5⟩))
   have hrow8:IntRow w.heap.size (Value.slice au ln cu) ((x0.take (k+1)).filter p) w5:=by
    rw [HSTEP.out,if_neg (by rw [HPQ.out];decide),List.append_nil];exact hr4.ext hx5
   exact ⟨⟨k+1,_,_,_,_,_,_,_,_,_,_,_,_,_,_,rfl,by omega,hrow8,(HX.out.trans hx4).trans hx5⟩,by simp [intOf];omega⟩
 ·obtain rfl:k=x0.length:=by omega
  rw [List.take_length] at HROW HLN
  go_wp2_with fail
  go_ret
  exact ⟨_,rfl,by rw [HMET.out];exact HROW.out,HX.out⟩
def sizeE:E->Int->Except Int E
 | ⟨op,w0,v,sig,hi,lo,n,l⟩,w =>
  let own0:=own ⟨op,w0,v,sig,hi,lo,n,l⟩
  if w = -1/\1<own0 then .error 91
  else
   let w2:=told (if w = -1 then 1 else w) (told own0 32)
   if op=1/\w0=0 then (if holds w2 v then .ok ⟨1,w2,v,0,0,0,0,[]⟩ else .error 92)
   else match wantedL ⟨op,w0,v,sig,hi,lo,n,l⟩ w2 with
    | none=>.error 90
    | some ps=>match sizeL l ps with
     | .error f=>.error f
     | .ok l' =>
      if op=8/\(n=33/\hdW l'<w2\/n≠33/\w2<hdW l') then .error 90
      else .ok ⟨op,w2,v,sig,hi,lo,n,l'⟩
where
 sizeL:List E->List Int->Except Int (List E)
  | [],_=>.ok []
  | e::l,ps=>match sizeE e (ps.headD 0) with
   | .error f=>.error f
   | .ok x=>match sizeL l ps.tail with
    | .error f=>.error f
    | .ok r=>.ok (x::r)
 hdW:List E->Int
  | []=>0
  | e::_=>e.w
theorem sizeL_snoc (l:List E):∀ (k:Nat) (ps:List Int) (h:k<l.length),sizeE.sizeL (l.take (k+1)) ps =
  (match sizeE.sizeL (l.take k) ps with
   | .error f=>.error f
   | .ok r=>match sizeE l[k] (ps[k]?.getD 0) with
    | .error f=>.error f
    | .ok x=>.ok (r++[x])):=by
 induction l with
 | nil=>intro k ps h;simp at h
 | cons e l ih =>
  intro k ps h
  cases k with
  | zero =>
   simp only [List.take_succ_cons,List.take_zero,sizeE.sizeL]
   cases ps<;>simp<;>cases sizeE e _<;>rfl
  | succ k =>
   simp only [List.take_succ_cons,sizeE.sizeL]
   cases he:sizeE e (ps.headD 0) with
   | error f=>rfl
   | ok x =>
    simp only
    have hk:k<l.length:=by simpa using h
    rw [ih k ps.tail hk]
    have:ps.tail[k]? = ps[k+1]?:=by simp
    rw [this]
    cases sizeE.sizeL (l.take k) ps.tail with
    | error f=>rfl
    | ok r =>
     simp only [Jc]
     cases sizeE l[k] (ps[k+1]?.getD 0)<;>rfl
theorem sizeL_error (l:List E) (k:Nat) (ps:List Int) (h:k<l.length) (r:List E) (hr:sizeE.sizeL (l.take k) ps=.ok r) (f:Int) (hf:sizeE l[k] (ps[k]?.getD 0)=.error f):sizeE.sizeL l ps=.error f:=by
 induction l generalizing k ps r with
 | nil=>simp at h
 | cons e l ih =>
  cases k with
  | zero =>
   simp only [Jb] at hf
   have:ps.headD 0=ps[0]?.getD 0:=by cases ps<;>rfl
   rw [sizeE.sizeL,this,hf]
  | succ k =>
   simp only [List.take_succ_cons,sizeE.sizeL] at hr ⊢
   cases he:sizeE e (ps.headD 0) with
   | error f'=>simp only [he] at hr;cases hr
   | ok x =>
    simp only [he] at hr ⊢
    have hk:k<l.length:=by simpa using h
    cases h2:sizeE.sizeL (l.take k) ps.tail with
    | error f'=>simp only [h2] at hr;cases hr
    | ok r' =>
     rw [ih k ps.tail (by simpa using h) r' h2 (by simpa using hf)]
theorem sizeE_eq (e:E) (w:Int):sizeE e w =
  (if w = -1/\1<own e then .error 91
  else
   if e.op=1/\e.w=0 then (if holds (told (if w = -1 then 1 else w) (told (own e) 32)) e.v then .ok ⟨1,told (if w = -1 then 1 else w) (told (own e) 32),e.v,0,0,0,0,[]⟩ else .error 92)
   else match wantedL e (told (if w = -1 then 1 else w) (told (own e) 32)) with
    | none=>.error 90
    | some ps=>match sizeE.sizeL e.l ps with
     | .error f=>.error f
     | .ok l' =>
      if e.op=8/\(e.n=33/\sizeE.hdW l'<told (if w = -1 then 1 else w) (told (own e) 32)\/e.n≠33/\told (if w = -1 then 1 else w) (told (own e) 32)<sizeE.hdW l') then .error 90
      else .ok ⟨e.op,told (if w = -1 then 1 else w) (told (own e) 32),e.v,e.sig,e.hi,e.lo,e.n,l'⟩):=by
 cases e;rw [sizeE]
/-! ### a row of structs of the call's own, filled from the front -/
def flat (css:List (List Value)):List Value:=css.flatten
theorem flat_len {css:List (List Value)} {n:Nat} (h:∀ cs∈css,cs.length=n):css.flatten.length=css.length*n:=by
 induction css with
 | nil=>simp
 | cons c l ih=>simp [h c (by simp),ih (fun x hx=>h x (by simp [hx])),Nat.add_mul];omega
theorem wpList_store_row {P:Program} {ops:Array Oper} {rest:List Oper} {o:Oper} {a:Act} {w:World} {Q:Exit->Act->World->Prop} (hw:Region.wanted o (yielded ops a.tmps)=true)
  (ty:TypeId) (x y:Operand) (ho:o.op=.store ty x y) {pre old post:List Value} {B off:Nat} (hb:Blk w B (pre++old++post).toArray ty) (hx:a.eval x=.pointer (some ⟨B,off,none⟩)) (hoff:pre.length=off) {cs:List Value} (hy:a.eval y=.agg cs.toArray) {n:Nat}
  (hu:Agg P ty n) (hn:cs.length=n) (hc:old.length=n) (h1:cs.all (·.oneCell')=true)
  (h:∀ w',Blk w' B (pre++cs++post).toArray ty->w.grownBy w' (some B)->wpList P ops Q rest (a.put o.dst undef) w'):wpList P ops Q (o::rest) a w :=
 BigFrame.wpList_want hw fun _ hK=>by
  subst hoff
  subst hn
  unfold Oper.wp execOp
  simp only [ho,hx,hy]
  have hs:=run_storeCells_at (P:=P) B pre.length ty cs 0 _ w hb (by simp;omega) (fun v hv=>by simpa using (List.all_eq_true.1 h1) v hv)
  have e:((pre++old++post).toArray.toList.take (pre.length+0)++cs++(pre++old++post).toArray.toList.drop (pre.length+0+cs.length)).toArray=(pre++cs++post).toArray:=by
   congr 1
   simp only [Nat.add_zero,List.append_assoc]
   rw [List.take_left' rfl,<-hc,<-List.append_assoc pre old,List.drop_left' (by simp)]
  rw [e] at hs
  have hi:(P.info? ty).map (·.size)=some cs.length:=hu.2
  cases hq:P.info? ty with
  | none=>simp [hq] at hi
  | some i =>
   simp only [hq,Option.map_some,Option.some.injEq] at hi
   have:(storeVar ty ⟨B,pre.length,none⟩ (.agg cs.toArray)).run P w=.ok () (w.setRow B (pre++cs++post).toArray):=by
    simp [storeVar,sizeOf,typeInfo,hq,Value.cells,hi,hs]
   simp only [Instr.storeAt,Instr.sureAddr,Sem.run_bind,Sem.run_pure,Result.andThen_ok,this]
   exact hK _ _ (h _ (setRow_blk hb) (gb_setRow w B _))
end Go.Proofs.YtpngepnfinbaoaaGreat
