/- Laws and walks that a claim of this seat leans on: AppSeq, Ints, Met, SizeM. -/
import Derived.Test.YtbliplladmamoaaGreatSParts
import Derived.Test.YtbliplladmamoaaGreatS03
import Derived.RangeFuncNested
import Derived.Test.YtbliplladmamoaaGreatShelf
import Derived.Sort.OwnSortedInts
import Derived.Lib.OwnBridge
import Derived.Lib.RowBridge
import Derived.Shelf.Slices.In.SortNone
import Derived.Test.YtbliplladmamoaaGreatSWant
import Derived.Test.YtbliplladmamoaaGreatS00
set_option maxRecDepth 100000
set_option maxHeartbeats 8000000
set_option linter.all false
namespace Go.Proofs.YtbliplladmamoaaGreat
open Go.RowKit
/-! ### own, and slices.AppendSeq of spans -/
theorem Km:H7 Tryz.prog 64 70 3 24:=⟨Tryz.underlying64,by kernel_rfl,by decide,by decide⟩
def Fh (t:T):Cb:=⟨t.sig,t.hi,t.lo⟩
theorem Nm (t:T) (s1 s2:Value) (h1:s1.oneCell'=true) (h2:s2.oneCell'=true) (w:World) :
  Calls Tryz.prog 32 #[.agg (t.cells s1 s2).toArray] w fun r w'=>r=.returned (.agg (Fh t).cells.toArray)/\Ext w w':=by
 go_enter Tryz.func32,Tryz.ntmps32
 go_upto_region 1 with fail
 have j:=(Blk.new w (t.cells s1 s2).toArray 44).ext (Ab _ (.cells #[.int .i64 0,.int .i64 0,.int .i64 0] 70))
 have u:=Blk.new (w.alloc (.cells (t.cells s1 s2).toArray 44)) #[.int .i64 0,.int .i64 0,.int .i64 0] 70
 have hx:=(Ab w (.cells (t.cells s1 s2).toArray 44)).trans (Ab _ (.cells #[.int .i64 0,.int .i64 0,.int .i64 0] 70))
 rw [show (w.alloc (.cells (t.cells s1 s2).toArray 44)).heap.size=w.heap.size+1 by simp] at u
 have g1:=j.has 1 _ rfl
 have g2:=j.has 2 _ rfl
 have g3:=j.has 3 _ rfl
 go_wp2_with ((with_reducible show Js 70);refine Ac rfl 70 _ _ rfl u rfl (cs:=(Fh t).cells) rfl Ha rfl rfl (by simp [Bc]) ?_;intro w7 aa ab)
 refine Av rfl rfl aa.has Ha rfl rfl ⟨rfl,?_⟩
 exact Ext.grown hx ab (by omega)
def Ci (N:Nat) (v:Value) (xs:List Cb) (w:World):Prop:=w.ownsRow N 70 3 v xs.length (xs.map Cb.cells).flatten
theorem Ci.nil (N:Nat) (w:World):Ci N (.slice none 0 0) [] w:=World.ownsRow_nil _ _ _ _
theorem Ci.open {N:Nat} {v:Value} {xs:List Cb} {w:World} (h:Ci N v xs w):∃ a cap,v=.slice a xs.length cap:=by
 rcases h.2 with ⟨rfl,h0⟩ | ⟨g,cap,j,rfl,-⟩
 ·exact ⟨none,0,by rw [h0]⟩
 ·exact ⟨_,cap,rfl⟩
theorem Ci.at {N:Nat} {v:Value} {xs:List Cb} {w:World} (h:Ci N v xs w) {k:Nat} (hk:v.ownBlock=some k):N<=k/\∃ j,w.heap[k]? = some (.cells j 70 (0,0)):=by
 rcases h.2 with ⟨rfl,h0⟩ | ⟨g,cap,j,rfl,hb,hg,-⟩
 ·cases hk
 ·cases hk;exact ⟨hb,j,hg⟩
theorem Ci.keep {N:Nat} {v:Value} {xs:List Cb} {w w':World} (h:Ci N v xs w) (hk:∀ k,v.ownBlock=some k->∀ o,w.heap[k]? = some o->w'.heap[k]? = some o):Ci N v xs w':=by
 refine ⟨h.1,?_⟩
 rcases h.2 with hn | ⟨g,cap,j,rfl,hb,hg,rest⟩
 ·exact .inl hn
 ·exact .inr ⟨g,cap,j,rfl,hb,hk g rfl _ hg,rest⟩
theorem Ci.ext {N:Nat} {v:Value} {xs:List Cb} {w w':World} (h:Ci N v xs w) (hx:Ext w w'):Ci N v xs w' :=
 h.keep fun k _ _ ho=>(hx.block k (Array.getElem?_eq_some_iff.1 ho).1).trans ho
theorem Ci.grown {N:Nat} {v:Value} {xs:List Cb} {w w':World} {R:Option Nat} (h:Ci N v xs w) (hg:w.grownBy w' R) (hR:∀ k,v.ownBlock=some k->some k≠R):Ci N v xs w' :=
 h.keep fun k hk _ ho=>(hg.block k (Array.getElem?_eq_some_iff.1 ho).1 (hR k hk)).trans ho
theorem Qf {A B:World} {N M:Nat} {v:Value} {xs:List Cb} {u:Option Nat} (h:Ci N v xs A) (hg:A.grownBy B u) (hr:∀ r,u=some r->M<=r/\∃ o:Obj,A.heap[r]? = some o/\o.isCells=false):Ci N v xs B :=
 h.grown hg fun k hk e=>by
  obtain ⟨-,o,ho,hc⟩:=hr k e.symm
  obtain ⟨-,aa,j⟩:=h.at hk
  rw [j] at ho;cases ho;cases hc
theorem Ci.ne {N B:Nat} {v u:Value} {xs:List Cb} {w:World} (h:Ci N v xs w) (hb:Blk w B #[u] 64) {k:Nat} (hk:v.ownBlock=some k):k≠B:=by
 rintro rfl
 obtain ⟨-,aa,j⟩:=h.at hk
 have h2:w.heap[k]? = some (.cells #[u] 64 (0,0)):=hb
 rw [j] at h2
 injection h2 with h2
 injection h2 with _ h2
 exact absurd h2 (by decide)
theorem Ci.neT {N B:Nat} {v:Value} {cs:Array Value} {T:TypeId} {xs:List Cb} {w:World} (h:Ci N v xs w) (hb:Blk w B cs T) (hT:(T==70)=false) {k:Nat} (hk:v.ownBlock=some k):k≠B:=by
 rintro rfl
 obtain ⟨-,u,j⟩:=h.at hk
 have h2:w.heap[k]? = some (.cells cs T (0,0)):=hb
 rw [j] at h2
 injection h2 with h2
 injection h2 with _ h2
 subst h2
 exact absurd hT (by decide)
theorem Seq.hard {P:Program} {n0:Nat} {g:FuncId} {lb:Array Value} {xs:List (List Value)} {w w':World} (h:Seq P n0 g lb xs w) (hh:Be n0 w w'):Seq P n0 g lb xs w' :=
 fun l J W hW h1 h2 h3 h4 h5=>h l J W (hh.trans hW) h1 h2 h3 h4 h5
theorem Cs {B:Nat} {W W':World} {R:Option Nat} (hg:W.grownBy W' R) (hR:∀ k,R=some k->∃ c t f,W.heap[k]? = some (Obj.cells c t f)):KeepsFrom B W W' :=
 ⟨hg.size,fun k o _ ho hc=>(hg.block k (Array.getElem?_eq_some_iff.1 ho).1 (fun e=>by
  obtain ⟨c,t,f,h⟩:=hR k e.symm
  rw [h] at ho;cases ho;cases hc)).trans ho⟩
theorem Acr {xs zs:List Cb} (h:xs.map Cb.cells=zs.map Cb.cells):xs=zs:=by
 induction xs generalizing zs with
 | nil=>cases zs with
  | nil=>rfl
  | cons=>simp at h
 | cons x xs ih=>cases zs with
  | nil=>simp at h
  | cons z zs =>
   simp only [List.map_cons,List.cons.injEq] at h
   obtain ⟨h1,h2⟩:=h
   rw [ih h2]
   cases x;cases z
   simp only [Cb.cells,List.cons.injEq,Value.int.injEq,true_and,and_true] at h1
   obtain ⟨rfl,rfl,rfl⟩:=h1
   rfl
theorem Lt {w:World} {B:Nat} {cs:List Value} (h:Has w B 0 cs):∀ j u,cs[j]? = some u->w.cell? ((⟨B,0,none⟩:Addr).add j)=some u:=by
 intro j u hj
 have aa:(⟨B,0,none⟩:Addr).add j=⟨B,j,none⟩:=by unfold Addr.add;split<;>simp_all
 have:=h j u hj
 rw [aa];rwa [Nat.zero_add] at this
theorem Kz {g:Nat} {lb:Array Value} (hg:Bj Tryz.prog g) (n0:Nat) (v:Value) (ys xs:List Cb) (w:World) (hn:n0<=w.heap.size) (ao:Seq Tryz.prog n0 g lb (xs.map Cb.cells) w) (ak:Ci n0 v ys w)
  (hb:ys.length+xs.length<=16777216) {Bk:Nat} {bc:Array Value} {bT:TypeId} (ax:Blk w Bk bc bT) (aw:(bT==70)=false) :
  Calls Tryz.prog 28 #[v,.func (.func g) #[] lb] w fun r w'=>∃ v',r=.returned v'/\Ci n0 v' (ys++xs) w'/\Be n0 w w'/\KeepsFrom 0 w w'/\Blk w' Bk bc bT:=by
 have bm:=ax.lt
 have a4:=Jh aw
 clear aw
 obtain ⟨a0,ag,rfl⟩:=ak.open
 have hX:=Ab w (.cells #[.slice a0 ys.length ag] 64)
 have ba:=Blk.new w #[.slice a0 ys.length ag] 64
 have bg:=ak.ext hX
 have bj:(w.alloc (.cells #[.slice a0 ys.length ag] 64)).heap.size=w.heap.size+1:=by simp
 have a1:=ao.hard (Be.of_ext hX hn)
 have a7:=Be.of_ext hX hn
 have a6:=Jh a1
 clear ao a1 ak
 refine callsIn_wide.1 (callsIn_of_wp_marks (n:=0) Tryz.func28 rfl trivial ?_);rw [wpIn_wide];simp only [Tryz.ntmps28,List.size_toArray,List.length_cons,List.length_nil,Nat.reduceAdd,Nat.reduceSub,Array.replicate_succ,Array.replicate_zero,List.push_toArray,List.append_toArray,List.nil_append,List.cons_append]
 go_wp2_with fail
 generalize w.alloc _=w1 at *
 have hI:OwnFrom w1.heap.size (fun (j:List (List Value)) (Wx:World)=>∃ (u:Value) (zs:List Cb),j=zs.map Cb.cells/\Blk Wx w.heap.size #[u] 64/\Ci n0 u (ys++zs) Wx/\Be n0 w Wx/\w.heap.size<Wx.heap.size/\KeepsFrom 0 w Wx/\Blk Wx Bk bc bT):=by
  rintro j A B al ⟨u,zs,h1,h2,h3,h4,h5,h6,h9⟩ hg hr
  exact ⟨u,zs,h1,Du h2 hg hr,Qf h3 hg hr,Fb h4 (by omega) (by omega) hg hr,Gt h5 hg,ownFrom_keepsFrom (β:=Unit) (show w.heap.size<=w1.heap.size by omega) () A B al h6 hg hr,Du h9 hg hr⟩
 refine Mc (n0:=n0) rfl hg a6.out rfl (by omega)
  (fun j Wx=>∃ (u:Value) (zs:List Cb),j=zs.map Cb.cells/\Blk Wx w.heap.size #[u] 64/\Ci n0 u (ys++zs) Wx/\Be n0 w Wx/\w.heap.size<Wx.heap.size/\KeepsFrom 0 w Wx/\Blk Wx Bk bc bT) hI
  ⟨_,[],rfl,ba,by simpa using bg,a7,by omega,Bh hX,ax.ext hX⟩
  (fun j x aM Wx=>(∃ (u:Value) (zs:List Cb),j=zs.map Cb.cells/\Blk Wx w.heap.size #[u] 64/\Ci n0 u (ys++zs) Wx/\Be n0 w Wx/\w.heap.size<Wx.heap.size/\KeepsFrom 0 w Wx/\Blk Wx Bk bc bT)/\∃ (U:Nat) (sp:Cb),x=sp.cells/\Blk Wx U x.toArray 70/\aM=⟨#[.slice a0 ys.length ag,.func (.func g) #[] lb,.pointer (some ⟨w.heap.size,0,Option.none⟩),undef,.slice Option.none 0 0,.pointer (some ⟨U,0,Option.none⟩),.func (.func g) #[] lb,.agg x.toArray,undef,undef,undef,undef,undef],[]⟩)
  (fun j x aM s A B al hs hg hr=>⟨hI j A B al hs.1 hg hr,by
   obtain ⟨U,sp,h1,h2,h3⟩:=hs.2
   exact ⟨U,sp,h1,Du h2 hg hr,h3⟩⟩) ?assign ?body ?done
 case assign =>
  rintro l' m j x Wx ⟨u,zs,h1,h2,h3,h4,h5,h6,h9⟩ ⟨ar,aq⟩ hsz
  obtain ⟨sp,-,rfl⟩:=List.mem_map.1 (show x∈xs.map Cb.cells by rw [aq];simp)
  refine Bu (r:=some l') (by kernel_rfl) (by rintro ⟨_,_,h⟩;exact h) ?_
  have af:=Ab Wx (.cells sp.cells.toArray 70)
  have a9:=Blk.new Wx sp.cells.toArray 70
  go_wp2_with (first | ((with_reducible show Js 70);refine Ad rfl 70 _ _ rfl rfl (by first | rfl | simp) rfl Ha (rfl) rfl (by simp [Bc]) ?_))
  exact ⟨Bh af,Be.of_ext af (by omega),⟨u,zs,h1,h2.ext af,h3.ext af,h4.trans (Be.of_ext af (by omega)),by simp;omega,h6.trans (Bh af),h9.ext af⟩,Wx.heap.size,sp,rfl,a9,rfl⟩
 case body =>
  rintro l' m j x aM Wx ⟨⟨u,zs,rfl,h2,h3,h4,h5,h6,h9⟩,U,sp,rfl,hU,rfl⟩ ⟨ar,aq⟩ hsz
  have bl:zs.length+1<=xs.length:=by have:=congrArg List.length aq;simp at this;omega
  obtain ⟨au,cu,hu⟩:=h3.open
  subst hu
  refine wpIn_block ?_
  refine Bu (r:=some l') (by kernel_rfl) (by rintro ⟨_,_,h⟩;exact h) ?_
  have g0:=h2.has 0 _ rfl
  have ab:=Ab Wx (.cells sp.cells.toArray 70)
  have a8:=Blk.new Wx sp.cells.toArray 70
  have am:=h2.ext ab
  have aa:=h3.ext ab
  obtain ⟨n,an⟩:∃ n,(ys++zs).length=n:=⟨_,rfl⟩
  have a5:Hid (n=ys.length+zs.length):=Jh (by rw [<-an,List.length_append])
  have bf:World.ownsRow (Wx.alloc (.cells sp.cells.toArray 70)) n0 70 3 (.slice au n cu) n ((ys++zs).map Cb.cells).flatten:=by unfold Ci at aa;rw [an] at aa;exact aa
  rw [an] at g0 aa am h2 h3
  clear an
  go_wp2_with (first | ((with_reducible show Jl 70);refine Aa rfl 70 _ rfl rfl (hU.has) Ha rfl ?_) | ((with_reducible show Jw (Op.buildSlice _ _ _));refine B9 rfl _ _ rfl Km rfl (cs:=sp.cells) rfl rfl (by decide) ?_) | ((with_reducible show Jw (Op.call { callee:=.builtin .append,args:=_,argTypes:=_ }));refine Hid.out ?_))
  refine Jh ?_
  have ah:=a5.out
  refine Nt (m:=1) (news:=sp.cells) (n:=n) (base:=n0) (v:=.slice au n cu) rfl _ _ _ rfl Km rfl bf rfl (fun _=>Nat.lt_of_lt_of_le Nat.zero_lt_one (Nat.le_refl 1)) rfl (Lt a8.has) (by simp [Bc]) (by omega) (by simp;omega) ?_
  intro g7 aj w7 ap ae bk
  have bo:(Wx.alloc (.cells sp.cells.toArray 70)).heap.size=Wx.heap.size+1:=by simp
  generalize Wx.alloc _=w6 at *
  have ac:Blk w7 w.heap.size #[.slice au n cu] 64:=(ae.block _ am.lt (fun e=>aa.ne am e.symm rfl)).trans am
  have a2:Ci n0 (.slice (some ⟨g7,0,none⟩) (n+1) aj) (ys++(zs++[sp])) w7:=by
   unfold Ci
   rw [show (ys++(zs++[sp])).length=n+1 by simp;omega,show ((ys++(zs++[sp])).map Cb.cells).flatten=((ys++zs).map Cb.cells).flatten++sp.cells by simp]
   exact ap
  have bd:Blk w7 Bk bc bT:=(ae.block _ (h9.ext ab).lt (fun e=>aa.neT (h9.ext ab) a4.out e.symm rfl)).trans (h9.ext ab)
  have z0:=ac.has 0 _ rfl
  have z1:=ac.frozen 0
  have a3:=ac.set 0 (.slice (some ⟨g7,0,none⟩) (n+1) aj)
  have ai:=Ay w7 w.heap.size 0 (.slice (some ⟨g7,0,none⟩) (n+1) aj)
  have be:=bd.grown ai (by omega)
  have bi:=a2.grown ai (fun k hk e=>a2.ne ac hk (by cases e;rfl))
  have bb:=((Bh (B:=0) ab).trans (Cs ae fun k hk=>by obtain ⟨-,av,h⟩:=aa.at hk;exact ⟨_,_,_,h⟩)).trans (Cs ai fun k hk=>by cases hk;exact ⟨_,_,_,ac⟩)
  have az:=((Bh (B:=w1.heap.size) ab).trans (Cs ae fun k hk=>by obtain ⟨-,av,h⟩:=aa.at hk;exact ⟨_,_,_,h⟩)).trans (Cs ai fun k hk=>by cases hk;exact ⟨_,_,_,ac⟩)
  have ay:=((Be.of_ext ab (by omega)).trans (Be.of_gb (n0:=n0) ae (by omega) fun k hk=>by obtain ⟨q1,av,h⟩:=aa.at hk;exact ⟨q1,fun c t f hc=>by rw [h] at hc;cases hc;rfl⟩)).trans (Be.of_gb ai (by have:=ae.size;omega) fun k hk=>by cases hk;exact ⟨hn,fun c t f hc=>by rw [show w7.heap[w.heap.size]? = _ from ac] at hc;cases hc;rfl⟩)
  have bp:=ae.size
  clear ah
  go_wp2_with fail
  rw [bj] at az
  exact ⟨az,ay,_,zs++[sp],by simp,a3,bi,h4.trans ay,by have:=ai.size;omega,h6.trans bb,be⟩
 case done =>
  rintro M Wx hM ⟨u,zs,h1,h2,h3,h4,h5,h6,h9⟩ hh hdef
  obtain rfl:=Acr h1
  obtain ⟨au,cu,hu⟩:=h3.open
  subst hu
  have g0:=h2.has 0 _ rfl
  go_wp2_with fail
  refine Gp (B:=w1.heap.size) (fun _ Wx=>Ci n0 (.slice au (ys++xs).length cu) (ys++xs) Wx/\Be n0 w Wx/\w1.heap.size<=Wx.heap.size/\KeepsFrom 0 w Wx/\Blk Wx Bk bc bT) (fun s A B al hs hg hr=>⟨Qf hs.1 hg hr,Fb hs.2.1 (by omega) (by have:=hs.2.2.1;omega) hg hr,Nat.le_trans hs.2.2.1 hg.size,ownFrom_keepsFrom (β:=Unit) (show w.heap.size<=w1.heap.size by omega) () A B al hs.2.2.2.1 hg hr,Du hs.2.2.2.2 hg hr⟩) ?_ _ Wx (C2.cons (ds:=[]) (C2.nil _ _) (M:=M) (fun D hD=>by cases hD) (Nat.le_refl _) hM hdef) ⟨h3,h4,by omega,h6,h9⟩
  rintro Wx ⟨q1,q2,q3,q4,q5⟩
  exact ⟨.slice au (ys.length+xs.length) cu,by simp [results,Tryz.results28,go_sem],_,rfl,by rw [List.length_append] at q1;exact q1,q2,q4,q5⟩
open Go.RowKit Go.Sort
/-! ### rows of numbers -/
abbrev Ints (w:World) (v:Value) (l:List Int):Prop:=Sl 1 (fun (x:Int) b o=>Has w b o [.int .i64 x]) v l
abbrev Ac8 (w:World) (v:Value) (l:List Cb):Prop:=Sl 3 (fun (x:Cb) b o=>Has w b o x.cells) v l
def Au (N:Nat) (v:Value) (l:List Int) (w:World):Prop:=w.ownsRow N 3 1 v l.length (l.map (Value.int .i64))
theorem Au.nil (N:Nat) (w:World):Au N (.slice none 0 0) [] w:=World.ownsRow_nil _ _ _ _
theorem Au.open {N:Nat} {v:Value} {l:List Int} {w:World} (h:Au N v l w):∃ a cap,v=.slice a l.length cap/\(v.ownBlock=none->l=[]):=by
 rcases h.2 with ⟨rfl,h0⟩ | ⟨g,cap,j,rfl,-⟩
 ·exact ⟨none,0,by rw [h0],fun _=>List.eq_nil_of_length_eq_zero h0⟩
 ·exact ⟨_,cap,rfl,fun h=>by cases h⟩
theorem Au.at {N:Nat} {v:Value} {l:List Int} {w:World} (h:Au N v l w) {k:Nat} (hk:v.ownBlock=some k):N<=k/\∃ j,w.heap[k]? = some (.cells j 3 (0,0)):=by
 rcases h.2 with ⟨rfl,h0⟩ | ⟨g,cap,j,rfl,hb,hg,-⟩
 ·cases hk
 ·cases hk;exact ⟨hb,j,hg⟩
theorem Au.keep {N:Nat} {v:Value} {l:List Int} {w w':World} (h:Au N v l w) (hk:∀ k,v.ownBlock=some k->∀ o,w.heap[k]? = some o->w'.heap[k]? = some o):Au N v l w':=by
 refine ⟨h.1,?_⟩
 rcases h.2 with hn | ⟨g,cap,j,rfl,hb,hg,rest⟩
 ·exact .inl hn
 ·exact .inr ⟨g,cap,j,rfl,hb,hk g rfl _ hg,rest⟩
theorem Au.ext {N:Nat} {v:Value} {l:List Int} {w w':World} (h:Au N v l w) (hx:Ext w w'):Au N v l w' :=
 h.keep fun k _ _ ho=>(hx.block k (Array.getElem?_eq_some_iff.1 ho).1).trans ho
theorem Au.grown {N:Nat} {v:Value} {l:List Int} {w w':World} {R:Option Nat} (h:Au N v l w) (hg:w.grownBy w' R) (hR:∀ k,v.ownBlock=some k->some k≠R):Au N v l w' :=
 h.keep fun k hk _ ho=>(hg.block k (Array.getElem?_eq_some_iff.1 ho).1 (hR k hk)).trans ho
theorem Au.less {N M:Nat} {v:Value} {l:List Int} {w:World} (h:Au N v l w) (hM:M<=N):Au M v l w:=by
 refine ⟨h.1,?_⟩
 rcases h.2 with hn | ⟨g,cap,j,rfl,hb,rest⟩
 ·exact .inl hn
 ·exact .inr ⟨g,cap,j,rfl,Nat.le_trans hM hb,rest⟩
theorem Di {α:Type} {f:α->List Value} {size:Nat} (hf:∀ x,(f x).length=size) {w:World} {b:Nat} (l:List α):∀ o,Has w b o (l.map f).flatten->Rows size (fun x b o=>Has w b o (f x)) l b o:=by
 induction l with
 | nil=>intro o _;trivial
 | cons x l ih =>
  intro o h
  refine ⟨fun j u hj=>?_,ih _ fun j u hj=>?_⟩
  ·refine h j u ?_
   simp only [List.map_cons,List.flatten_cons]
   rw [List.getElem?_append_left (List.getElem?_eq_some_iff.1 hj).1]
   exact hj
  ·have:=h (size+j) u (by
    simp only [List.map_cons,List.flatten_cons]
    rw [List.getElem?_append_right (by rw [hf];omega),hf,Nat.add_sub_cancel_left]
    exact hj)
   rw [<-Nat.add_assoc] at this
   exact this
theorem Ah3 (l:List Int):(l.map fun x=>[Value.int .i64 x]).flatten=l.map (Value.int .i64):=by
 induction l with
 | nil=>rfl
 | cons x l ih=>simp only [List.map_cons,List.flatten_cons,ih];rfl
theorem Hw {w:World} {N g n cap size:Nat} {e:TypeId} {aa:Array Value} {vs:List Value} (hg:w.heap[g]? = some (.cells aa e (0,0))) (ht:aa.toList.take n=vs):Has w g 0 vs:=by
 intro j u hj
 rw [<-ht] at hj
 rw [Nat.zero_add,cell_of_row w g j aa e (0,0) hg]
 rw [List.getElem?_take] at hj
 split at hj
 ·simpa using hj
 ·cases hj
theorem Au.cells {N:Nat} {v:Value} {l:List Int} {w:World} (h:Au N v l w):Ints w v l:=by
 rcases h.2 with ⟨rfl,h0⟩ | ⟨g,cap,ab,rfl,hb,hg,aa,u,ac,j⟩
 ·obtain rfl:l=[]:=List.eq_nil_of_length_eq_zero h0
  exact Sl.nil _ _
 ·refine ⟨g,0,⟨_,cap,rfl,aa,u,fun _=>rfl⟩,Di (f:=fun x=>[Value.int .i64 x]) (fun _=>rfl) l 0 ?_⟩
  have:=Hw (N:=N) (cap:=cap) (size:=1) hg j
  rw [Ah3];exact this
theorem Ci.cells {N:Nat} {v:Value} {l:List Cb} {w:World} (h:Ci N v l w):Ac8 w v l:=by
 rcases h.2 with ⟨rfl,h0⟩ | ⟨g,cap,ab,rfl,hb,hg,aa,u,ac,j⟩
 ·obtain rfl:l=[]:=List.eq_nil_of_length_eq_zero h0
  exact Sl.nil _ _
 ·exact ⟨g,0,⟨_,cap,rfl,aa,u,fun _=>rfl⟩,Di (f:=Cb.cells) (fun _=>rfl) l 0 (Hw (N:=N) (cap:=cap) (size:=3) hg j)⟩
theorem Au.ne {N B:Nat} {v:Value} {cs:Array Value} {T:TypeId} {l:List Int} {w:World} (h:Au N v l w) (hb:Blk w B cs T) (hT:(T==3)=false) {k:Nat} (hk:v.ownBlock=some k):k≠B:=by
 rintro rfl
 obtain ⟨-,u,j⟩:=h.at hk
 have h2:w.heap[k]? = some (.cells cs T (0,0)):=hb
 rw [j] at h2
 injection h2 with h2
 injection h2 with _ h2
 subst h2
 exact absurd hT (by decide)
def F4 (l:List Int):List Int:=l.mergeSort fun x y=>decide (x<=y)
theorem Ru (N:Nat) (v:Value) (l:List Int) (w:World) (h:Au N v l w) (hl:l.length<4611686018427387904) :
  Calls Tryz.prog 46 #[v] w fun e w'=>e=.returned (.tuple #[])/\Au N v (F4 l) w'/\w.grownBy w' v.ownBlock:=by
 rcases h.2 with ⟨rfl,h0⟩ | ⟨g,cap,ae,rfl,hb,hg,ac,aa,ab,j⟩
 ·obtain rfl:l=[]:=List.eq_nil_of_length_eq_zero h0
  refine (Any.slices_Sort_int_none Tryz.lays189 none 0 w).mono ?_
  rintro e w' ⟨rfl,rfl⟩
  exact ⟨rfl,by simpa [F4] using h,rfl,rfl,rfl,Nat.le_refl _,fun _ _ _=>rfl⟩
 ·rw [Nat.mul_one] at j
  refine (Tryz.slices_Sort_int g 0 cap l w (holds_of_blockI hg j) (Array.getElem?_eq_some_iff.1 hg).1 hl).mono ?_
  rintro e w' ⟨rfl,n,os,rfl⟩
  refine ⟨rfl,?_,grownBy_sortedI _⟩
  have u:(F4 l).length=l.length:=List.length_mergeSort _
  have:=ownsRow_sortedI (n:=n) (os:=os) (ts:=F4 l) u hb hg ac aa ab
  unfold Au
  rw [u]
  exact this
theorem Mz (N:Nat) (v:Value) (l:List Int) (w:World) (h:Au N v l w) :
  Calls Tryz.prog 47 #[v] w fun e w'=>∃ v',e=.returned v'/\v'.ownBlock=v.ownBlock/\Au N v' (Lib.compact l) w'/\w.grownBy w' v.ownBlock:=by
 rcases h.2 with ⟨rfl,h0⟩ | ⟨g,cap,ac,rfl,hb,hg,ab,u,ae,j⟩
 ·obtain rfl:l=[]:=List.eq_nil_of_length_eq_zero h0
  refine (Tryz.slices_Compact_int_empty none 0 w).mono ?_
  rintro e w' ⟨rfl,rfl⟩
  exact ⟨_,rfl,rfl,h,rfl,rfl,rfl,Nat.le_refl _,fun _ _ _=>rfl⟩
 ·have h':=h
  rw [Nat.mul_one] at j
  have aa:=Lib.compact_length_le l
  have af:cap<=9223372036854775807:=by simpa [maxLen] using u
  refine (Tryz.slices_Compact_int g 0 cap l w (holds_of_blockI hg j) (by omega) ab).mono ?_
  rintro e w' ⟨rfl,q,rfl⟩
  refine ⟨_,rfl,rfl,?_,grownBy_sortedI (os:=#[]) _⟩
  have:=Lib.ownsRow_putRow (q:=q) (k:=(Lib.compact l).length) (ys:=Lib.compact l++List.replicate (l.length-(Lib.compact l).length) 0) h (by simp;omega) aa
  rw [List.take_left] at this
  exact this
theorem Ro {w:World} {N:Nat} {v:Value} {l:List Int} (af:Au N v l w) {ty:TypeId} {ad:Addr} {m c:Nat} (hm:v=.slice none 0 0->0<m) {news:List Int} (hl:news.length=m)
  (ac:∀ j u,(news.map (Value.int .i64))[j]? = some u->w.cell? (ad.add j)=some u) (hn:l.length+m<=1099511627776) (ab:N<=w.heap.size) :
  ∃ g cap w',(Builtin.append_ #[49,49] ty #[v,.slice (some ad) m c]).run Tryz.prog w=.ok (.slice (some ⟨g,0,none⟩) (l.length+m) cap) w'/\Au N (.slice (some ⟨g,0,none⟩) (l.length+m) cap) (l++news) w'/\w.grownBy w' v.ownBlock:=by
 obtain ⟨ht,aa,ak,aj⟩:=Dh
 cases hi:Tryz.prog.info? 3 with
 | none=>simp [hi] at aa
 | some i =>
  simp only [hi,Option.map_some,Option.some.injEq,Prod.mk.injEq] at aa
  obtain ⟨ae,hs,hb⟩:=aa
  cases hz:i.zero with
  | none=>simp [hz] at ae
  | some z =>
   simp only [hz,Option.map_some,Option.some.injEq] at ae
   have ag:∀ u∈news.map (Value.int .i64),u.oneCell'=true:=by simp [Bc]
   obtain ⟨v',w',hr,h2,h3,h4⟩:=run_append_own (P:=Tryz.prog) w N 49 ty 3 i z 1 8 ht hi hz hs hb ae (by decide) v l.length _ af ad m c (news.map (Value.int .i64)) (by simp [hl]) ac ag (by simp only [maxLen];omega) (by omega) ab
   have h5:Au N v' (l++news) w':=by unfold Au;rw [List.length_append,hl,List.map_append];exact h2
   rcases h2.2 with ⟨rfl,h0⟩ | ⟨g,cap,ai,rfl,-⟩
   ·have:=h4.1 rfl
    exact absurd (hm this.1) (by omega)
   ·exact ⟨g,cap,w',hr,h5,h3⟩
theorem P4 {ac:Array Oper} {rest:List Oper} {o:Oper} {a:Act} {w:World} {Q:Exit->Act->World->Prop} (hw:Region.wanted o (yielded ac a.tmps)=true) (s x:Operand)
  (ho:o.op=.call { callee:=.builtin .append,args:=#[s,x],argTypes:=#[49,49] }) {N:Nat} {v:Value} {l:List Int} (hs:a.eval s=v) (ae:Au N v l w)
  {ad:Addr} {m c:Nat} (hx:a.eval x=.slice (some ad) m c) (hm:v=.slice none 0 0->0<m) {news:List Int} (hl:news.length=m)
  (ab:∀ j u,(news.map (Value.int .i64))[j]? = some u->w.cell? (ad.add j)=some u) (hn:l.length+m<=1099511627776) (aa:N<=w.heap.size)
  (h:∀ g cap w',Au N (.slice (some ⟨g,0,none⟩) (l.length+m) cap) (l++news) w'->w.grownBy w' v.ownBlock->wpList Tryz.prog ac Q rest (a.put o.dst (.slice (some ⟨g,0,none⟩) (l.length+m) cap)) w') :
  wpList Tryz.prog ac Q (o::rest) a w :=
 BigFrame.wpList_want hw fun _ hK=>by
  obtain ⟨g,cap,w',hr,h2,h3⟩:=Ro (ty:=o.type) (c:=c) ae hm hl ab hn aa
  unfold Oper.wp execOp
  simp only [ho,resolve,invoke,builtin,Sem.run_bind,Sem.run_pure,Result.andThen_ok,List.map_toArray,List.map_cons,List.map_nil,hs,hx]
  rw [hr]
  exact hK _ _ (h g cap w' h2 h3)
/-! ### met: what stands in all of some lists -/
def Vk (ls:List (List Int)):List Int:=(ls.headD []).filter fun x=>ls.all fun m=>m.contains x
def Qs (w:World) (cs:List Value) (x:List Int):Prop:=∃ u,cs=[u]/\Ints w u x
abbrev Qo (w:World) (v:Value) (ll:List (List Int)):Prop:=Sl 1 (fun (x:List Int) b o=>∃ u,Has w b o [u]/\Ints w u x) v ll
theorem Ints.ext {w w':World} {v:Value} {l:List Int} (h:Ints w v l) (hx:Ext w w'):Ints w' v l:=Sl.mono h fun _ _ _ _ q=>Has.ext q hx
theorem Qo.ext {w w':World} {v:Value} {l:List (List Int)} (h:Qo w v l) (hx:Ext w w'):Qo w' v l:=Sl.mono h fun _ _ _ _ ⟨u,h1,h2⟩=>⟨u,h1.ext hx,h2.ext hx⟩
theorem Qs.at {W:World} {cs:List Value} {x:List Int} {b o:Nat} (h:Has W b o cs) (hv:Qs W cs x):∃ u,Has W b o [u]/\Ints W u x:=by
 obtain ⟨u,rfl,hs⟩:=hv;exact ⟨u,h,hs⟩
theorem Qm (g:FuncId) (lb:Array Value) (p:List Int->Bool) (l:List (List Int)) (s:Value) (w:World) (h:Qo w s l) (eg:Bj Tryz.prog g)
  (hp:∀ wr,Ext w wr->∀ k (hk:k<l.length) u,Ints wr u l[k]->Calls Tryz.prog g (#[u]++lb) wr fun r w'=>r=.returned (.bool (p l[k]))/\Ext wr w') :
  Calls Tryz.prog 121 #[s,.func (.func g) #[] lb] w fun r w'=>r=.returned (.int .i64 (Ge p l))/\Ext w w':=by
 have HP:=Jh hp
 clear hp
 obtain ⟨a,b,o,cap,hs,ak,al,ha,hr⟩:=h.open
 subst hs
 have HR:=Jh hr
 clear hr
 go_enter Tryz.func121,Tryz.ntmps121
 go_wp2_with fail
 go_loopw [5,8] (fun _ i wr=>∃ k:Nat,k<=l.length/\i=.int .i64 k/\(∀ j (hj:j<l.length),j<k->p l[j]=false)/\Ext w wr) (fun _ i _=>l.length-(intOf i).toNat)
 case atStart=>exact ⟨0,Nat.zero_le _,rfl,fun j hj h=>by omega,Below.refl _ _⟩
 case round =>
  obtain ⟨k,hk,rfl,ag,hB⟩:=hrel
  have aa:=Jh ag
  clear ag
  by_cases ac:k<l.length
  ·obtain ⟨u,af,ai⟩:=HR.out.get (List.getElem?_eq_getElem ac)
   rw [Nat.mul_one] at af
   obtain rfl:=ha (by omega)
   have HC:=(HP.out _ hB k ac u (ai.ext hB))
   have y0:=(af.ext hB) 0 _ rfl
   rw [Nat.add_zero] at y0
   cases hpk:p l[k] with
   | true =>
    rw [hpk] at HC
    have ab:=Jh hpk
    clear hpk
    go_wp2_with ((with_reducible show Jw (Op.call { callee:=.value (.tmp _),args:=_,argTypes:=_ }));refine As rfl _ _ _ rfl rfl eg rfl HC ?_;intro w1 ae)
    go_ret
    exact ⟨by rw [Gf ac (fun j hj=>aa.out j _ hj) ab.out];rfl,hB.trans ae⟩
   | false =>
    rw [hpk] at HC
    have ab:=Jh hpk
    clear hpk
    go_wp2_with ((with_reducible show Jw (Op.call { callee:=.value (.tmp _),args:=_,argTypes:=_ }));refine As rfl _ _ _ rfl rfl eg rfl HC ?_;intro w1 ae)
    go_roundw
    case rel =>
     refine ⟨k+1,by omega,by go_num,fun j hj am=>?_,hB.trans ae⟩
     by_cases aj:j=k
     ·subst aj;exact ab.out
     ·exact aa.out j hj (by omega)
    case measure=>simp [intOf];omega
  ·go_wp2_with fail
   go_ret
   exact ⟨by rw [G1 (fun j hj=>aa.out j hj (by omega))];rfl,hB⟩
theorem Ny (g:FuncId) (lb:Array Value) (p:List Int->Bool) (l:List (List Int)) (s:Value) (w:World) (h:Qo w s l) (eg:Bj Tryz.prog g)
  (hp:∀ wr,Ext w wr->∀ k (hk:k<l.length) u,Ints wr u l[k]->Calls Tryz.prog g (#[u]++lb) wr fun r w'=>r=.returned (.bool (p l[k]))/\Ext wr w') :
  Calls Tryz.prog 80 #[s,.func (.func g) #[] lb] w fun r w'=>r=.returned (.bool (l.any p))/\Ext w w':=by
 have HI:=Jh (Qm g lb p l s w h eg hp)
 clear hp
 go_enter Tryz.func80,Tryz.ntmps80
 go_wp2_with (first | (go_at_call 121;refine HI.out.mono ?_;rintro r w1 ⟨rfl,j⟩))
 go_ret
 exact ⟨Af (Fx p l),j⟩
theorem Z6:Bj Tryz.prog 81:=A9 Tryz.func81 (by kernel_rfl) rfl
theorem Q5 (l:List Int) (v:Value) (x:Int) (w:World) (h:Ints w v l) :
  Calls Tryz.prog 82 #[v,.int .i64 x] w fun r w'=>r=.returned (.bool (l.contains x))/\w'=w:=by
 obtain ⟨a,b,o,cap,rfl,u,aa,ha,hr⟩:=h.open
 by_cases h0:0<l.length
 ·obtain rfl:=ha h0
  refine (Tryz.slices_Contains_int b o l.length cap l x w (Nat.le_refl _) (by omega) fun j hj=>?_).mono ?_
  ·have:=(hr.get (List.getElem?_eq_getElem hj)) 0 _ rfl
   rw [List.getD_eq_getElem?_getD,List.getElem?_eq_getElem hj]
   simpa using this
  ·rintro r w' ⟨rfl,rfl⟩
   rw [List.take_length];exact ⟨rfl,rfl⟩
 ·obtain rfl:l=[]:=List.eq_nil_of_length_eq_zero (by omega)
  refine (Tryz.slices_Contains_int_empty a cap x w).mono ?_
  rintro r w' ⟨rfl,rfl⟩
  exact ⟨rfl,rfl⟩
theorem Aac (l:List Int) (v:Value) (x:Int) (B:Nat) (w:World) (h:Ints w v l) (hb:Blk w B #[.int .i64 x] 3) :
  Calls Tryz.prog 81 #[v,.pointer (some ⟨B,0,none⟩)] w fun r w'=>r=.returned (.bool (!l.contains x))/\Ext w w':=by
 have HC:=Jh (Q5 l v x w h)
 have y0:=hb.has 0 _ rfl
 go_enter Tryz.func81,Tryz.ntmps81
 go_wp2_with (first | (go_at_call 82;refine HC.out.mono ?_;rintro r w1 ⟨rfl,rfl⟩))
 go_ret
 exact ⟨Af (by simp),Below.refl _ _⟩
theorem Aer (ls:List (List Int)) (x:Int):(!(ls.any fun m=>!m.contains x))=(ls.all fun m=>m.contains x):=by
 induction ls with
 | nil=>rfl
 | cons y ls ih=>rw [List.any_cons,List.all_cons,<-ih];cases y.contains x<;>simp
theorem Uc (ls:List (List Int)) (v:Value) (w:World) (h:Qo w v ls) (h0:0<ls.length) (ba:(ls.headD []).length<=1073741824) :
  Calls Tryz.prog 48 #[v] w fun r w'=>∃ u,r=.returned u/\Au w.heap.size u (Vk ls) w'/\Ext w w':=by
 have HL:=Jh h
 obtain ⟨a,b,o,cap,rfl,b5,b6,ha,hr⟩:=h.open
 obtain rfl:=ha h0
 obtain ⟨x0,aj⟩:∃ x0,ls.headD []=x0:=⟨_,rfl⟩
 have a8:ls[0]? = some x0:=by
  cases ls with
  | nil=>simp at h0
  | cons y ls=>simp at aj;subst aj;rfl
 obtain ⟨u,ar,a7⟩:=hr.get a8
 rw [Nat.zero_mul,Nat.add_zero] at ar
 have y0:=ar 0 _ rfl
 rw [Nat.add_zero] at y0
 rw [aj] at ba
 obtain ⟨p,hp⟩:∃ p,(fun x:Int=>ls.all fun m=>m.contains x)=p:=⟨_,rfl⟩
 have ao:Vk ls=x0.filter p:=by unfold Vk;rw [aj,hp]
 have ah:=Jh ao
 have bt:=Jh hp
 obtain ⟨a0,b0,o0,a3,rfl,b7,b8,hb,bc⟩:=a7.open
 have HB:=Jh hb
 have bu:=Jh bc
 clear hr aj a8 ar a7 hp ao hb bc ha
 go_enter Tryz.func48,Tryz.ntmps48
 go_wp2_with fail
 refine wp_loop (fun a wr=>∃ (k:Nat) (u x5 be bf bg bi bj bk bl bm bo bp bq br:Value),a=⟨#[.slice (some ⟨b,o,Option.none⟩) ls.length cap,undef,.slice Option.none 0 0,u,undef,x5,.slice (some ⟨b,o,Option.none⟩) ls.length cap,.pointer (some ⟨b,o,Option.none⟩),.slice a0 x0.length a3,.int .i64 x0.length,.int .i64 (k:Int),be,bf,bg,bi,bj,bk,bl,bm,bo,bp,bq,br,undef],[]⟩ /\
  k<=x0.length/\Au w.heap.size u ((x0.take k).filter p) wr/\Ext w wr) (fun a _=>x0.length-(intOf (a.tmps.getD 10 undef)).toNat)
  ⟨0,_,_,_,_,_,_,_,_,_,_,_,_,_,_,rfl,Nat.zero_le _,Au.nil _ _,Below.refl _ _⟩ ?_
 rintro a wr ⟨k,u,x5,be,bf,bg,bi,bj,bk,bl,bm,bo,bp,bq,br,rfl,hk,af,hx⟩
 have ac:=Jh af
 have HX:=Jh hx
 have b9:=hx.size
 obtain ⟨au,cu,hu,bh⟩:=af.open
 obtain ⟨ln,al⟩:∃ ln,((x0.take k).filter p).length=ln:=⟨_,rfl⟩
 have b4:ln<=k:=by
  rw [<-al]
  refine Nat.le_trans (List.length_filter_le _ _) ?_
  simp;omega
 rw [al] at hu
 have az:=Jh al
 clear af hx bh al
 subst hu
 by_cases bb:k<x0.length
 ·obtain rfl:=HB.out (by omega)
  have an:Has w b0 (o0+k*1) [.int .i64 x0[k]]:=bu.out.get (List.getElem?_eq_getElem bb)
  have ai:(x0.take (k+1)).filter p=(x0.take k).filter p++(if p x0[k]=true then [x0[k]] else []):=by
   rw [Ba _ _ bb,List.filter_append]
   by_cases hq:p x0[k]=true
   ·rw [if_pos hq];simp [hq]
   ·rw [if_neg hq];simp [hq]
  generalize x0[k]=x at *
  generalize (x0.take k).filter p=pre at *
  have ae:=Jh ai
  have y1:=(an.ext HX.out) 0 _ rfl
  rw [Nat.mul_one,Nat.add_zero] at y1
  clear ai an
  have ak:=Ab wr (.cells #[.int .i64 x] 3)
  have ap:=Blk.new wr #[.int .i64 x] 3
  have av:=ac.out.ext ak
  have bw:(wr.alloc (.cells #[.int .i64 x] 3)).heap.size=wr.heap.size+1:=by simp
  go_upto_region 5 with fail
  have bs:=Jh (HL.out.ext (HX.out.trans ak))
  have ab:p x = !(ls.any fun m=>!m.contains x):=by rw [Aer,<-bt.out]
  generalize wr.alloc _=w4 at *
  have ax:=Jh (Ny 81 #[.pointer (some ⟨wr.heap.size,0,none⟩)] (fun m=>!m.contains x) ls _ w4 bs.out Z6 (fun b3 b1 k hk u hu=>Aac ls[k] u x wr.heap.size b3 hu (ap.ext b1)))
  have a2:=Jh ab
  clear ab
  obtain ⟨q,hq⟩:∃ q,(ls.any fun m=>!m.contains x)=q:=⟨_,rfl⟩
  have aq:=ax.out
  have ab:=a2.out
  rw [hq] at aq ab
  have ay:=Jh aq
  have a1:=Jh ab
  clear aq ab hq ax a2
  cases q
  ·go_upto_region 6 with (first | (go_at_call 80;refine ay.out.mono ?_;rintro r w5 ⟨rfl,aa⟩))
   have a5:=ap.ext aa
   have bd:=av.ext aa
   have am:=Ab w5 (.cells [Value.int .i64 x].toArray 3)
   have a6:=Blk.new w5 [Value.int .i64 x].toArray 3
   have aw:=bd.ext am
   have y6:=a5.has 0 _ rfl
   have bx:=aa.size
   go_wp2_with (first | ((with_reducible show Jw (Op.buildSlice _ _ _));refine B9 rfl _ _ rfl Dh rfl (cs:=[Value.int .i64 x]) rfl rfl (by decide) ?_) | ((with_reducible show Jw (Op.call { callee:=.builtin .append,args:=_,argTypes:=_ }));refine Hid.out ?_))
   refine Jh ?_
   have bz:(w5.alloc (.cells [Value.int .i64 x].toArray 3)).heap.size=w5.heap.size+1:=by simp
   refine P4 (m:=1) (news:=[x]) rfl _ _ rfl rfl aw rfl (fun _=>Nat.lt_of_lt_of_le Nat.zero_lt_one (Nat.le_refl 1)) rfl (Lt a6.has) (by rw [az.out];omega) (by omega) ?_
   intro g7 a4 w7 ag a9
   generalize w5.alloc _=w6 at *
   have b2:Ext w w7:=Below.grown ((HX.out.trans ak).trans (aa.trans am)) a9 ((HX.out.trans ak).trans (aa.trans am)).size (fun k hk=>(aw.at hk).1)
   have j:Au w.heap.size (Value.slice (some ⟨g7,0,none⟩) (pre.length+1) a4) ((x0.take (k+1)).filter p) w7:=by
    rw [ae.out,if_pos (by rw [a1.out];rfl)];exact ag
   have bv:=Jh j
   clear ag j a9 a6 aw am bx bz y6 a5 bd av ap bw
   go_wp2_with fail
   exact ⟨⟨k+1,_,_,_,_,_,_,_,_,_,_,_,_,_,_,rfl,by omega,bv.out,b2⟩,by simp [intOf];omega⟩
  ·go_wp2_with (first | (go_at_call 80;refine ay.out.mono ?_;rintro r w5 ⟨rfl,aa⟩))
   have j:Au w.heap.size (Value.slice au ln cu) ((x0.take (k+1)).filter p) w5:=by
    rw [ae.out,if_neg (by rw [a1.out];decide),List.append_nil];exact av.ext aa
   exact ⟨⟨k+1,_,_,_,_,_,_,_,_,_,_,_,_,_,_,rfl,by omega,j,(HX.out.trans ak).trans aa⟩,by simp [intOf];omega⟩
 ·obtain rfl:k=x0.length:=by omega
  rw [List.take_length] at ac az
  go_wp2_with fail
  go_ret
  exact ⟨_,rfl,by rw [ah.out];exact ac.out,HX.out⟩
def Ao:E->Int->Except Int E
 | ⟨op,w0,v,sig,hi,lo,n,l⟩,w =>
  let own0:=own ⟨op,w0,v,sig,hi,lo,n,l⟩
  if w = -1/\1<own0 then .error 91
  else
   let w2:=Bw (if w = -1 then 1 else w) (Bw own0 32)
   if op=1/\w0=0 then (if holds w2 v then .ok ⟨1,w2,v,0,0,0,0,[]⟩ else .error 92)
   else match Bo ⟨op,w0,v,sig,hi,lo,n,l⟩ w2 with
    | none=>.error 90
    | some ps=>match sizeL l ps with
     | .error f=>.error f
     | .ok l' =>
      if op=8/\(n=33/\hdW l'<w2\/n≠33/\w2<hdW l') then .error 90
      else .ok ⟨op,w2,v,sig,hi,lo,n,l'⟩
where
 sizeL:List E->List Int->Except Int (List E)
  | [],_=>.ok []
  | e::l,ps=>match Ao e (ps.headD 0) with
   | .error f=>.error f
   | .ok x=>match sizeL l ps.tail with
    | .error f=>.error f
    | .ok r=>.ok (x::r)
 hdW:List E->Int
  | []=>0
  | e::_=>e.w
theorem Rr (l:List E):∀ (k:Nat) (ps:List Int) (h:k<l.length),Ao.sizeL (l.take (k+1)) ps =
  (match Ao.sizeL (l.take k) ps with
   | .error f=>.error f
   | .ok r=>match Ao l[k] (ps[k]?.getD 0) with
    | .error f=>.error f
    | .ok x=>.ok (r++[x])):=by
 induction l with
 | nil=>intro k ps h;simp at h
 | cons e l ih =>
  intro k ps h
  cases k with
  | zero =>
   simp only [List.take_succ_cons,List.take_zero,Ao.sizeL]
   cases ps<;>simp<;>cases Ao e _<;>rfl
  | succ k =>
   simp only [List.take_succ_cons,Ao.sizeL]
   cases he:Ao e (ps.headD 0) with
   | error f=>rfl
   | ok x =>
    simp only
    have hk:k<l.length:=by simpa using h
    rw [ih k ps.tail hk]
    have:ps.tail[k]? = ps[k+1]?:=by simp
    rw [this]
    cases Ao.sizeL (l.take k) ps.tail with
    | error f=>rfl
    | ok r =>
     simp only [Jc]
     cases Ao l[k] (ps[k+1]?.getD 0)<;>rfl
theorem L6 (l:List E) (k:Nat) (ps:List Int) (h:k<l.length) (r:List E) (hr:Ao.sizeL (l.take k) ps=.ok r) (f:Int) (hf:Ao l[k] (ps[k]?.getD 0)=.error f):Ao.sizeL l ps=.error f:=by
 induction l generalizing k ps r with
 | nil=>simp at h
 | cons e l ih =>
  cases k with
  | zero =>
   simp only [Jb] at hf
   have:ps.headD 0=ps[0]?.getD 0:=by cases ps<;>rfl
   rw [Ao.sizeL,this,hf]
  | succ k =>
   simp only [List.take_succ_cons,Ao.sizeL] at hr ⊢
   cases he:Ao e (ps.headD 0) with
   | error f'=>simp only [he] at hr;cases hr
   | ok x =>
    simp only [he] at hr ⊢
    have hk:k<l.length:=by simpa using h
    cases h2:Ao.sizeL (l.take k) ps.tail with
    | error f'=>simp only [h2] at hr;cases hr
    | ok r' =>
     rw [ih k ps.tail (by simpa using h) r' h2 (by simpa using hf)]
theorem Gv (e:E) (w:Int):Ao e w =
  (if w = -1/\1<own e then .error 91
  else
   if e.op=1/\e.w=0 then (if holds (Bw (if w = -1 then 1 else w) (Bw (own e) 32)) e.v then .ok ⟨1,Bw (if w = -1 then 1 else w) (Bw (own e) 32),e.v,0,0,0,0,[]⟩ else .error 92)
   else match Bo e (Bw (if w = -1 then 1 else w) (Bw (own e) 32)) with
    | none=>.error 90
    | some ps=>match Ao.sizeL e.l ps with
     | .error f=>.error f
     | .ok l' =>
      if e.op=8/\(e.n=33/\Ao.hdW l'<Bw (if w = -1 then 1 else w) (Bw (own e) 32)\/e.n≠33/\Bw (if w = -1 then 1 else w) (Bw (own e) 32)<Ao.hdW l') then .error 90
      else .ok ⟨e.op,Bw (if w = -1 then 1 else w) (Bw (own e) 32),e.v,e.sig,e.hi,e.lo,e.n,l'⟩):=by
 cases e;rw [Ao]
/-! ### a row of structs of the call's own, filled from the front -/
def flat (css:List (List Value)):List Value:=css.flatten
theorem Ad1 {css:List (List Value)} {n:Nat} (h:∀ cs∈css,cs.length=n):css.flatten.length=css.length*n:=by
 induction css with
 | nil=>simp
 | cons c l ih=>simp [h c (by simp),ih (fun x hx=>h x (by simp [hx])),Nat.add_mul];omega
theorem Pe {P:Program} {ab:Array Oper} {rest:List Oper} {o:Oper} {a:Act} {w:World} {Q:Exit->Act->World->Prop} (hw:Region.wanted o (yielded ab a.tmps)=true)
  (ty:TypeId) (x y:Operand) (ho:o.op=.store ty x y) {j aa u:List Value} {B off:Nat} (hb:Blk w B (j++aa++u).toArray ty) (hx:a.eval x=.pointer (some ⟨B,off,none⟩)) (ac:j.length=off) {cs:List Value} (hy:a.eval y=.agg cs.toArray) {n:Nat}
  (hu:Agg P ty n) (hn:cs.length=n) (hc:aa.length=n) (h1:cs.all (·.oneCell')=true)
  (h:∀ w',Blk w' B (j++cs++u).toArray ty->w.grownBy w' (some B)->wpList P ab Q rest (a.put o.dst undef) w'):wpList P ab Q (o::rest) a w :=
 BigFrame.wpList_want hw fun _ hK=>by
  subst ac
  subst hn
  unfold Oper.wp execOp
  simp only [ho,hx,hy]
  have hs:=run_storeCells_at (P:=P) B j.length ty cs 0 _ w hb (by simp;omega) (fun v hv=>by simpa using (List.all_eq_true.1 h1) v hv)
  have e:((j++aa++u).toArray.toList.take (j.length+0)++cs++(j++aa++u).toArray.toList.drop (j.length+0+cs.length)).toArray=(j++cs++u).toArray:=by
   congr 1
   simp only [Nat.add_zero,List.append_assoc]
   rw [List.take_left' rfl,<-hc,<-List.append_assoc j aa,List.drop_left' (by simp)]
  rw [e] at hs
  have hi:(P.info? ty).map (·.size)=some cs.length:=hu.2
  cases hq:P.info? ty with
  | none=>simp [hq] at hi
  | some i =>
   simp only [hq,Option.map_some,Option.some.injEq] at hi
   have:(storeVar ty ⟨B,j.length,none⟩ (.agg cs.toArray)).run P w=.ok () (w.setRow B (j++cs++u).toArray):=by
    simp [storeVar,sizeOf,typeInfo,hq,Value.cells,hi,hs]
   simp only [Instr.storeAt,Instr.sureAddr,Sem.run_bind,Sem.run_pure,Result.andThen_ok,this]
   exact hK _ _ (h _ (Kw hb) (Ml w B _))
end Go.Proofs.YtbliplladmamoaaGreat
