/- Laws and walks that a claim of this seat leans on: WordB, Play1, Play2, Play3, Play4. -/
import Derived.Test.YtbliplladmamoaaGreatS13
import Derived.Test.YtbliplladmamoaaGreatS16
import Derived.Test.YtbliplladmamoaaGreatS20
import Derived.Test.YtbliplladmamoaaGreatS19
import Derived.Test.YtbliplladmamoaaGreatS00
set_option maxRecDepth 100000
set_option maxHeartbeats 8000000
set_option linter.all false
namespace Go.Proofs.YtbliplladmamoaaGreat
open Go.RowKit
abbrev W64 (x:Nat):Value:=.int .u64 (x:Int)
theorem Kn:H7 Tryz.prog 27 35 1 8:=⟨Tryz.underlying27,by kernel_rfl,by decide,by decide⟩
def Ax (N:Nat) (v:Value) (l:List Nat) (w:World):Prop:=w.ownsRow N 35 1 v l.length (l.map (W64))
theorem Ax.nil (N:Nat) (w:World):Ax N (.slice none 0 0) [] w:=World.ownsRow_nil _ _ _ _
theorem Ax.open {N:Nat} {v:Value} {l:List Nat} {w:World} (h:Ax N v l w):∃ a cap,v=.slice a l.length cap/\(v.ownBlock=none->l=[]):=by
 rcases h.2 with ⟨rfl,h0⟩ | ⟨g,cap,j,rfl,-⟩
 ·exact ⟨none,0,by rw [h0],fun _=>List.eq_nil_of_length_eq_zero h0⟩
 ·exact ⟨_,cap,rfl,fun h=>by cases h⟩
theorem Ax.at {N:Nat} {v:Value} {l:List Nat} {w:World} (h:Ax N v l w) {k:Nat} (hk:v.ownBlock=some k):N<=k/\∃ j,w.heap[k]? = some (.cells j 35 (0,0)):=by
 rcases h.2 with ⟨rfl,h0⟩ | ⟨g,cap,j,rfl,hb,hg,-⟩
 ·cases hk
 ·cases hk;exact ⟨hb,j,hg⟩
theorem Ax.keep {N:Nat} {v:Value} {l:List Nat} {w w':World} (h:Ax N v l w) (hk:∀ k,v.ownBlock=some k->∀ o,w.heap[k]? = some o->w'.heap[k]? = some o):Ax N v l w':=by
 refine ⟨h.1,?_⟩
 rcases h.2 with hn | ⟨g,cap,j,rfl,hb,hg,rest⟩
 ·exact .inl hn
 ·exact .inr ⟨g,cap,j,rfl,hb,hk g rfl _ hg,rest⟩
theorem Ax.ext {N:Nat} {v:Value} {l:List Nat} {w w':World} (h:Ax N v l w) (hx:Ext w w'):Ax N v l w' :=
 h.keep fun k _ _ ho=>(hx.block k (Array.getElem?_eq_some_iff.1 ho).1).trans ho
theorem Ax.grown {N:Nat} {v:Value} {l:List Nat} {w w':World} {R:Option Nat} (h:Ax N v l w) (hg:w.grownBy w' R) (hR:∀ k,v.ownBlock=some k->some k≠R):Ax N v l w' :=
 h.keep fun k hk _ ho=>(hg.block k (Array.getElem?_eq_some_iff.1 ho).1 (hR k hk)).trans ho
theorem Ax.less {N M:Nat} {v:Value} {l:List Nat} {w:World} (h:Ax N v l w) (hM:M<=N):Ax M v l w:=by
 refine ⟨h.1,?_⟩
 rcases h.2 with hn | ⟨g,cap,j,rfl,hb,rest⟩
 ·exact .inl hn
 ·exact .inr ⟨g,cap,j,rfl,Nat.le_trans hM hb,rest⟩
theorem Ahe (l:List Nat):(l.map fun x=>[W64 x]).flatten=l.map (W64):=by
 induction l with
 | nil=>rfl
 | cons x l ih=>simp only [List.map_cons,List.flatten_cons,ih];rfl
theorem Ax.cells {N:Nat} {v:Value} {l:List Nat} {w:World} (h:Ax N v l w):Us w v l:=by
 rcases h.2 with ⟨rfl,h0⟩ | ⟨g,cap,ab,rfl,hb,hg,aa,u,ac,j⟩
 ·obtain rfl:l=[]:=List.eq_nil_of_length_eq_zero h0
  exact Sl.nil _ _
 ·refine ⟨g,0,⟨_,cap,rfl,aa,u,fun _=>rfl⟩,Di (f:=fun x=>[W64 x]) (fun _=>rfl) l 0 ?_⟩
  have:=Hw (N:=N) (cap:=cap) (size:=1) hg j
  rw [Ahe];exact this
theorem Ax.ne {N B:Nat} {v:Value} {cs:Array Value} {T:TypeId} {l:List Nat} {w:World} (h:Ax N v l w) (hb:Blk w B cs T) (hT:(T==35)=false) {k:Nat} (hk:v.ownBlock=some k):k≠B:=by
 rintro rfl
 obtain ⟨-,u,j⟩:=h.at hk
 have h2:w.heap[k]? = some (.cells cs T (0,0)):=hb
 rw [j] at h2
 injection h2 with h2
 injection h2 with _ h2
 subst h2
 exact absurd hT (by decide)
theorem Acl {w:World} {N:Nat} {v:Value} {l:List Nat} (af:Ax N v l w) {ty:TypeId} {ad:Addr} {m c:Nat} (hm:v=.slice none 0 0->0<m) {news:List Nat} (hl:news.length=m)
  (ac:∀ j u,(news.map (W64))[j]? = some u->w.cell? (ad.add j)=some u) (hn:l.length+m<=1099511627776) (ab:N<=w.heap.size) :
  ∃ g cap w',(Builtin.append_ #[27,27] ty #[v,.slice (some ad) m c]).run Tryz.prog w=.ok (.slice (some ⟨g,0,none⟩) (l.length+m) cap) w'/\Ax N (.slice (some ⟨g,0,none⟩) (l.length+m) cap) (l++news) w'/\w.grownBy w' v.ownBlock:=by
 obtain ⟨ht,aa,ak,aj⟩:=Kn
 cases hi:Tryz.prog.info? 35 with
 | none=>simp [hi] at aa
 | some i =>
  simp only [hi,Option.map_some,Option.some.injEq,Prod.mk.injEq] at aa
  obtain ⟨ae,hs,hb⟩:=aa
  cases hz:i.zero with
  | none=>simp [hz] at ae
  | some z =>
   simp only [hz,Option.map_some,Option.some.injEq] at ae
   have ag:∀ u∈news.map (W64),u.oneCell'=true:=by
    intro u hu
    obtain ⟨x,-,rfl⟩:=List.mem_map.1 hu
    rfl
   obtain ⟨v',w',hr,h2,h3,h4⟩:=run_append_own (P:=Tryz.prog) w N 27 ty 35 i z 1 8 ht hi hz hs hb ae (by decide) v l.length _ af ad m c (news.map (W64)) (by simp [hl]) ac ag (by simp only [maxLen];omega) (by omega) ab
   have h5:Ax N v' (l++news) w':=by unfold Ax;rw [List.length_append,hl,List.map_append];exact h2
   rcases h2.2 with ⟨rfl,h0⟩ | ⟨g,cap,ai,rfl,-⟩
   ·have:=h4.1 rfl
    exact absurd (hm this.1) (by omega)
   ·exact ⟨g,cap,w',hr,h5,h3⟩
theorem Y1 {w:World} {N:Nat} {v:Value} {l:List Nat} (aa:Ax N v l w) {ty:TypeId} {x:Value} {news:List Nat} (hx:Us w x news) (hn:l.length+news.length<=1099511627776) (ab:N<=w.heap.size) :
  ∃ v' w',(Builtin.append_ #[27,27] ty #[v,x]).run Tryz.prog w=.ok v' w'/\Ax N v' (l++news) w'/\w.grownBy w' v.ownBlock:=by
 obtain ⟨a,b,o,cap,rfl,al,am,ha,hr⟩:=hx.open
 by_cases h0:0<news.length
 ·obtain rfl:=ha h0
  obtain ⟨g,ai,w',h1,h2,h3⟩:=Acl (ty:=ty) (c:=cap) (m:=news.length) aa (fun _=>h0) rfl (ad:=⟨b,o,none⟩) (news:=news) (fun j u hj=>by
   rw [List.getElem?_map] at hj
   cases hq:news[j]? with
   | none=>rw [hq] at hj;cases hj
   | some y =>
    rw [hq] at hj
    have ae:(⟨b,o,none⟩:Addr).add j=⟨b,o+j,none⟩:=by unfold Addr.add;split<;>simp_all
    rw [ae]
    have:=(hr.get hq) 0 _ rfl
    simp only [Nat.mul_one,Nat.add_zero] at this
    rw [this]
    exact hj) hn ab
  exact ⟨_,w',h1,h2,h3⟩
 ·obtain rfl:news=[]:=List.eq_nil_of_length_eq_zero (by omega)
  obtain ⟨ht,ac,ao,ak⟩:=Kn
  cases hi:Tryz.prog.info? 35 with
  | none=>simp [hi] at ac
  | some i =>
   have af:Src Tryz.prog i.size 27 (.slice a 0 cap) 0 [] w:=by
    cases a with
    | none=>exact Src.ofNil w ht cap
    | some a=>exact Src.ofSlice w ht a 0 cap [] (by simp) (by intro j u hj;simp at hj) (by simp)
   obtain ⟨av,cv,hv,-⟩:=aa.open
   have ag:l.length<=cv:=by
    rcases aa.2 with ⟨e,h0⟩ | ⟨g,c2,aj,e,hb,hg,an,-⟩
    ·rw [hv] at e;injection e with _ e2 e3;omega
    ·rw [hv] at e;injection e with _ e2 e3;omega
   refine ⟨v,w,?_,by rw [List.append_nil];exact aa,⟨rfl,rfl,rfl,Nat.le_refl _,fun _ _ _=>rfl⟩⟩
   rw [hv]
   exact run_append_nothing w 27 27 ty 35 i ht hi av l.length cv ag _ af
theorem P5 {aa:Array Oper} {rest:List Oper} {o:Oper} {a:Act} {w:World} {Q:Exit->Act->World->Prop} (hw:Region.wanted o (yielded aa a.tmps)=true) (s x:Operand)
  (ho:o.op=.call { callee:=.builtin .append,args:=#[s,x],argTypes:=#[27,27] }) {N:Nat} {v:Value} {l:List Nat} (hs:a.eval s=v) (ab:Ax N v l w)
  {xv:Value} (hx:a.eval x=xv) {news:List Nat} (u:Us w xv news) (hn:l.length+news.length<=1099511627776) (j:N<=w.heap.size)
  (h:∀ v' w',Ax N v' (l++news) w'->w.grownBy w' v.ownBlock->wpList Tryz.prog aa Q rest (a.put o.dst v') w') :
  wpList Tryz.prog aa Q (o::rest) a w :=
 BigFrame.wpList_want hw fun _ hK=>by
  obtain ⟨v',w',hr,h2,h3⟩:=Y1 (ty:=o.type) ab u hn j
  unfold Oper.wp execOp
  simp only [ho,resolve,invoke,builtin,Sem.run_bind,Sem.run_pure,Result.andThen_ok,List.map_toArray,List.map_cons,List.map_nil,hs,hx]
  rw [hr]
  exact hK _ _ (h v' w' h2 h3)
theorem Ax.open1 {N:Nat} {v:Value} {l:List Nat} {w:World} (h:Ax N v l w) (hl:0<l.length):∃ g cap,v=.slice (some ⟨g,0,none⟩) l.length cap/\N<=g/\∀ i x,l[i]? = some x->w.cell? ⟨g,i,none⟩=some (W64 x):=by
 rcases h.2 with ⟨rfl,h0⟩ | ⟨g,cap,u,rfl,hb,hg,ac,aa,ab,j⟩
 ·omega
 ·refine ⟨g,cap,rfl,hb,fun i x hx=>?_⟩
  have:=Hw (N:=N) (cap:=cap) (size:=1) hg j i (W64 x) (by simp [hx])
  rwa [Nat.zero_add] at this
theorem Ax.ofBlk {N g:Nat} {l:List Nat} {w:World} (h:Blk w g (l.map (W64)).toArray 35) (hN:N<=g) (hm:l.length<=9223372036854775807):Ax N (.slice (some ⟨g,0,none⟩) l.length l.length) l w :=
 ⟨by simp,.inr ⟨g,l.length,_,rfl,hN,h,Nat.le_refl _,by simpa [maxLen] using hm,by simp,by rw [Nat.mul_one];exact List.take_of_length_le (by simp)⟩⟩
theorem Ax.set {N g cap:Nat} {n:Nat} {l:List Nat} {w:World} (h:Ax N (.slice (some ⟨g,0,none⟩) n cap) l w) (j:Nat) (hj:j<l.length) (x:Nat) :
  Ax N (.slice (some ⟨g,0,none⟩) n cap) (l.set j x) (w.setCell ⟨g,j,none⟩ (W64 x)):=by
 rcases h.2 with ⟨e,h0⟩ | ⟨g',af,aa,e,hb,hg,ae,ab,ac,u⟩
 ·cases e
 ·injection e with e1 e2 e3
  injection e1 with e1
  injection e1 with e1
  subst e1 e2 e3
  have hB:Blk w g aa 35:=hg
  refine ⟨by simp,.inr ⟨g,cap,aa.setIfInBounds j (W64 x),by rw [List.length_set],hb,hB.set j (W64 x),by rw [List.length_set];exact ae,ab,by rw [Array.size_setIfInBounds];exact ac,?_⟩⟩
  rw [List.length_set,Array.toList_setIfInBounds,List.map_set,<-u,List.take_set]
theorem Ax.bs0 (w:World) {N:Nat} (hN:N<=w.heap.size):Ax N (.slice (some ⟨w.heap.size,0,none⟩) 0 0) [] (w.alloc (.cells #[] 35)) :=
 ⟨rfl,.inr ⟨w.heap.size,0,#[],rfl,hN,Blk.new w #[] 35,Nat.le_refl _,by decide,rfl,rfl⟩⟩
theorem Ax.made {w:World} {N n:Nat} {x:Nat} (hN:N<=w.heap.size) (hn:n<=9223372036854775807):Ax N (.slice (some ⟨w.heap.size,0,none⟩) n n) (List.replicate n x) (w.alloc (.cells (List.replicate n (W64 x)).toArray 35)):=by
 have:=Ax.ofBlk (N:=N) (l:=List.replicate n x) (g:=w.heap.size) (w:=w.alloc (.cells (List.replicate n (W64 x)).toArray 35)) (by rw [List.map_replicate];exact Blk.new _ _ _) hN (by simpa using hn)
 simpa using this
abbrev Oj (sv pv cv wasv nv:Value) (ck:Bool):List Value:=[sv,pv,cv,wasv,nv,.bool ck]
theorem Yx (d:Bb) (af:d.ok) (hc:By d=0) (sv pv cv ab nv:Value) (ac v:List Nat) (ck:Bool) (P:Nat) (e:E) (cs:List Value) (w:World) (hF:Ck w (.agg #[sv,pv,cv]) d) (hw:Us w ab ac) (hn:Us w nv v) (al:Fl d.signals ac) (ak:Fl d.signals v)
  (hB:Blk w P (Oj sv pv cv ab nv ck).toArray 59) (hV:VE w cs e) (aa:WS d.signals e/\e.wf/\nodes e<=65536/\Cu e<=64) :
  Calls Tryz.prog 69 #[.pointer (some ⟨P,0,none⟩),.agg cs.toArray] w fun r w'=>r=.returned (.int .u64 ((evM (if ck then ac else v) e:Nat):Int))/\Ext w w':=by
 have ae:∀ x∈d.signals,x.w<=64:=fun x hx=>(Dv hc x hx).2
 have H1:=Jh (fun W (h:Ext w W)=>Ql d _ ac ab e cs W (hF.ext h) af (hw.ext h) (Mr ae al) (hV.ext h) aa.2.1 (by omega))
 have H2:=Jh (fun W (h:Ext w W)=>Ql d _ v nv e cs W (hF.ext h) af (hn.ext h) (Mr ae ak) (hV.ext h) aa.2.1 (by omega))
 rw [Rb hc al aa.1 aa.2.2.1 aa.2.2.2] at H1
 rw [Rb hc ak aa.1 aa.2.2.1 aa.2.2.2] at H2
 have h8:cs.length=8:=by obtain ⟨s,rfl,-⟩:=hV;rfl
 have hX:=Ab w (.cells cs.toArray 40)
 have hE:=Blk.new w cs.toArray 40
 have hP:=hB.ext hX
 have aq:=hF
 obtain ⟨s',p',c',he,-⟩:=aq
 clear hF hw hn al ak hV aa ae af hc hB he
 obtain ⟨r1,ag⟩:∃ r,evM ac e=r:=⟨_,rfl⟩
 obtain ⟨r2,ai⟩:∃ r,evM v e=r:=⟨_,rfl⟩
 obtain ⟨rr,aj⟩:∃ r,evM (if ck then ac else v) e=r:=⟨_,rfl⟩
 rw [ag] at H1
 rw [ai] at H2
 rw [aj]
 have an:=Jh aj
 have ao:=Jh ag
 have ap:=Jh ai
 clear aj ag ai
 go_enter Tryz.func69,Tryz.ntmps69
 go_upto_region 1 with fail
 generalize w.alloc _=w0 at *
 have HX:=Jh hX
 have HE:=Jh hE
 have HP:=Jh hP
 have y4:=hP.has 4 _ rfl
 have y5:=hP.has 5 _ rfl
 have y3:=hP.has 3 _ rfl
 clear hX hE hP
 cases ck
 ·go_upto_region 4 with fail
  clear y3 y4 y5
  obtain rfl:r2=rr:=by rw [<-an.out,<-ap.out];rfl
  refine Jg w0 fun hH=>?_
  try simp only [J]
  (refine Ji 0 (.pointer (some ⟨P,0,none⟩)) rfl hH ?_;try simp only [J])
  (refine Jk 1 (.pointer (some ⟨P,0,none⟩)) rfl hH ?_;try simp only [J])
  (refine Jk 2 (.pointer (some ⟨P,0,none⟩)) rfl hH ?_;try simp only [J])
  (refine Jt 3 (.agg [sv,pv,cv].toArray) rfl (Ar rfl 26 _ rfl rfl (fun W hW=>fun j u hj=>(HP.out.ext hW).has j u (by match j,hj with | 0,hj=>exact hj | 1,hj=>exact hj | 2,hj=>exact hj | j+3,hj=>exact absurd hj (by simp))) Aj rfl) hH ?_;try simp only [J])
  (refine Ji 4 (nv) rfl hH ?_;try simp only [J])
  (refine Jt 5 (.agg cs.toArray) rfl (Ar rfl 40 _ rfl rfl (fun W hW=>(HE.out.ext hW).has) Ah h8) hH ?_;try simp only [J])
  (refine Jr 6 rfl fun K hK=>?_)
  go_simp
  refine (H2.out _ (HX.out.trans hH)).mono ?_
  rintro r w3 ⟨rfl,am⟩
  refine hK.out _ _ (hH.trans am) (fun hH=>?_)
  clear hK K
  try simp only [J]
  (refine Ji 7 (.tuple #[.int .u64 ((r2:Nat):Int),.int .i64 0]) rfl hH ?_;try simp only [J])
  (refine Jk 8 (.int .u64 ((r2:Nat):Int)) rfl hH ?_;try simp only [J])
  (refine Jk 9 (.int .i64 0) rfl hH ?_;try simp only [J])
  (refine Ji 10 (.int .u64 ((r2:Nat):Int)) rfl hH ?_;try simp only [J])
  (refine Ji 11 (.int .i64 0) rfl hH ?_;try simp only [J])
  refine Jz ?_
  go_wp2_with fail
  go_ret
  exact ⟨rfl,HX.out.trans hH⟩
 ·go_upto_region 4 with fail
  clear y3 y4 y5
  obtain rfl:r1=rr:=by rw [<-an.out,<-ao.out];rfl
  refine Jg w0 fun hH=>?_
  try simp only [J]
  (refine Ji 0 (.pointer (some ⟨P,0,none⟩)) rfl hH ?_;try simp only [J])
  (refine Jk 1 (.pointer (some ⟨P,0,none⟩)) rfl hH ?_;try simp only [J])
  (refine Jk 2 (.pointer (some ⟨P,0,none⟩)) rfl hH ?_;try simp only [J])
  (refine Jt 3 (.agg [sv,pv,cv].toArray) rfl (Ar rfl 26 _ rfl rfl (fun W hW=>fun j u hj=>(HP.out.ext hW).has j u (by match j,hj with | 0,hj=>exact hj | 1,hj=>exact hj | 2,hj=>exact hj | j+3,hj=>exact absurd hj (by simp))) Aj rfl) hH ?_;try simp only [J])
  (refine Ji 4 (ab) rfl hH ?_;try simp only [J])
  (refine Jt 5 (.agg cs.toArray) rfl (Ar rfl 40 _ rfl rfl (fun W hW=>(HE.out.ext hW).has) Ah h8) hH ?_;try simp only [J])
  (refine Jr 6 rfl fun K hK=>?_)
  go_simp
  refine (H1.out _ (HX.out.trans hH)).mono ?_
  rintro r w3 ⟨rfl,am⟩
  refine hK.out _ _ (hH.trans am) (fun hH=>?_)
  clear hK K
  try simp only [J]
  (refine Ji 7 (.tuple #[.int .u64 ((r1:Nat):Int),.int .i64 0]) rfl hH ?_;try simp only [J])
  (refine Jk 8 (.int .u64 ((r1:Nat):Int)) rfl hH ?_;try simp only [J])
  (refine Jk 9 (.int .i64 0) rfl hH ?_;try simp only [J])
  (refine Ji 10 (.int .u64 ((r1:Nat):Int)) rfl hH ?_;try simp only [J])
  (refine Ji 11 (.int .i64 0) rfl hH ?_;try simp only [J])
  refine Jz ?_
  go_wp2_with fail
  go_ret
  exact ⟨rfl,HX.out.trans hH⟩
/-! what CaseT looks for -/
theorem Si (B:Nat) (x:Int) (e:E) (cs:List Value) (w:World) (hB:Blk w B #[.int .u64 x] 35) (hV:VE w cs e) :
  Calls Tryz.prog 73 #[.agg cs.toArray,.pointer (some ⟨B,0,none⟩)] w fun r w'=>r=.returned (.bool (decide (e.v=x)))/\Ext w w':=by
 obtain ⟨s,rfl,-⟩:=hV
 have hX:=Ab w (.cells (e.cells s).toArray 40)
 have y2:=(Blk.new w (e.cells s).toArray 40).has 2 _ rfl
 have yx:=(hB.ext hX).has 0 _ rfl
 have j:=hB.lt
 clear hB
 go_enter Tryz.func73,Tryz.ntmps73
 go_upto_region 1 with fail
 generalize w.alloc _=w0 at *
 go_wp2_with fail
 go_ret
 exact ⟨Af (by rfl),hX⟩
theorem Sa:Bj Tryz.prog 73:=A9 Tryz.func73 (by kernel_rfl) rfl
theorem Vn (B:Nat) (x:Int) (t:T) (cs:List Value) (w:World) (hB:Blk w B #[.int .u64 x] 35) (hV:VT w cs t) :
  Calls Tryz.prog 71 #[.agg cs.toArray,.pointer (some ⟨B,0,none⟩)] w fun r w'=>r=.returned (.bool (t.e.any fun e=>decide (e.v=x)))/\Ext w w':=by
 obtain ⟨s,s',rfl,hE,-⟩:=hV
 have hX:=Ab w (.cells (t.cells s s').toArray 44)
 have y4:=(Blk.new w (t.cells s s').toArray 44).has 4 _ rfl
 have HC:=Jh (fun W (h:Ext w W)=>Gl 73 #[.pointer (some ⟨B,0,none⟩)] (fun e=>decide (e.v=x)) t.e s W (hE.ext h) Sa (fun wr u k hk cs j=>Si B x _ cs wr (hB.ext (h.trans u)) j))
 obtain ⟨a,b,ob,cap,rfl,-,-,-,-⟩:=hE.open
 clear hB hE
 generalize (t.e.any fun e=>decide (e.v=x))=q at *
 go_enter Tryz.func71,Tryz.ntmps71
 go_upto_region 1 with fail
 generalize w.alloc _=w0 at *
 go_wp2_with (first | (go_at_call 72;refine (HC.out _ hX).mono ?_;rintro r w1 ⟨rfl,aa⟩))
 go_ret
 exact ⟨rfl,hX.trans aa⟩
theorem Ve:Bj Tryz.prog 71:=A9 Tryz.func71 (by kernel_rfl) rfl
theorem Yw (B:Nat) (x:Int) (l:List T) (sl:Value) (w:World) (hB:Blk w B #[.int .u64 x] 35) (hL:Ts w sl l) :
  Calls Tryz.prog 70 #[sl,.func (.func 71) #[] #[.pointer (some ⟨B,0,none⟩)]] w fun r w'=>r=.returned (.int .i64 (Ge (fun a:T=>a.e.any fun e=>decide (e.v=x)) l))/\Ext w w' :=
 Pi _ _ _ l sl w hL Ve (fun wr u k hk cs j=>Vn B x _ cs wr (hB.ext u) j)
theorem Blk.grownR {w w':World} {B:Nat} {cs:Array Value} {T:TypeId} {R:Option Nat} (h:Blk w B cs T) (hg:w.grownBy w' R) (j:∀ k,R=some k->k≠B):Blk w' B cs T :=
 (hg.block B h.lt (fun e=>j B e.symm rfl)).trans h
theorem Ad2 (w:World) (R:Option Nat):w.grownBy w R:=⟨rfl,rfl,rfl,Nat.le_refl _,fun _ _ _=>rfl⟩
theorem Kr {w w':World} (h:Ext w w') (R:Option Nat):w.grownBy w' R:=⟨h.os,h.tape,h.output,h.size,fun k hk _=>h.block k hk⟩
theorem Gd {a b c:World} {R:Option Nat} (h:a.grownBy b R) (k:b.grownBy c R):a.grownBy c R :=
 ⟨k.os.trans h.os,k.tape.trans h.tape,k.output.trans h.output,Nat.le_trans h.size k.size,fun j hj u=>(k.block j (Nat.lt_of_lt_of_le hj h.size) u).trans (h.block j hj u)⟩
structure Pl (d:Bb) (sv pv cv wasv:Value) (was:List Nat) (wb:World):Prop where
 ok:d.ok
 hc:By d=0
 flat:Ck wb (.agg #[sv,pv,cv]) d
 us:Us wb wasv was
 vw:Fl d.signals was
structure PlW (d:Bb) (sv pv cv wasv nv:Value) (ck:Bool) (P:Nat) (wb:World) (v:List Nat) (w:World):Prop where
 ext:Ext wb w
 val:Fl d.signals v
 row:Ax wb.heap.size nv v w
 blk:Blk w P (Oj sv pv cv wasv nv ck).toArray 59
abbrev Ac7 (nv:Value) (wb:World) (v:List Nat) (w:World) (r:Ending) (w':World):Prop:=r=.returned (.tuple #[])/\Ax wb.heap.size nv v w'/\w.grownBy w' nv.ownBlock
section
variable {d:Bb} {sv pv cv wasv nv:Value} {was v:List Nat} {ck:Bool} {P:Nat} {wb w w':World}
theorem PlW.grown {v':List Nat} (h:PlW d sv pv cv wasv nv ck P wb v w) (hv:Fl d.signals v') (hr:Ax wb.heap.size nv v' w') (hg:w.grownBy w' nv.ownBlock):PlW d sv pv cv wasv nv ck P wb v' w' :=
 ⟨Below.grown h.ext hg h.ext.size (fun k hk=>(hr.at hk).1),hv,hr,h.blk.grownR hg (fun k hk=>h.row.ne h.blk (by decide) hk)⟩
theorem PlW.ext' (h:PlW d sv pv cv wasv nv ck P wb v w) (hx:Ext w w'):PlW d sv pv cv wasv nv ck P wb v w' :=
 ⟨h.ext.trans hx,h.val,h.row.ext hx,h.blk.ext hx⟩
theorem Ae5 (H:Pl d sv pv cv wasv was wb) (h:PlW d sv pv cv wasv nv ck P wb v w) (e:E) (cs:List Value) (hV:VE w cs e) (j:WS d.signals e/\e.wf/\nodes e<=65536/\Cu e<=64) :
  Calls Tryz.prog 69 #[.pointer (some ⟨P,0,none⟩),.agg cs.toArray] w fun r w'=>r=.returned (.int .u64 ((evM (if ck then was else v) e:Nat):Int))/\Ext w w' :=
 Yx d H.ok H.hc sv pv cv wasv nv was v ck P e cs w (H.flat.ext h.ext) (H.us.ext h.ext) h.row.cells H.vw h.val h.blk hV j
end
def M9 (d:Bb) (sv pv cv wasv nv:Value) (was:List Nat) (ck:Bool) (P:Nat) (wb:World) (t:T):Prop :=
 ∀ (v:List Nat) (cs:List Value) (w:World),PlW d sv pv cv wasv nv ck P wb v w->VT wb cs t->Calls Tryz.prog 38 #[.pointer (some ⟨P,0,none⟩),.agg cs.toArray] w (Ac7 nv wb (Fz ck was t v) w)
def Qp (d:Bb) (sv pv cv wasv nv:Value) (was:List Nat) (ck:Bool) (P:Nat) (wb:World) (l:List T):Prop :=
 ∀ (v:List Nat) (sl:Value) (w:World),PlW d sv pv cv wasv nv ck P wb v w->Ts wb sl l->Calls Tryz.prog 21 #[.pointer (some ⟨P,0,none⟩),sl] w (Ac7 nv wb (allM ck was l v) w)
theorem Yv {d:Bb} {sv pv cv ab nv:Value} {aa:List Nat} {ck:Bool} {P:Nat} {wb:World} (H:Pl d sv pv cv ab aa wb) (l:List T) (bd:l.length<=1048576) (hl:∀ t∈l,M9 d sv pv cv ab nv aa ck P wb t/\Gc d.signals ck t):Qp d sv pv cv ab nv aa ck P wb l:=by
 intro v sl w hW hL
 have aw:∀ x∈d.signals,x.w<=64:=fun x hx=>(Dv H.hc x hx).2
 obtain ⟨ac,af,ai,ag⟩:∃ ac:Nat->List Nat,ac 0=v/\(∀ k (hk:k<l.length),ac (k+1)=Fz ck aa l[k] (ac k))/\ac l.length=allM ck aa l v :=
  ⟨fun k=>allM ck aa (l.take k) v,by simp only [List.take_zero];exact I4 _ _ _,fun k hk=>by simp only [Ba _ _ hk,Xo,Hr,I4],by simp only [List.take_length]⟩
 have HS:=Jh ai
 have a2:=Jh ag
 have a3:=Jh hl
 have HV:=Jh (show ∀ k (hk:k<l.length) u,Fl d.signals u->Fl d.signals (Fz ck aa l[k] u) from fun k hk u hu=>(Vl aw H.vw l[k] (hl _ (List.getElem_mem hk)).2).1 u hu)
 have ba:=Jh (fun W (h:Ext wb W)=>hL.ext h)
 obtain ⟨a,b,o,cap,rfl,bb,bc,ha,hr⟩:=hL.open
 have HA:=Jh ha
 have HR:=Jh hr
 have HW:=Jh hW
 have H0:=Jh af
 clear hL ha hr hW hl af ai ag aw
 go_enter Tryz.func21,Tryz.ntmps21
 go_wp2_with fail
 go_loopw [8] (fun i wr=>∃ k:Nat,k<=l.length/\i=.int .i64 k/\PlW d sv pv cv ab nv ck P wb (ac k) wr/\w.grownBy wr nv.ownBlock) (fun i _=>l.length-(intOf i).toNat)
 case atStart=>exact ⟨0,Nat.zero_le _,rfl,by rw [H0.out];exact HW.out,Ad2 _ _⟩
 case round =>
  obtain ⟨k,hk,rfl,ax,av⟩:=hrel
  have al:=Jh ax
  have ao:=Jh av
  clear ax av
  by_cases ae:k<l.length
  ·obtain rfl:=HA.out (by omega)
   have aj:=(a3.out _ (List.getElem_mem ae)).1
   have ak:=HV.out k ae _ al.out.val
   have j:=HS.out k ae
   obtain ⟨s1,s2,am,he,ht⟩:=Ts.get HR.out ae
   rw [<-j] at ak
   generalize l[k]=t at *
   have ap:=Jh ak
   have a5:=Jh j
   have a7:=Jh (show VT wb (t.cells s1 s2) t from ⟨s1,s2,rfl,he,ht⟩)
   have a1:=Jh (am.ext al.out.ext)
   have a4:=Jh aj
   have ah:=he.one
   have a6:=ht.one
   clear aj ak j am he ht
   have ay:=Ab wr (.cells (t.cells s1 s2).toArray 44)
   have ar:=Blk.new wr (t.cells s1 s2).toArray 44
   have aq:=Jh ay
   have az:=Jh ar
   clear ay ar
   go_upto_region 3 with (first | ((with_reducible show Jl 44);refine Aa rfl 44 _ rfl rfl (a1.out) Aw rfl ?_) | ((with_reducible show Js 44);refine Ad rfl 44 _ _ rfl rfl (by first | rfl | simp) rfl Aw (rfl) rfl (by simp [ah,a6,Bc]) ?_))
   generalize wr.alloc _=w4 at *
   have an:=al.out.ext' aq.out
   have HC:=Jh (a4.out _ _ _ an a7.out)
   have a0:=Jh (Gd ao.out (Kr aq.out _))
   have a8:=Jh an
   clear an
   go_wp2_with (first | ((with_reducible show Jl 44);refine Aa rfl 44 _ rfl rfl (az.out.has) Aw rfl ?_) | (go_at_call 38;refine (HC.out).mono ?_;rintro r w5 ⟨rfl,a9,au⟩))
   go_roundw
   case rel=>exact ⟨k+1,ae,by go_num,a8.out.grown ap.out (by rw [a5.out];exact a9) au,Gd a0.out au⟩
   case measure=>simp [intOf];omega
  ·obtain rfl:k=l.length:=by omega
   go_wp2_with fail
   all_goals go_end0
   exact ⟨rfl,by rw [<-a2.out];exact al.out.row,ao.out⟩
theorem Acf {d:Bb} {sv pv cv ak nv:Value} {j:List Nat} {ck:Bool} {P:Nat} {wb:World} (H:Pl d sv pv cv ak j wb) {t:T} (hr:Gc d.signals ck t) (ho:t.op=1):M9 d sv pv cv ak nv j ck P wb t:=by
 intro v cs w hW hV
 have af:∀ x∈d.signals,x.w<=64:=fun x hx=>(Dv H.hc x hx).2
 obtain ⟨h1,h2,-⟩:=(Fe _ _ t).1 hr
 obtain ⟨bm,x,hx,br⟩:slice d.signals t.sig t.hi t.lo=true/\∃ x,t.e=[x]/\x.w=t.hi-t.lo+1:=by
  rcases h2 with ⟨-,a,-,b,-⟩ | ⟨o,-⟩ | ⟨o,-⟩ | o | o
  ·exact ⟨a,b⟩
  all_goals omega
 obtain ⟨q1,q2,q3,q4,q5,-⟩:=Gw d.signals af bm
 have q6:=Ol d.signals af t.sig
 have u:=h1 x (by simp [hx])
 have al:=Aa7 (vs:=if ck then j else v) af x u.1 u.2.1
 have av:Fz ck j t v=P9 v t.sig t.hi t.lo (evM (if ck then j else v) x):=by rw [Aeu ck j v ho,hx];rfl
 rw [br] at al
 obtain ⟨sg,a4⟩:=Int.eq_ofNat_of_zero_le q1
 obtain ⟨lo,an⟩:=Int.eq_ofNat_of_zero_le q3
 obtain ⟨hi,am⟩:=Int.eq_ofNat_of_zero_le (Int.le_trans q3 q4)
 have bv:=hW.val.1
 have ai:sg<v.length:=by omega
 obtain ⟨g,cap,ab,hN,bj⟩:=hW.row.open1 (by omega)
 have ax:=Mr af hW.val _ (List.getElem_mem ai)
 have bg:=bj sg _ (List.getElem?_eq_getElem ai)
 have bk:w.frozen? ⟨g,sg,none⟩=false:=by
  have h:=hW.row
  rw [ab] at h
  obtain ⟨-,bf,aa⟩:=h.at rfl
  exact Blk.frozen (cs:=bf) (T:=35) aa sg
 have ag:=hW.row
 rw [ab] at ag
 have a3:=ag.set sg ai (Dm v[sg] hi lo (evM (if ck then j else v) x))
 have aw:P9 v t.sig t.hi t.lo (evM (if ck then j else v) x)=v.set sg (Dm v[sg] hi lo (evM (if ck then j else v) x)):=by
  unfold P9
  rw [a4,an,am,Int.toNat_natCast,Int.toNat_natCast,Int.toNat_natCast,List.getD_eq_getElem?_getD,List.getElem?_eq_getElem ai,Option.getD_some]
 rw [an,am,show ((hi:Int)-lo+1).toNat=hi+1-lo by omega] at al
 have a2:lo<=hi:=by omega
 have ah:hi<64:=by omega
 obtain ⟨-,bf,aa⟩:=hW.row.at (k:=g) (by rw [ab];rfl)
 have bl:g<w.heap.size:=(Array.getElem?_eq_some_iff.1 aa).1
 have bu:P≠g:=fun e=>hW.row.ne hW.blk (by decide) (k:=g) (by rw [ab];rfl) e.symm
 obtain ⟨se,sl,rfl,he,-⟩:=hV
 obtain ⟨ae,be,oe,ce,rfl,au,bi,a0,a1⟩:=he.open
 rw [hx] at au a0 a1
 obtain rfl:=a0 (by simp)
 obtain ⟨sx,ao,ap⟩:=Es.get a1 (k:=0) (by simp)
 have ao:Has wb be oe (x.cells sx):=by simpa using ao
 have ap:Es wb sx x.l:=by simpa using ap
 have bo:t.cells (.slice (some ⟨be,oe,none⟩) t.e.length ce) sl=[.int .i64 1,.int .i64 (sg:Int),.int .i64 (hi:Int),.int .i64 (lo:Int),.slice (some ⟨be,oe,none⟩) 1 ce,sl]:=by
  unfold T.cells;rw [ho,a4,am,an,hx];rfl
 rw [bo,av,aw]
 have x0:=Ab w (.cells [.int .i64 1,.int .i64 (sg:Int),.int .i64 (hi:Int),.int .i64 (lo:Int),.slice (some ⟨be,oe,none⟩) 1 ce,sl].toArray 44)
 have hT:=Blk.new w [.int .i64 1,.int .i64 (sg:Int),.int .i64 (hi:Int),.int .i64 (lo:Int),.slice (some ⟨be,oe,none⟩) 1 ce,sl].toArray 44
 have ar:=Jh (fun W (h:Ext w W)=>Ae5 H (hW.ext' h) x _ ⟨sx,rfl,ap.ext (hW.ext.trans h)⟩ u)
 have bd:=Jh (fun W (h:Ext w W)=>ao.ext (hW.ext.trans h))
 have HP:=Jh (fun W (h:Ext w W)=>hW.blk.ext h)
 have HC:=Jh (fun W (h:Ext w W)=>show W.cell? ⟨g,sg,none⟩=some (W64 v[sg]) from (h.cell (p:=⟨g,sg,none⟩) bl).trans bg)
 have a5:=Jh (fun W (h:Ext w W)=>show W.frozen? ⟨g,sg,none⟩=false from (h.frozen (p:=⟨g,sg,none⟩) bl).trans bk)
 have aq:=Jh (fun W (h:Ext w W)=>((ab ▸ hW.row:Ax wb.heap.size (.slice (some ⟨g,0,none⟩) v.length cap) v w).ext h).set sg ai (Dm v[sg] hi lo (evM (if ck then j else v) x)))
 subst ab
 have ba:=Jh (Afe a2 ah ax al)
 have a7:=Jh (Aaa a2 ah)
 have a6:=Jh (Od a2 ah)
 have HN:=Jh hN
 have bw:v.length<=1048576:=by have:=H.ok.signals;omega
 clear ag a3 av aw af h1 h2 bm hx br q1 q2 q3 q4 q5 q6 u al a4 an am bv bj ax bg bk aa he au bi a0 a1 ao ap bo hr ho
 generalize evM (if ck then j else v) x=X at *
 generalize v[sg]=y at *
 generalize Gg hi lo=M at *
 go_enter Tryz.func38,Tryz.ntmps38
 go_upto_region 1 with fail
 generalize w.alloc _=w0 at *
 have HT:=Jh hT
 have y0:=hT.has 0 _ rfl
 have y4:=hT.has 4 _ rfl
 have e0:=bd.out w0 x0
 have bc:=Jh (ar.out w0 x0)
 clear hT
 go_upto_region 5 with (first | ((with_reducible show Jl 40);refine Aa rfl 40 _ rfl rfl (e0) Ah rfl ?_) | (go_at_call 69;refine (bc.out).mono ?_;rintro r w1 ⟨rfl,u⟩))
 have ay:=Jh (x0.trans u)
 have ac:=Jh (HT.out.ext u)
 have a8:=Jh (HP.out w1 ay.out)
 clear u x0 y0 y4 e0 bc ar HT
 refine Jg w1 fun hH=>?_
 try simp only [J]
 (refine Jk 0 (.pointer (some ⟨w.heap.size,2,none⟩)) rfl hH ?_;try simp only [J])
 (refine Jt 1 (.int .i64 (hi:Int)) rfl (yif_load1 rfl (by intro W hW;have z:=(ac.out.ext hW).has 2 _ rfl;clear hW;go_simp)) hH ?_;try simp only [J])
 (refine Jk 2 (.pointer (some ⟨w.heap.size,3,none⟩)) rfl hH ?_;try simp only [J])
 (refine Jt 3 (.int .i64 (lo:Int)) rfl (yif_load1 rfl (by intro W hW;have z:=(ac.out.ext hW).has 3 _ rfl;clear hW;go_simp)) hH ?_;try simp only [J])
 (refine Jt 4 (.int .i64 ((hi-lo:Nat):Int)) rfl (yif_load1 rfl (by intro W hW;clear hW;go_simp;rw [IntKind.wrap_i64];omega)) hH ?_;try simp only [J])
 (refine Jt 5 (.int .i64 ((63-(hi-lo):Nat):Int)) rfl (yif_load1 rfl (by intro W hW;clear hW;go_simp;rw [IntKind.wrap_i64];omega)) hH ?_;try simp only [J])
 (refine Jt 6 (.int .u64 ((18446744073709551615:Int).fdiv (2^(63-(hi-lo))))) rfl (yif_load1 rfl (by intro W hW;clear hW;go_simp;exact (Int.fdiv_eq_ediv_of_nonneg _ (Int.le_of_lt (Int.pow_pos (by decide)))).symm)) hH ?_;try simp only [J])
 (refine Jk 7 (.pointer (some ⟨w.heap.size,3,none⟩)) rfl hH ?_;try simp only [J])
 (refine Jt 8 (.int .i64 (lo:Int)) rfl (yif_load1 rfl (by intro W hW;have z:=(ac.out.ext hW).has 3 _ rfl;clear hW;go_simp)) hH ?_;try simp only [J])
 (refine Jt 9 (.int .u64 (M:Int)) rfl (yif_load1 rfl (by intro W hW;clear hW;go_simp;exact a7.out)) hH ?_;try simp only [J])
 (refine Jt 10 (.int .u64 ((18446744073709551615-M:Nat):Int)) rfl (yif_load1 rfl (by intro W hW;clear hW;go_simp;exact Abb a6.out)) hH ?_;try simp only [J])
 (refine Ji 11 (.int .u64 ((18446744073709551615-M:Nat):Int)) rfl hH ?_;try simp only [J])
 refine Jz ?_
 have az:=Jh (ay.out.trans hH)
 have bb:=Jh (ac.out.ext hH)
 have a9:=Jh (a8.out.ext hH)
 clear hH ay ac a8 a7 a6 bd
 generalize w1.drew=w2 at *
 go_upto_region 6 with fail
 refine wp_region_held_drew (S:=fun W=>Blk W w.heap.size [.int .i64 1,.int .i64 (sg:Int),.int .i64 (hi:Int),.int .i64 (lo:Int),.slice (some ⟨be,oe,none⟩) 1 ce,sl].toArray 44/\Blk W P (Oj sv pv cv ak (.slice (some ⟨g,0,none⟩) v.length cap) ck).toArray 59) (by kernel_rfl) ⟨bb.out.drew,a9.out.drew⟩ (fun hH=>?_)
 try simp only [J]
 (refine Ji 0 (.pointer (some ⟨P,0,none⟩)) rfl hH ?_;try simp only [J])
 (refine Jk 1 (.pointer (some ⟨P,0,none⟩)) rfl hH ?_;try simp only [J])
 (refine Jk 2 (.pointer (some ⟨P,4,none⟩)) rfl hH ?_;try simp only [J])
 (refine Jt 3 (.slice (some ⟨g,0,none⟩) v.length cap) rfl (yif_load1 rfl (by intro W hW;have z:=hW.2.has 4 _ rfl;clear hW;go_simp)) hH ?_;try simp only [J])
 (refine Jk 4 (.pointer (some ⟨w.heap.size,1,none⟩)) rfl hH ?_;try simp only [J])
 (refine Jt 5 (.int .i64 (sg:Int)) rfl (yif_load1 rfl (by intro W hW;have z:=hW.1.has 1 _ rfl;clear hW;go_simp)) hH ?_;try simp only [J])
 (refine Ji 6 (.pointer (some ⟨P,0,none⟩)) rfl hH ?_;try simp only [J])
 (refine Jk 7 (.pointer (some ⟨P,0,none⟩)) rfl hH ?_;try simp only [J])
 (refine Jk 8 (.pointer (some ⟨P,4,none⟩)) rfl hH ?_;try simp only [J])
 (refine Jt 9 (.slice (some ⟨g,0,none⟩) v.length cap) rfl (yif_load1 rfl (by intro W hW;have z:=hW.2.has 4 _ rfl;clear hW;go_simp)) hH ?_;try simp only [J])
 (refine Jk 10 (.pointer (some ⟨w.heap.size,1,none⟩)) rfl hH ?_;try simp only [J])
 (refine Jt 11 (.int .i64 (sg:Int)) rfl (yif_load1 rfl (by intro W hW;have z:=hW.1.has 1 _ rfl;clear hW;go_simp)) hH ?_;try simp only [J])
 (refine Jp 12 (.pointer (some ⟨g,sg,none⟩)) rfl hH ?_;try simp only [J])
 (refine Ji 14 (.int .u64 ((18446744073709551615-M:Nat):Int)) rfl hH ?_;try simp only [J])
 (refine Ji 16 (.int .u64 (X:Int)) rfl hH ?_;try simp only [J])
 (refine Jk 17 (.pointer (some ⟨w.heap.size,3,none⟩)) rfl hH ?_;try simp only [J])
 (refine Jt 18 (.int .i64 (lo:Int)) rfl (yif_load1 rfl (by intro W hW;have z:=hW.1.has 3 _ rfl;clear hW;go_simp)) hH ?_;try simp only [J])
 (refine Jk 19 (.int .u64 (IntKind.u64.wrap ((X:Int)*2^lo))) rfl hH ?_;try simp only [J])
 have c1:=HC.out _ (az.out.trans (Below.drew (Below.refl _ w2)))
 (refine Jr 13 rfl fun K hK=>?_)
 go_simp
 refine hK.out _ _ hH (fun hH=>?_)
 clear hK K c1
 try simp only [J]
 (refine Jk 15 (.int .u64 (bits .and .u64 (y:Int) ((18446744073709551615-M:Nat):Int))) rfl hH ?_;try simp only [J])
 (refine Jt 20 (.int .u64 ((Dm y hi lo X:Nat):Int)) rfl (yif_load1 rfl (by intro W hW;clear hW;go_simp;exact ba.out)) hH ?_;try simp only [J])
 (refine Jp 21 (.pointer (some ⟨g,sg,none⟩)) rfl hH ?_;try simp only [J])
 have aj:Ext w w2.drew:=az.out.trans (Below.drew (Below.refl _ w2))
 have f1:=a5.out _ aj
 have c1:=HC.out _ aj
 have bt:=Jh (aq.out _ aj)
 have bs:=Jh (Gd (Kr aj (some g)) (Ay w2.drew g sg (W64 (Dm y hi lo X))))
 clear aj ba HC a5 aq az bb a9
 generalize Dm y hi lo X=Z at *
 (refine Jr 22 rfl fun K hK=>?_)
 go_simp
 have bp:Blk (w2.drew.setCell ⟨g,sg,none⟩ (W64 Z)) w.heap.size _ _:=hH.1.grown (Ay _ g sg _) (by omega)
 have bq:Blk (w2.drew.setCell ⟨g,sg,none⟩ (W64 Z)) P _ _:=hH.2.grown (Ay _ g sg _) bu
 refine hK.out _ _ ⟨bp,bq⟩ (fun hH=>?_)
 clear hK K c1 f1 bp bq
 refine Jz ?_
 clear hH
 go_wp2_with fail
 all_goals go_end0
 exact ⟨rfl,bt.out,bs.out⟩
theorem Af2 {l:List T} (h:0<l.length) (x:Int):(Ge (fun a:T=>a.e.any fun e=>decide (e.v=x)) l<0->Lo l x=l.length-1)/\(0<=Ge (fun a:T=>a.e.any fun e=>decide (e.v=x)) l->Ge (fun a:T=>a.e.any fun e=>decide (e.v=x)) l=(Lo l x:Int)):=by
 unfold Ge Lo
 by_cases c:l.any (fun a:T=>a.e.any fun e=>decide (e.v=x))=true
 ·rw [if_pos c]
  have u:l.findIdx (fun a:T=>a.e.any fun e=>decide (e.v=x))<l.length:=List.findIdx_lt_length.2 (by simpa using List.any_eq_true.1 c)
  generalize l.findIdx _=k at *
  exact ⟨fun h=>by omega,fun _=>by rw [Nat.min_eq_left (by omega)]⟩
 ·rw [if_neg c]
  have j:l.findIdx (fun a:T=>a.e.any fun e=>decide (e.v=x))=l.length:=List.findIdx_eq_length.2 (by
   intro a ha
   have:=List.any_eq_false.1 (by simpa using c:l.any (fun a:T=>a.e.any fun e=>decide (e.v=x))=false) a ha
   simpa using this)
  rw [j]
  exact ⟨fun _=>by omega,fun h=>by omega⟩
theorem Pt {d:Bb} {sv pv cv ab nv:Value} {ac:List Nat} {ck:Bool} {P:Nat} {wb:World} {t:T} (ho:t.op=4\/t.op=5) (u:Qp d sv pv cv ab nv ac ck P wb t.l):M9 d sv pv cv ab nv ac ck P wb t:=by
 intro v cs w hW hV
 have aa:=Aex ck ac (t:=t) v ho
 obtain ⟨se,sl,rfl,he,hl⟩:=hV
 have j:=u v sl
 obtain ⟨ae,be,oe,ce,rfl,-,-,-,-⟩:=he.open
 obtain ⟨al,bl,ol,cl,rfl,-,-,-,-⟩:=hl.open
 have x0:=Ab w (.cells (t.cells (.slice ae t.e.length ce) (.slice al t.l.length cl)).toArray 44)
 have hT:=Blk.new w (t.cells (.slice ae t.e.length ce) (.slice al t.l.length cl)).toArray 44
 have af:=Jh (j _ (hW.ext' x0) hl)
 rw [aa]
 have b1:(t.op==1)=false:=by rw [beq_eq_false_iff_ne];omega
 have b2:(t.op==2)=false:=by rw [beq_eq_false_iff_ne];omega
 have b3:(t.op==3)=false:=by rw [beq_eq_false_iff_ne];omega
 clear aa ho he hl u j hW
 go_enter Tryz.func38,Tryz.ntmps38
 go_upto_region 1 with fail
 generalize w.alloc _=w0 at *
 have y0:=hT.has 0 _ rfl
 have y5:=hT.has 5 _ rfl
 go_wp2_with (first | (go_at_call 21;refine (af.out).mono ?_;rintro r w1 ⟨rfl,ai,ag⟩))
 all_goals go_end0
 exact ⟨rfl,ai,Gd (Kr x0 _) ag⟩
theorem Ae4 {d:Bb} {sv pv cv ac nv:Value} {j:List Nat} {ck:Bool} {P:Nat} {wb:World} (H:Pl d sv pv cv ac j wb) {t:T} (hr:Gc d.signals ck t) (ho:t.op=2) (ai:∀ x∈t.l,Qp d sv pv cv ac nv j ck P wb x.l):M9 d sv pv cv ac nv j ck P wb t:=by
 intro v cs w hW hV
 obtain ⟨h1,h2,-⟩:=(Fe _ _ t).1 hr
 obtain ⟨⟨x,hx⟩,ta,tb,hab⟩:(∃ x,t.e=[x])/\∃ a b,t.l=[a,b]:=by
  rcases h2 with ⟨o,-⟩ | ⟨-,⟨x,hx,-⟩,hab⟩ | ⟨o,-⟩ | o | o
  ·omega
  ·exact ⟨⟨x,hx⟩,hab⟩
  all_goals omega
 have bj:=h1 x (by simp [hx])
 have aw:Fz ck j t v=if evM (if ck then j else v) x=0 then allM ck j tb.l v else allM ck j ta.l v:=by
  rw [Aev ck j v ho,hx,hab]
  show Fz.nthM ck j [ta,tb] (if evM (if ck then j else v) x=0 then 1 else 0) v=_
  by_cases c:evM (if ck then j else v) x=0
  ·rw [if_pos c,if_pos c,Mo ck j _ 1 v (by simp)];rfl
  ·rw [if_neg c,if_neg c,Mo ck j _ 0 v (by simp)];rfl
 have hA:=ai ta (by simp [hab])
 have hB:=ai tb (by simp [hab])
 obtain ⟨se,sl,rfl,he,hl⟩:=hV
 obtain ⟨ae,be,oe,ce,rfl,au,bd,ay,ah⟩:=he.open
 obtain ⟨al,bl,ol,cl,rfl,av,bf,az,ap⟩:=hl.open
 rw [hx] at au ay ah
 rw [hab] at av az ap
 obtain rfl:=ay (by simp)
 obtain rfl:=az (by simp)
 obtain ⟨sx,aq,ar⟩:=Es.get ah (k:=0) (by simp)
 have aq:Has wb be oe (x.cells sx):=by simpa using aq
 have ar:Es wb sx x.l:=by simpa using ar
 obtain ⟨ea,la,am,af,u⟩:=Ts.get ap (k:=0) (by simp)
 have am:Has wb bl ol (ta.cells ea la):=by simpa using am
 have af:Es wb ea ta.e:=af
 have u:Ts wb la ta.l:=u
 obtain ⟨eb,lb,an,ag,aa⟩:=Ts.get ap (k:=1) (by simp)
 have an:Has wb bl (ol+6) (tb.cells eb lb):=by simpa using an
 have ag:Es wb eb tb.e:=ag
 have aa:Ts wb lb tb.l:=aa
 have a0:=Jh (fun W (h:PlW d sv pv cv ac nv ck P wb v W)=>hA v la W h u)
 have a1:=Jh (fun W (h:PlW d sv pv cv ac nv ck P wb v W)=>hB v lb W h aa)
 have oa:(ta.cells ea la).all (·.oneCell')=true:=by simp [af.one,u.one,Bc]
 have ob:(tb.cells eb lb).all (·.oneCell')=true:=by simp [ag.one,aa.one,Bc]
 obtain ⟨br,bw,bz,bs,rfl,-,-,-,-⟩:=u.open
 obtain ⟨a6,bx,bh,a7,rfl,-,-,-,-⟩:=aa.open
 have bi:t.cells (.slice (some ⟨be,oe,none⟩) t.e.length ce) (.slice (some ⟨bl,ol,none⟩) t.l.length cl)=[.int .i64 2,.int .i64 t.sig,.int .i64 t.hi,.int .i64 t.lo,.slice (some ⟨be,oe,none⟩) 1 ce,.slice (some ⟨bl,ol,none⟩) 2 cl]:=by
  unfold T.cells;rw [ho,hx,hab];rfl
 rw [bi,aw]
 have x0:=Ab w (.cells [.int .i64 2,.int .i64 t.sig,.int .i64 t.hi,.int .i64 t.lo,.slice (some ⟨be,oe,none⟩) 1 ce,.slice (some ⟨bl,ol,none⟩) 2 cl].toArray 44)
 have hT:=Blk.new w [.int .i64 2,.int .i64 t.sig,.int .i64 t.hi,.int .i64 t.lo,.slice (some ⟨be,oe,none⟩) 1 ce,.slice (some ⟨bl,ol,none⟩) 2 cl].toArray 44
 have HW:=Jh (fun W (h:Ext w W)=>hW.ext' h)
 have a5:=Jh (fun W (h:Ext w W)=>Ae5 H (hW.ext' h) x _ ⟨sx,rfl,ar.ext (hW.ext.trans h)⟩ bj)
 have bq:=Jh (fun W (h:Ext w W)=>aq.ext (hW.ext.trans h))
 have bk:=Jh (fun W (h:Ext w W)=>am.ext (hW.ext.trans h))
 have bm:=Jh (fun W (h:Ext w W)=>an.ext (hW.ext.trans h))
 clear aw h1 h2 hx hab bj hA hB he hl au bd av bf ay az ah ap aq ar am an af u ag aa bi hr ho ai hW
 generalize evM (if ck then j else v) x=X at *
 obtain ⟨R,hR⟩:∃ R,(if X=0 then allM ck j tb.l v else allM ck j ta.l v)=R:=⟨_,rfl⟩
 have HR:=Jh hR
 rw [hR]
 clear hR
 have bg:(w.alloc (.cells [.int .i64 2,.int .i64 t.sig,.int .i64 t.hi,.int .i64 t.lo,.slice (some ⟨be,oe,none⟩) 1 ce,.slice (some ⟨bl,ol,none⟩) 2 cl].toArray 44)).heap.size=w.heap.size+1:=by simp
 have bp:=Jh bg
 clear bg
 go_enter Tryz.func38,Tryz.ntmps38
 go_upto_region 1 with fail
 generalize w.alloc _=w0 at *
 have HT:=Jh hT
 have y0:=hT.has 0 _ rfl
 have y5:=hT.has 5 _ rfl
 have a9:=bm.out w0 x0
 have x2:=Ab w0 (.cells (tb.cells eb (.slice a6 tb.l.length a7)).toArray 44)
 have bc:=Blk.new w0 (tb.cells eb (.slice a6 tb.l.length a7)).toArray 44
 have X2:=Jh (x0.trans x2)
 have a3:=Jh (hT.ext x2)
 have ax:=Jh bc
 clear hT x0 x2 bc
 go_upto_region 9 with (first | ((with_reducible show Jl 44);refine Aa rfl 44 _ rfl rfl (a9) Aw rfl ?_) | ((with_reducible show Js 44);refine Ad rfl 44 _ _ rfl rfl (by first | rfl | simp) rfl Aw (rfl) rfl (ob) ?_))
 clear y0 y5 a9
 obtain ⟨B6,ba⟩:∃ B,w0.heap.size=B:=⟨_,rfl⟩
 rw [ba] at ax ⊢
 have bo:=Jh (show w.heap.size<=B6 by have:=bp.out;omega)
 clear ba
 generalize w0.alloc _=w2 at *
 have z4:=a3.out.has 4 _ rfl
 have aj:=bq.out w2 X2.out
 have a4:=Jh (a5.out w2 X2.out)
 by_cases ak:X=0
 ·have c0:((X:Int) != 0)=false:=by rw [bne_eq_false_iff_eq];omega
  obtain rfl:allM ck j tb.l v=R:=by rw [<-HR.out,if_pos ak]
  clear ak
  go_upto_region 11 with (first | ((with_reducible show Jl 40);refine Aa rfl 40 _ rfl rfl (aj) Ah rfl ?_) | (go_at_call 69;refine (a4.out).mono ?_;rintro r w3 ⟨rfl,ab⟩))
  have X3:=Jh (X2.out.trans ab)
  have q5:=(ax.out.ext ab).has 5 _ rfl
  have HC:=Jh (a1.out w3 (HW.out w3 X3.out))
  clear ab z4 aj
  go_wp2_with (first | (go_at_call 21;refine (HC.out).mono ?_;rintro r w4 ⟨rfl,bu,ao⟩))
  all_goals go_end0
  exact ⟨rfl,bu,Gd (Kr X3.out _) ao⟩
 ·have c0:((X:Int) != 0)=true:=by rw [bne_iff_ne];omega
  obtain rfl:allM ck j ta.l v=R:=by rw [<-HR.out,if_neg ak]
  clear ak
  go_upto_region 10 with (first | ((with_reducible show Jl 40);refine Aa rfl 40 _ rfl rfl (aj) Ah rfl ?_) | (go_at_call 69;refine (a4.out).mono ?_;rintro r w3 ⟨rfl,ab⟩))
  have X3:=Jh (X2.out.trans ab)
  have a2:=Jh (ax.out.ext ab)
  have z5:=(a3.out.ext ab).has 5 _ rfl
  have a8:=bk.out w3 X3.out
  clear ab z4 aj
  go_upto_region 11 with (first | ((with_reducible show Jl 44);refine Aa rfl 44 _ rfl rfl (a8) Aw rfl ?_) | ((with_reducible show Js 44);refine Ac rfl 44 _ _ rfl (a2.out) rfl (cs:=ta.cells ea (.slice br ta.l.length bs)) (rfl) Aw (rfl) rfl (oa) ?_;intro w4 bb ao))
  have X4:=Jh (X3.out.grown ao bo.out)
  have q5:=bb.has 5 _ rfl
  have HC:=Jh (a0.out w4 (HW.out w4 X4.out))
  clear bb ao a8 z5
  go_wp2_with (first | (go_at_call 21;refine (HC.out).mono ?_;rintro r w5 ⟨rfl,bv,bt⟩))
  all_goals go_end0
  exact ⟨rfl,bv,Gd (Kr X4.out _) bt⟩
theorem Aak {d:Bb} {sv pv cv ab nv:Value} {j:List Nat} {ck:Bool} {P:Nat} {wb:World} (H:Pl d sv pv cv ab j wb) {t:T} (hr:Gc d.signals ck t) (bo:t.l.length<=1048576) (ho:t.op=3) (ao:∀ x∈t.l,Qp d sv pv cv ab nv j ck P wb x.l):M9 d sv pv cv ab nv j ck P wb t:=by
 intro v cs w hW hV
 obtain ⟨h1,h2,-⟩:=(Fe _ _ t).1 hr
 obtain ⟨⟨x,hx⟩,hl0⟩:(∃ x,t.e=[x])/\0<t.l.length:=by
  rcases h2 with ⟨o,-⟩ | ⟨o,-⟩ | ⟨-,hx,h,-⟩ | o | o
  ·omega
  ·omega
  ·exact ⟨hx,h⟩
  all_goals omega
 have ac:=h1 x (by simp [hx])
 obtain ⟨X,av⟩:∃ X,evM (if ck then j else v) x=X:=⟨_,rfl⟩
 obtain ⟨K,hK⟩:∃ K,Lo t.l (X:Int)=K:=⟨_,rfl⟩
 have aj:K<t.l.length:=by rw [<-hK];exact U5 hl0 _
 have aq:Fz ck j t v=allM ck j t.l[K].l v:=by
  rw [Aew ck j v ho,hx]
  show Fz.nthM ck j t.l (Lo t.l (evM (if ck then j else v) x)) v=_
  rw [av,hK,Mo ck j _ K v aj]
 have aa:=Af2 hl0 (X:Int)
 rw [hK] at aa
 obtain ⟨se,sl,rfl,he,hl⟩:=hV
 have ar:=Jh (fun B W (h:Ext wb W) (hb:Blk W B #[.int .u64 (X:Int)] 35)=>Yw B (X:Int) t.l sl W hb (hl.ext h))
 obtain ⟨ae,be,oe,ce,rfl,ap,ba,aw,ax⟩:=he.open
 obtain ⟨al,bl,ol,cl,rfl,bb,bc,a8,bd⟩:=hl.open
 rw [hx] at ap aw ax
 obtain rfl:=aw (by simp)
 obtain rfl:=a8 hl0
 obtain ⟨sx,ak,am⟩:=Es.get ax (k:=0) (by simp)
 have ak:Has wb be oe (x.cells sx):=by simpa using ak
 have am:Es wb sx x.l:=by simpa using am
 obtain ⟨ea,la,a7,a6,ai⟩:=Ts.get bd aj
 have hA:=ao _ (List.getElem_mem aj)
 generalize t.l[K]=ta at *
 have an:=Jh (fun W (h:PlW d sv pv cv ab nv ck P wb v W)=>hA v la W h ai)
 obtain ⟨bp,bq,bs,br,rfl,-,-,-,-⟩:=ai.open
 have bf:t.cells (.slice (some ⟨be,oe,none⟩) t.e.length ce) (.slice (some ⟨bl,ol,none⟩) t.l.length cl)=[.int .i64 3,.int .i64 t.sig,.int .i64 t.hi,.int .i64 t.lo,.slice (some ⟨be,oe,none⟩) 1 ce,.slice (some ⟨bl,ol,none⟩) t.l.length cl]:=by
  unfold T.cells;rw [ho,hx];rfl
 rw [bf,aq]
 have x0:=Ab w (.cells [.int .i64 3,.int .i64 t.sig,.int .i64 t.hi,.int .i64 t.lo,.slice (some ⟨be,oe,none⟩) 1 ce,.slice (some ⟨bl,ol,none⟩) t.l.length cl].toArray 44)
 have hT:=Blk.new w [.int .i64 3,.int .i64 t.sig,.int .i64 t.hi,.int .i64 t.lo,.slice (some ⟨be,oe,none⟩) 1 ce,.slice (some ⟨bl,ol,none⟩) t.l.length cl].toArray 44
 have HW:=Jh (fun W (h:Ext w W)=>hW.ext' h)
 have a2:=Jh (fun W (h:Ext w W)=>av ▸ Ae5 H (hW.ext' h) x _ ⟨sx,rfl,am.ext (hW.ext.trans h)⟩ ac)
 have bk:=Jh (fun W (h:Ext w W)=>ak.ext (hW.ext.trans h))
 have ah:=Jh (fun W (h:Ext w W)=>a7.ext (hW.ext.trans h))
 have bj:=Jh hW.ext
 obtain ⟨I,hI⟩:∃ I,Ge (fun a:T=>a.e.any fun e=>decide (e.v=(X:Int))) t.l=I:=⟨_,rfl⟩
 have a5:=Ad7 (p:=fun a:T=>a.e.any fun e=>decide (e.v=(X:Int))) (l:=t.l)
 rw [hI] at ar aa a5
 have af:=Jh aa
 obtain ⟨n,hn⟩:∃ n,t.l.length=n:=⟨_,rfl⟩
 rw [hn] at af aj hl0 a5 x0 hT bb bo ⊢
 rw [hn] at ar
 clear aq h1 h2 hx ac hA he hl ap ba bc aw a8 ax bd ak am a7 a6 ai bf hr ho ao hW av hK hI hn aa
 go_enter Tryz.func38,Tryz.ntmps38
 go_upto_region 1 with fail
 generalize w.alloc _=w0 at *
 have HT:=Jh hT
 have y0:=hT.has 0 _ rfl
 have y4:=hT.has 4 _ rfl
 have a3:=bk.out w0 x0
 have bi:=Jh (a2.out w0 x0)
 have X0:=Jh x0
 clear hT x0
 go_upto_region 13 with fail
 clear y0
 go_upto_region 14 with (first | ((with_reducible show Jl 40);refine Aa rfl 40 _ rfl rfl (a3) Ah rfl ?_) | (go_at_call 69;refine bi.out.mono ?_;rintro r w1 ⟨rfl,ac⟩;have X1:=Jh (X0.out.trans ac);have bg:=Jh (HT.out.ext ac);have x2:=Ab w1 (.cells #[.int .u64 (X:Int)] 35);have a9:=Blk.new w1 #[.int .u64 (X:Int)] 35))
 have X2:=Jh (X1.out.trans x2)
 have au:=Jh (bg.out.ext x2)
 have a0:=Jh a9
 clear ac a3 y4 x2 a9
 obtain ⟨B7,a4⟩:∃ B,w1.heap.size=B:=⟨_,rfl⟩
 rw [a4] at a0 ⊢
 clear a4
 generalize w1.alloc _=w2 at *
 have a1:=Jh (ar.out B7 w2 (bj.out.trans X2.out) a0.out)
 have z5:=au.out.has 5 _ rfl
 by_cases ag:I<0
 ·have bm:=af.out.1 ag
  obtain rfl:n=K+1:=by omega
  have b0:decide (I<0)=true:=decide_eq_true ag
  clear bm ag
  go_upto_region 17 with (first | (go_at_call 70;refine a1.out.mono ?_;rintro r w3 ⟨rfl,u⟩;have X3:=Jh (X2.out.trans u);have q5:=(au.out.ext u).has 5 _ rfl))
  have e5:=(ah.out w3 X3.out) 5 _ rfl
  have HC:=Jh (an.out w3 (HW.out w3 X3.out))
  clear u z5
  go_wp2_with (first | (go_at_call 21;refine (HC.out).mono ?_;rintro r w4 ⟨rfl,az,ay⟩))
  all_goals go_end0
  exact ⟨rfl,az,Gd (Kr X3.out _) ay⟩
 ·obtain rfl:=af.out.2 (by omega)
  have b0:decide ((K:Int)<0)=false:=decide_eq_false ag
  clear ag
  go_upto_region 17 with (first | (go_at_call 70;refine a1.out.mono ?_;rintro r w3 ⟨rfl,u⟩;have X3:=Jh (X2.out.trans u);have q5:=(au.out.ext u).has 5 _ rfl))
  have e5:=(ah.out w3 X3.out) 5 _ rfl
  have HC:=Jh (an.out w3 (HW.out w3 X3.out))
  clear u z5
  go_wp2_with (first | (go_at_call 21;refine (HC.out).mono ?_;rintro r w4 ⟨rfl,az,ay⟩))
  all_goals go_end0
  exact ⟨rfl,az,Gd (Kr X3.out _) ay⟩
theorem Agl {d:Bb} {sv pv cv j nv:Value} {u:List Nat} {ck:Bool} {P:Nat} {wb:World} (H:Pl d sv pv cv j u wb) (t:T):Gc d.signals ck t->Aq t<=1048576->M9 d sv pv cv j nv u ck P wb t/\Qp d sv pv cv j nv u ck P wb t.l:=by
 induction t using T.ind with
 | h t ih =>
  intro hr hn
  have ae:=(Fe _ _ t).1 hr
  have af:=Ca t
  have ac:t.l.length<=1048576:=by have:=A8 Aq t.l (fun x _=>F9 x);omega
  have ab:∀ x∈t.l,M9 d sv pv cv j nv u ck P wb x/\Qp d sv pv cv j nv u ck P wb x.l:=fun x hx=>ih x hx (ae.2.2 x hx) (by have:=Bf Aq t.l x hx;omega)
  have aa:Qp d sv pv cv j nv u ck P wb t.l:=Yv H t.l ac fun x hx=>⟨(ab x hx).1,ae.2.2 x hx⟩
  refine ⟨?_,aa⟩
  rcases ae.2.1 with ⟨o,-⟩ | ⟨o,-⟩ | ⟨o,-⟩ | o | o
  ·exact Acf H hr o
  ·exact Ae4 H hr o fun x hx=>(ab x hx).2
  ·exact Aak H hr ac o fun x hx=>(ab x hx).2
  ·exact Pt (.inl o) aa
  ·exact Pt (.inr o) aa
end Go.Proofs.YtbliplladmamoaaGreat
