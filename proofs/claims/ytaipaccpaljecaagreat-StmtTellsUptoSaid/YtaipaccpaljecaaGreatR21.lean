/- Laws and walks that a claim of this seat leans on: StmtL4, StmtL5, StmtL6, PlayL, WordB, Play1, Play2, Play3. -/
import Derived.Test.YtaipaccpaljecaaGreatR20
import Derived.Test.YtaipaccpaljecaaGreatR15
import Derived.Test.YtaipaccpaljecaaGreatR13
import Derived.Test.YtaipaccpaljecaaGreatR16
import Derived.Test.YtaipaccpaljecaaGreatR19
import Derived.Test.YtaipaccpaljecaaGreatR00
set_option maxRecDepth 100000
set_option maxHeartbeats 8000000
set_option linter.all false
namespace Go.Proofs.YtaipaccpaljecaaGreat
open Go.RowKit
theorem runOk_each {ls:List Signal} {ck:Bool} (t:T):RunOk ls ck t->∀ u∈eachT t,RunOk ls ck u:=by
 induction t using T.ind with
 | h t ih =>
  intro h u hu
  rw [eachT_eq] at hu
  rcases List.mem_cons.1 hu with rfl | hu
  ·exact h
  ·rw [eachTs_eq] at hu
   obtain ⟨m,hm,hu⟩:=List.mem_flatten.1 hu
   obtain ⟨y,hy,rfl⟩:=List.mem_map.1 hm
   exact ih y hy (((RunOk_iff ls ck t).1 h).2.2 y hy) u hu
theorem runOk_ways {ls:List Signal} {ck:Bool} {u:T} (h:RunOk ls ck u) (ho:u.op=2\/u.op=3):u.l≠[]:=by
 obtain ⟨-,h2,-⟩:=(RunOk_iff ls ck u).1 h
 rcases h2 with ⟨o,-⟩ | ⟨-,-,a,b,hab⟩ | ⟨-,-,a1,-⟩ | o | o
 ·omega
 ·rw [hab];simp
 ·intro e;rw [e] at a1;simp at a1
 ·omega
 ·omega
theorem always_sub {d:Flat} (hok:d.ok) (hc:checkM d=0) {p:Int} (h0:0<=p) (h1:p<d.procs.length):∀ x∈alwaysM d p,x∈writesM d p:=by
 intro x hx
 rw [mem_writesM]
 have hall:=procL_ok hok hc h0 h1
 unfold alwaysM offsD at hx
 have key:∀ l:List T,(∀ t∈l,RunOk d.signals (clkD d p) t)->x∈alwM (offsM d.signals d.signals.length) l->WrL d.signals l x:=by
  intro l
  induction l with
  | nil=>intro _ h;exact absurd h (alwM_nil _ _)
  | cons y l ih =>
   intro hm h
   rw [WrL_cons]
   rcases (alwM_cons _ _ _ _).1 h with h | h
   ·exact .inl ((alw_wr d.signals y).1 x h (fun ho=>runOk_ways (hm y (by simp)) ho) fun u hu=>runOk_ways (runOk_each y (hm y (by simp)) u hu))
   ·exact .inr (ih (fun z hz=>hm z (by simp [hz])) h)
 exact key _ hall hx
theorem valsOk_of {d:Flat} (hc:checkM d=0) {vs:List Nat} (hv:Val2 d.signals vs):valsOk d vs=true:=by
 unfold valsOk valB
 simp only [Bool.and_eq_true,decide_eq_true_eq,List.all_eq_true]
 refine ⟨hv.1,hc,fun k hk=>?_⟩
 have:=hv.2 (k:Int) (by omega) (by have:=List.mem_range.1 hk;omega)
 simpa using this
theorem valsOk_val2 {d:Flat} {vs:List Nat} (h:valsOk d vs=true):Val2 d.signals vs:=⟨(valsOk_ck h).1,(valsOk_ck h).2.2⟩
theorem evalM_of {d:Flat} (hc:checkM d=0) {vs:List Nat} (hv:Val2 d.signals vs) {x:E} (hx:WS d.signals x) (hn:nodes x<=65536) (hd:deep x<=64):evalM d vs x=(evM vs x,0):=by
 unfold evalM
 rw [if_pos ⟨valsOk_of hc hv,checkEM_ok (fun y hy=>(checkM_w hc y hy).2) (checkM_sigs hc) hx hn hd⟩]
theorem val2_us64 {ls:List Signal} (hls:∀ x∈ls,x.w<=64) {v:List Nat} (h:Val2 ls v):us64 v:=by
 intro x hx
 obtain ⟨k,hk,rfl⟩:=List.getElem_of_mem hx
 have h1:=h.2 (k:Int) (by omega) (by have:=h.1;omega)
 rw [Int.toNat_natCast,List.getD_eq_getElem?_getD,List.getElem?_eq_getElem hk,Option.getD_some] at h1
 have h2:=sigW_le ls hls (k:Int)
 exact Nat.lt_of_lt_of_le h1 (Nat.pow_le_pow_right (by decide) (show (sigW ls (k:Int)).toNat<=64 by omega))
theorem maskN_lt {hi lo:Nat} (h:lo<=hi) (h64:hi<64):maskN hi lo<18446744073709551616:=by
 show _<2^64
 refine Nat.lt_pow_two_of_testBit _ fun i hi'=>?_
 rw [maskN_testBit];simp;omega
theorem mask_shift {hi lo:Nat} (h:lo<=hi) (h64:hi<64):IntKind.u64.wrap ((18446744073709551615:Int).fdiv (2^(63-(hi-lo)))*2^lo)=((maskN hi lo:Nat):Int):=by
 have e1:(18446744073709551615:Int)=((18446744073709551615#64).toNat:Int):=by decide
 rw [e1,u_shr,u_shl]
 congr 1
 refine Nat.eq_of_testBit_eq fun i=>?_
 rw [maskN_testBit,<-BitVec.getLsbD,show (18446744073709551615#64)=BitVec.allOnes 64 from rfl]
 simp only [BitVec.getLsbD_shiftLeft,BitVec.getLsbD_ushiftRight,BitVec.getLsbD_allOnes]
 by_cases h1:i<lo
 ·simp [h1];omega
 ·by_cases h2:i<64
  ·simp only [h1,h2,decide_true,decide_false,Bool.not_false,Bool.true_and]
   rw [decide_eq_decide];omega
  ·simp only [h2,decide_false,Bool.false_and]
   symm;rw [decide_eq_false_iff_not];omega
theorem set_word {a hi lo x:Nat} (h:lo<=hi) (h64:hi<64) (ha:a<18446744073709551616) (hx:x<2^(hi+1-lo)) :
  bits .or .u64 (bits .and .u64 (a:Int) ((18446744073709551615-maskN hi lo:Nat):Int)) (IntKind.u64.wrap ((x:Int)*2^lo))=((setBits a hi lo x:Nat):Int):=by
 have hm:=maskN_lt h h64
 have hxl:2^lo*x<18446744073709551616:=by
  have h1:2^lo*x<2^lo*2^(hi+1-lo):=(Nat.mul_lt_mul_left (Nat.two_pow_pos _)).2 hx
  rw [<-Nat.pow_add] at h1
  have h2:2^(lo+(hi+1-lo))<=2^64:=Nat.pow_le_pow_right (by decide) (by omega)
  have:(2:Nat)^64=18446744073709551616:=by decide
  omega
 have hw:IntKind.u64.wrap ((x:Int)*2^lo)=((2^lo*x:Nat):Int):=by
  have:(x:Int)*2^lo=((2^lo*x:Nat):Int):=by push_cast;rw [Int.mul_comm]
  rw [this]
  obtain ⟨y,hy⟩:=u_nat hxl
  rw [<-hy,u_wrap]
 have hand:a &&& (18446744073709551615-maskN hi lo)<18446744073709551616:=Nat.lt_of_le_of_lt Nat.and_le_left ha
 rw [hw,n_and ha (by omega),n_or' hand hxl]
 congr 1
 have:=keep_or a hi lo x h h64 ha hx
 rw [show (2:Nat)^64-(maskN hi lo+1)=18446744073709551615-maskN hi lo by
  have:(2:Nat)^64=18446744073709551616:=by decide
  omega] at this
 exact this
abbrev W64 (x:Nat):Value:=.int .u64 (x:Int)
theorem appWord:AppT Tryz.prog 41 34 1 8:=⟨Tryz.underlying41,by kernel_rfl,by decide,by decide⟩
def WordRow (N:Nat) (v:Value) (l:List Nat) (w:World):Prop:=w.ownsRow N 34 1 v l.length (l.map (W64))
theorem WordRow.nil (N:Nat) (w:World):WordRow N (.slice none 0 0) [] w:=World.ownsRow_nil _ _ _ _
theorem WordRow.open {N:Nat} {v:Value} {l:List Nat} {w:World} (h:WordRow N v l w):∃ a cap,v=.slice a l.length cap/\(v.ownBlock=none->l=[]):=by
 rcases h.2 with ⟨rfl,h0⟩ | ⟨g,cap,cur,rfl,-⟩
 ·exact ⟨none,0,by rw [h0],fun _=>List.eq_nil_of_length_eq_zero h0⟩
 ·exact ⟨_,cap,rfl,fun h=>by cases h⟩
theorem WordRow.at {N:Nat} {v:Value} {l:List Nat} {w:World} (h:WordRow N v l w) {k:Nat} (hk:v.ownBlock=some k):N<=k/\∃ cur,w.heap[k]? = some (.cells cur 34 (0,0)):=by
 rcases h.2 with ⟨rfl,h0⟩ | ⟨g,cap,cur,rfl,hb,hg,-⟩
 ·cases hk
 ·cases hk;exact ⟨hb,cur,hg⟩
theorem WordRow.keep {N:Nat} {v:Value} {l:List Nat} {w w':World} (h:WordRow N v l w) (hk:∀ k,v.ownBlock=some k->∀ o,w.heap[k]? = some o->w'.heap[k]? = some o):WordRow N v l w':=by
 refine ⟨h.1,?_⟩
 rcases h.2 with hn | ⟨g,cap,cur,rfl,hb,hg,rest⟩
 ·exact .inl hn
 ·exact .inr ⟨g,cap,cur,rfl,hb,hk g rfl _ hg,rest⟩
theorem WordRow.ext {N:Nat} {v:Value} {l:List Nat} {w w':World} (h:WordRow N v l w) (hx:Ext w w'):WordRow N v l w' :=
 h.keep fun k _ _ ho=>(hx.block k (Array.getElem?_eq_some_iff.1 ho).1).trans ho
theorem WordRow.less {N M:Nat} {v:Value} {l:List Nat} {w:World} (h:WordRow N v l w) (hM:M<=N):WordRow M v l w:=by
 refine ⟨h.1,?_⟩
 rcases h.2 with hn | ⟨g,cap,cur,rfl,hb,rest⟩
 ·exact .inl hn
 ·exact .inr ⟨g,cap,cur,rfl,Nat.le_trans hM hb,rest⟩
theorem flatW1 (l:List Nat):(l.map fun x=>[W64 x]).flatten=l.map (W64):=by
 induction l with
 | nil=>rfl
 | cons x l ih=>simp only [List.map_cons,List.flatten_cons,ih];rfl
theorem WordRow.cells {N:Nat} {v:Value} {l:List Nat} {w:World} (h:WordRow N v l w):Us w v l:=by
 rcases h.2 with ⟨rfl,h0⟩ | ⟨g,cap,cur,rfl,hb,hg,hnc,hcm,hcs,htake⟩
 ·obtain rfl:l=[]:=List.eq_nil_of_length_eq_zero h0
  exact Sl.nil _ _
 ·refine ⟨g,0,⟨_,cap,rfl,hnc,hcm,fun _=>rfl⟩,rows_flat (f:=fun x=>[W64 x]) (fun _=>rfl) l 0 ?_⟩
  have:=flat_own (N:=N) (cap:=cap) (size:=1) hg htake
  rw [flatW1];exact this
theorem WordRow.ne {N B:Nat} {v:Value} {cs:Array Value} {T:TypeId} {l:List Nat} {w:World} (h:WordRow N v l w) (hb:Blk w B cs T) (hT:(T==34)=false) {k:Nat} (hk:v.ownBlock=some k):k≠B:=by
 rintro rfl
 obtain ⟨-,cur,hcur⟩:=h.at hk
 have h2:w.heap[k]? = some (.cells cs T (0,0)):=hb
 rw [hcur] at h2
 injection h2 with h2
 injection h2 with _ h2
 subst h2
 exact absurd hT (by decide)
theorem run_appWI {w:World} {N:Nat} {v:Value} {l:List Nat} (hown:WordRow N v l w) {ty:TypeId} {ad:Addr} {m c:Nat} (hm:v=.slice none 0 0->0<m) {news:List Nat} (hl:news.length=m)
  (hnews:∀ j u,(news.map (W64))[j]? = some u->w.cell? (ad.add j)=some u) (hn:l.length+m<=1099511627776) (hbase:N<=w.heap.size) :
  ∃ g cap w',(Builtin.append_ #[41,41] ty #[v,.slice (some ad) m c]).run Tryz.prog w=.ok (.slice (some ⟨g,0,none⟩) (l.length+m) cap) w'/\WordRow N (.slice (some ⟨g,0,none⟩) (l.length+m) cap) (l++news) w'/\w.grownBy w' v.ownBlock:=by
 obtain ⟨ht,hinfo,hsz,hby⟩:=appWord
 cases hi:Tryz.prog.info? 34 with
 | none=>simp [hi] at hinfo
 | some i =>
  simp only [hi,Option.map_some,Option.some.injEq,Prod.mk.injEq] at hinfo
  obtain ⟨hz0,hs,hb⟩:=hinfo
  cases hz:i.zero with
  | none=>simp [hz] at hz0
  | some z =>
   simp only [hz,Option.map_some,Option.some.injEq] at hz0
   have h1':∀ u∈news.map (W64),u.oneCell'=true:=by
    intro u hu
    obtain ⟨x,-,rfl⟩:=List.mem_map.1 hu
    rfl
   obtain ⟨v',w',hr,h2,h3,h4⟩:=run_append_own (P:=Tryz.prog) w N 41 ty 34 i z 1 8 ht hi hz hs hb hz0 (by decide) v l.length _ hown ad m c (news.map (W64)) (by simp [hl]) hnews h1' (by simp only [maxLen];omega) (by omega) hbase
   have h5:WordRow N v' (l++news) w':=by unfold WordRow;rw [List.length_append,hl,List.map_append];exact h2
   rcases h2.2 with ⟨rfl,h0⟩ | ⟨g,cap,cur,rfl,-⟩
   ·have:=h4.1 rfl
    exact absurd (hm this.1) (by omega)
   ·exact ⟨g,cap,w',hr,h5,h3⟩
theorem run_appW {w:World} {N:Nat} {v:Value} {l:List Nat} (hown:WordRow N v l w) {ty:TypeId} {x:Value} {news:List Nat} (hx:Us w x news) (hn:l.length+news.length<=1099511627776) (hbase:N<=w.heap.size) :
  ∃ v' w',(Builtin.append_ #[41,41] ty #[v,x]).run Tryz.prog w=.ok v' w'/\WordRow N v' (l++news) w'/\w.grownBy w' v.ownBlock:=by
 obtain ⟨a,b,o,cap,rfl,hc1,hc2,ha,hr⟩:=hx.open
 by_cases h0:0<news.length
 ·obtain rfl:=ha h0
  obtain ⟨g,cap',w',h1,h2,h3⟩:=run_appWI (ty:=ty) (c:=cap) (m:=news.length) hown (fun _=>h0) rfl (ad:=⟨b,o,none⟩) (news:=news) (fun j u hj=>by
   rw [List.getElem?_map] at hj
   cases hq:news[j]? with
   | none=>rw [hq] at hj;cases hj
   | some y =>
    rw [hq] at hj
    have hadd:(⟨b,o,none⟩:Addr).add j=⟨b,o+j,none⟩:=by unfold Addr.add;split<;>simp_all
    rw [hadd]
    have:=(hr.get hq) 0 _ rfl
    simp only [Nat.mul_one,Nat.add_zero] at this
    rw [this]
    exact hj) hn hbase
  exact ⟨_,w',h1,h2,h3⟩
 ·obtain rfl:news=[]:=List.eq_nil_of_length_eq_zero (by omega)
  obtain ⟨ht,hinfo,hsz,hby⟩:=appWord
  cases hi:Tryz.prog.info? 34 with
  | none=>simp [hi] at hinfo
  | some i =>
   have hsrc:Src Tryz.prog i.size 41 (.slice a 0 cap) 0 [] w:=by
    cases a with
    | none=>exact Src.ofNil w ht cap
    | some a=>exact Src.ofSlice w ht a 0 cap [] (by simp) (by intro j u hj;simp at hj) (by simp)
   obtain ⟨av,cv,hv,-⟩:=hown.open
   have hle:l.length<=cv:=by
    rcases hown.2 with ⟨e,h0⟩ | ⟨g,c2,cur,e,hb,hg,hnc,-⟩
    ·rw [hv] at e;injection e with _ e2 e3;omega
    ·rw [hv] at e;injection e with _ e2 e3;omega
   refine ⟨v,w,?_,by rw [List.append_nil];exact hown,⟨rfl,rfl,rfl,Nat.le_refl _,fun _ _ _=>rfl⟩⟩
   rw [hv]
   exact run_append_nothing w 41 41 ty 34 i ht hi av l.length cv hle _ hsrc
theorem wpList_appW {ops:Array Oper} {rest:List Oper} {o:Oper} {a:Act} {w:World} {Q:Exit->Act->World->Prop} (hw:Region.wanted o (yielded ops a.tmps)=true) (s x:Operand)
  (ho:o.op=.call { callee:=.builtin .append,args:=#[s,x],argTypes:=#[41,41] }) {N:Nat} {v:Value} {l:List Nat} (hs:a.eval s=v) (hown:WordRow N v l w)
  {xv:Value} (hx:a.eval x=xv) {news:List Nat} (hnews:Us w xv news) (hn:l.length+news.length<=1099511627776) (hbase:N<=w.heap.size)
  (h:∀ v' w',WordRow N v' (l++news) w'->w.grownBy w' v.ownBlock->wpList Tryz.prog ops Q rest (a.put o.dst v') w') :
  wpList Tryz.prog ops Q (o::rest) a w :=
 BigFrame.wpList_want hw fun _ hK=>by
  obtain ⟨v',w',hr,h2,h3⟩:=run_appW (ty:=o.type) hown hnews hn hbase
  unfold Oper.wp execOp
  simp only [ho,resolve,invoke,builtin,Sem.run_bind,Sem.run_pure,Result.andThen_ok,List.map_toArray,List.map_cons,List.map_nil,hs,hx]
  rw [hr]
  exact hK _ _ (h v' w' h2 h3)
theorem WordRow.open1 {N:Nat} {v:Value} {l:List Nat} {w:World} (h:WordRow N v l w) (hl:0<l.length):∃ g cap,v=.slice (some ⟨g,0,none⟩) l.length cap/\N<=g/\∀ i x,l[i]? = some x->w.cell? ⟨g,i,none⟩=some (W64 x):=by
 rcases h.2 with ⟨rfl,h0⟩ | ⟨g,cap,cur,rfl,hb,hg,hnc,hcm,hcs,htake⟩
 ·omega
 ·refine ⟨g,cap,rfl,hb,fun i x hx=>?_⟩
  have:=flat_own (N:=N) (cap:=cap) (size:=1) hg htake i (W64 x) (by simp [hx])
  rwa [Nat.zero_add] at this
theorem WordRow.set {N g cap:Nat} {n:Nat} {l:List Nat} {w:World} (h:WordRow N (.slice (some ⟨g,0,none⟩) n cap) l w) (j:Nat) (hj:j<l.length) (x:Nat) :
  WordRow N (.slice (some ⟨g,0,none⟩) n cap) (l.set j x) (w.setCell ⟨g,j,none⟩ (W64 x)):=by
 rcases h.2 with ⟨e,h0⟩ | ⟨g',cap',cur,e,hb,hg,hnc,hcm,hcs,htake⟩
 ·cases e
 ·injection e with e1 e2 e3
  injection e1 with e1
  injection e1 with e1
  subst e1 e2 e3
  have hB:Blk w g cur 34:=hg
  refine ⟨by simp,.inr ⟨g,cap,cur.setIfInBounds j (W64 x),by rw [List.length_set],hb,hB.set j (W64 x),by rw [List.length_set];exact hnc,hcm,by rw [Array.size_setIfInBounds];exact hcs,?_⟩⟩
  rw [List.length_set,Array.toList_setIfInBounds,List.map_set,<-htake,List.take_set]
theorem WordRow.bs0 (w:World) {N:Nat} (hN:N<=w.heap.size):WordRow N (.slice (some ⟨w.heap.size,0,none⟩) 0 0) [] (w.alloc (.cells #[] 34)) :=
 ⟨rfl,.inr ⟨w.heap.size,0,#[],rfl,hN,Blk.new w #[] 34,Nat.le_refl _,by decide,rfl,rfl⟩⟩
abbrev plCells (sv pv cv wasv nv:Value) (ck:Bool):List Value:=[sv,pv,cv,wasv,nv,.bool ck]
theorem plVal_calls (d:Flat) (hok:d.ok) (hc:checkM d=0) (sv pv cv wasv nv:Value) (was v:List Nat) (ck:Bool) (P:Nat) (e:E) (cs:List Value) (w:World) (hF:FlatV w (.agg #[sv,pv,cv]) d) (hw:Us w wasv was) (hn:Us w nv v) (hvw:Val2 d.signals was) (hvv:Val2 d.signals v)
  (hB:Blk w P (plCells sv pv cv wasv nv ck).toArray 82) (hV:VE w cs e) (hws:WS d.signals e/\e.wf/\nodes e<=65536/\deep e<=64) :
  Calls Tryz.prog 135 #[.pointer (some ⟨P,0,none⟩),.agg cs.toArray] w fun r w'=>r=.returned (.int .u64 ((evM (if ck then was else v) e:Nat):Int))/\Ext w w':=by
 have hls:∀ x∈d.signals,x.w<=64:=fun x hx=>(checkM_w hc x hx).2
 have H1:=Jh (fun W (h:Ext w W)=>Eval_calls d _ was wasv e cs W (hF.ext h) hok (hw.ext h) (val2_us64 hls hvw) (hV.ext h) hws.2.1 (by omega))
 have H2:=Jh (fun W (h:Ext w W)=>Eval_calls d _ v nv e cs W (hF.ext h) hok (hn.ext h) (val2_us64 hls hvv) (hV.ext h) hws.2.1 (by omega))
 rw [evalM_of hc hvw hws.1 hws.2.2.1 hws.2.2.2] at H1
 rw [evalM_of hc hvv hws.1 hws.2.2.1 hws.2.2.2] at H2
 have h8:cs.length=8:=by obtain ⟨s,rfl,-⟩:=hV;rfl
 have hX:=ext_alloc w (.cells cs.toArray 64)
 have hE:=Blk.new w cs.toArray 64
 have hP:=hB.ext hX
 have hs3:=hF
 obtain ⟨s',p',c',he,-⟩:=hs3
 clear hF hw hn hvw hvv hV hws hls hok hc hB he
 obtain ⟨r1,hr1⟩:∃ r,evM was e=r:=⟨_,rfl⟩
 obtain ⟨r2,hr2⟩:∃ r,evM v e=r:=⟨_,rfl⟩
 obtain ⟨rr,hrr⟩:∃ r,evM (if ck then was else v) e=r:=⟨_,rfl⟩
 rw [hr1] at H1
 rw [hr2] at H2
 rw [hrr]
 have HRR:=Jh hrr
 have HR1:=Jh hr1
 have HR2:=Jh hr2
 clear hrr hr1 hr2
 go_enter Tryz.func135,Tryz.ntmps135
 go_upto_region 1 with fail
 generalize w.alloc _=w0 at *
 have HX:=Jh hX
 have HE:=Jh hE
 have HP:=Jh hP
 have y4:=hP.has 4 _ rfl
 have y5:=hP.has 5 _ rfl
 have y3:=hP.has 3 _ rfl
 clear hX hE hP
 cases ck
 ·go_upto_region 4 with fail
  clear y3 y4 y5
  obtain rfl:r2=rr:=by rw [<-HRR.out,<-HR2.out];rfl
  refine Jg w0 fun hH=>?_
  try simp only [J]
  (refine Jt 0 (.pointer (some ⟨P,0,none⟩)) rfl (yif_load1 rfl fun _ _=>rfl) hH ?_;try simp only [J])
  (refine Jt 1 (.pointer (some ⟨P,0,none⟩)) rfl (yif_load1 rfl (by intro W hW;clear hW;go_simp)) hH ?_;try simp only [J])
  (refine Jt 2 (.pointer (some ⟨P,0,none⟩)) rfl (yif_load1 rfl (by intro W hW;clear hW;go_simp)) hH ?_;try simp only [J])
  (refine Jt 3 (.agg [sv,pv,cv].toArray) rfl (yif_load rfl 26 _ rfl rfl (fun W hW=>fun j u hj=>(HP.out.ext hW).has j u (by match j,hj with | 0,hj=>exact hj | 1,hj=>exact hj | 2,hj=>exact hj | j+3,hj=>exact absurd hj (by simp))) agg_Flat rfl) hH ?_;try simp only [J])
  (refine Jt 4 (nv) rfl (yif_load1 rfl fun _ _=>rfl) hH ?_;try simp only [J])
  (refine Jt 5 (.agg cs.toArray) rfl (yif_load rfl 64 _ rfl rfl (fun W hW=>(HE.out.ext hW).has) agg_E h8) hH ?_;try simp only [J])
  (refine Jr 6 rfl fun K hK=>?_)
  go_simp
  refine (H2.out _ (HX.out.trans hH)).mono ?_
  rintro r w3 ⟨rfl,hx3⟩
  refine hK.out _ _ (hH.trans hx3) (fun hH=>?_)
  clear hK K
  try simp only [J]
  (refine Jt 7 (.tuple #[.int .u64 ((r2:Nat):Int),.int .i64 0]) rfl (yif_load1 rfl fun _ _=>rfl) hH ?_;try simp only [J])
  (refine Jt 8 (.int .u64 ((r2:Nat):Int)) rfl (yif_load1 rfl (by intro W hW;clear hW;go_simp)) hH ?_;try simp only [J])
  (refine Jt 9 (.int .i64 0) rfl (yif_load1 rfl (by intro W hW;clear hW;go_simp)) hH ?_;try simp only [J])
  (refine Jt 10 (.int .u64 ((r2:Nat):Int)) rfl (yif_load1 rfl fun _ _=>rfl) hH ?_;try simp only [J])
  (refine Jt 11 (.int .i64 0) rfl (yif_load1 rfl fun _ _=>rfl) hH ?_;try simp only [J])
  refine Jz ?_
  go_wp2_with fail
  go_ret
  exact ⟨rfl,HX.out.trans hH⟩
 ·go_upto_region 4 with fail
  clear y3 y4 y5
  obtain rfl:r1=rr:=by rw [<-HRR.out,<-HR1.out];rfl
  refine Jg w0 fun hH=>?_
  try simp only [J]
  (refine Jt 0 (.pointer (some ⟨P,0,none⟩)) rfl (yif_load1 rfl fun _ _=>rfl) hH ?_;try simp only [J])
  (refine Jt 1 (.pointer (some ⟨P,0,none⟩)) rfl (yif_load1 rfl (by intro W hW;clear hW;go_simp)) hH ?_;try simp only [J])
  (refine Jt 2 (.pointer (some ⟨P,0,none⟩)) rfl (yif_load1 rfl (by intro W hW;clear hW;go_simp)) hH ?_;try simp only [J])
  (refine Jt 3 (.agg [sv,pv,cv].toArray) rfl (yif_load rfl 26 _ rfl rfl (fun W hW=>fun j u hj=>(HP.out.ext hW).has j u (by match j,hj with | 0,hj=>exact hj | 1,hj=>exact hj | 2,hj=>exact hj | j+3,hj=>exact absurd hj (by simp))) agg_Flat rfl) hH ?_;try simp only [J])
  (refine Jt 4 (wasv) rfl (yif_load1 rfl fun _ _=>rfl) hH ?_;try simp only [J])
  (refine Jt 5 (.agg cs.toArray) rfl (yif_load rfl 64 _ rfl rfl (fun W hW=>(HE.out.ext hW).has) agg_E h8) hH ?_;try simp only [J])
  (refine Jr 6 rfl fun K hK=>?_)
  go_simp
  refine (H1.out _ (HX.out.trans hH)).mono ?_
  rintro r w3 ⟨rfl,hx3⟩
  refine hK.out _ _ (hH.trans hx3) (fun hH=>?_)
  clear hK K
  try simp only [J]
  (refine Jt 7 (.tuple #[.int .u64 ((r1:Nat):Int),.int .i64 0]) rfl (yif_load1 rfl fun _ _=>rfl) hH ?_;try simp only [J])
  (refine Jt 8 (.int .u64 ((r1:Nat):Int)) rfl (yif_load1 rfl (by intro W hW;clear hW;go_simp)) hH ?_;try simp only [J])
  (refine Jt 9 (.int .i64 0) rfl (yif_load1 rfl (by intro W hW;clear hW;go_simp)) hH ?_;try simp only [J])
  (refine Jt 10 (.int .u64 ((r1:Nat):Int)) rfl (yif_load1 rfl fun _ _=>rfl) hH ?_;try simp only [J])
  (refine Jt 11 (.int .i64 0) rfl (yif_load1 rfl fun _ _=>rfl) hH ?_;try simp only [J])
  refine Jz ?_
  go_wp2_with fail
  go_ret
  exact ⟨rfl,HX.out.trans hH⟩
/-! what CaseT looks for -/
theorem plOne11_calls (B:Nat) (x:Int) (e:E) (cs:List Value) (w:World) (hB:Blk w B #[.int .u64 x] 34) (hV:VE w cs e) :
  Calls Tryz.prog 139 #[.agg cs.toArray,.pointer (some ⟨B,0,none⟩)] w fun r w'=>r=.returned (.bool (decide (e.v=x)))/\Ext w w':=by
 obtain ⟨s,rfl,-⟩:=hV
 have hX:=ext_alloc w (.cells (e.cells s).toArray 64)
 have y2:=(Blk.new w (e.cells s).toArray 64).has 2 _ rfl
 have yx:=(hB.ext hX).has 0 _ rfl
 have hlt:=hB.lt
 clear hB
 go_enter Tryz.func139,Tryz.ntmps139
 go_upto_region 1 with fail
 generalize w.alloc _=w0 at *
 go_wp2_with fail
 go_ret
 exact ⟨ret_bool (by rfl),hX⟩
theorem leads_plOne11:Leads Tryz.prog 139:=leads_of Tryz.func139 (by kernel_rfl) rfl
theorem plOne1_calls (B:Nat) (x:Int) (t:T) (cs:List Value) (w:World) (hB:Blk w B #[.int .u64 x] 34) (hV:VT w cs t) :
  Calls Tryz.prog 137 #[.agg cs.toArray,.pointer (some ⟨B,0,none⟩)] w fun r w'=>r=.returned (.bool (t.e.any fun e=>decide (e.v=x)))/\Ext w w':=by
 obtain ⟨s,s',rfl,hE,-⟩:=hV
 have hX:=ext_alloc w (.cells (t.cells s s').toArray 60)
 have y4:=(Blk.new w (t.cells s s').toArray 60).has 4 _ rfl
 have HC:=Jh (fun W (h:Ext w W)=>ContainsFunc_E 139 #[.pointer (some ⟨B,0,none⟩)] (fun e=>decide (e.v=x)) t.e s W (hE.ext h) leads_plOne11 (fun wr hwr k hk cs hcs=>plOne11_calls B x _ cs wr (hB.ext (h.trans hwr)) hcs))
 obtain ⟨a,b,ob,cap,rfl,-,-,-,-⟩:=hE.open
 clear hB hE
 generalize (t.e.any fun e=>decide (e.v=x))=q at *
 go_enter Tryz.func137,Tryz.ntmps137
 go_upto_region 1 with fail
 generalize w.alloc _=w0 at *
 go_wp2_with (first | (go_at_call 138;refine (HC.out _ hX).mono ?_;rintro r w1 ⟨rfl,hx1⟩))
 go_ret
 exact ⟨rfl,hX.trans hx1⟩
theorem leads_plOne1:Leads Tryz.prog 137:=leads_of Tryz.func137 (by kernel_rfl) rfl
theorem plArm_calls (B:Nat) (x:Int) (l:List T) (sl:Value) (w:World) (hB:Blk w B #[.int .u64 x] 34) (hL:Ts w sl l) :
  Calls Tryz.prog 136 #[sl,.func (.func 137) #[] #[.pointer (some ⟨B,0,none⟩)]] w fun r w'=>r=.returned (.int .i64 (idxOf (fun a:T=>a.e.any fun e=>decide (e.v=x)) l))/\Ext w w' :=
 IndexFunc_T _ _ _ l sl w hL leads_plOne1 (fun wr hwr k hk cs hcs=>plOne1_calls B x _ cs wr (hB.ext hwr) hcs)
theorem Blk.grownR {w w':World} {B:Nat} {cs:Array Value} {T:TypeId} {R:Option Nat} (h:Blk w B cs T) (hg:w.grownBy w' R) (hne:∀ k,R=some k->k≠B):Blk w' B cs T :=
 (hg.block B h.lt (fun e=>hne B e.symm rfl)).trans h
theorem gbR_refl (w:World) (R:Option Nat):w.grownBy w R:=⟨rfl,rfl,rfl,Nat.le_refl _,fun _ _ _=>rfl⟩
theorem gbR_ext {w w':World} (h:Ext w w') (R:Option Nat):w.grownBy w' R:=⟨h.os,h.tape,h.output,h.size,fun k hk _=>h.block k hk⟩
theorem gbR_trans {a b c:World} {R:Option Nat} (h:a.grownBy b R) (k:b.grownBy c R):a.grownBy c R :=
 ⟨k.os.trans h.os,k.tape.trans h.tape,k.output.trans h.output,Nat.le_trans h.size k.size,fun j hj hne=>(k.block j (Nat.lt_of_lt_of_le hj h.size) hne).trans (h.block j hj hne)⟩
structure Pl (d:Flat) (sv pv cv wasv:Value) (was:List Nat) (wb:World):Prop where
 ok:d.ok
 hc:checkM d=0
 flat:FlatV wb (.agg #[sv,pv,cv]) d
 us:Us wb wasv was
 vw:Val2 d.signals was
structure PlW (d:Flat) (sv pv cv wasv nv:Value) (ck:Bool) (P:Nat) (wb:World) (v:List Nat) (w:World):Prop where
 ext:Ext wb w
 val:Val2 d.signals v
 row:WordRow wb.heap.size nv v w
 blk:Blk w P (plCells sv pv cv wasv nv ck).toArray 82
abbrev PlPost (nv:Value) (wb:World) (v:List Nat) (w:World) (r:Ending) (w':World):Prop:=r=.returned (.tuple #[])/\WordRow wb.heap.size nv v w'/\w.grownBy w' nv.ownBlock
section
variable {d:Flat} {sv pv cv wasv nv:Value} {was v:List Nat} {ck:Bool} {P:Nat} {wb w w':World}
theorem PlW.grown {v':List Nat} (h:PlW d sv pv cv wasv nv ck P wb v w) (hv:Val2 d.signals v') (hr:WordRow wb.heap.size nv v' w') (hg:w.grownBy w' nv.ownBlock):PlW d sv pv cv wasv nv ck P wb v' w' :=
 ⟨Below.grown h.ext hg h.ext.size (fun k hk=>(hr.at hk).1),hv,hr,h.blk.grownR hg (fun k hk=>h.row.ne h.blk (by decide) hk)⟩
theorem PlW.ext' (h:PlW d sv pv cv wasv nv ck P wb v w) (hx:Ext w w'):PlW d sv pv cv wasv nv ck P wb v w' :=
 ⟨h.ext.trans hx,h.val,h.row.ext hx,h.blk.ext hx⟩
theorem plVal (H:Pl d sv pv cv wasv was wb) (h:PlW d sv pv cv wasv nv ck P wb v w) (e:E) (cs:List Value) (hV:VE w cs e) (hws:WS d.signals e/\e.wf/\nodes e<=65536/\deep e<=64) :
  Calls Tryz.prog 135 #[.pointer (some ⟨P,0,none⟩),.agg cs.toArray] w fun r w'=>r=.returned (.int .u64 ((evM (if ck then was else v) e:Nat):Int))/\Ext w w' :=
 plVal_calls d H.ok H.hc sv pv cv wasv nv was v ck P e cs w (H.flat.ext h.ext) (H.us.ext h.ext) h.row.cells H.vw h.val h.blk hV hws
end
def PlSaid (d:Flat) (sv pv cv wasv nv:Value) (was:List Nat) (ck:Bool) (P:Nat) (wb:World) (t:T):Prop :=
 ∀ (v:List Nat) (cs:List Value) (w:World),PlW d sv pv cv wasv nv ck P wb v w->VT wb cs t->Calls Tryz.prog 86 #[.pointer (some ⟨P,0,none⟩),.agg cs.toArray] w (PlPost nv wb (oneM ck was t v) w)
def PlAll (d:Flat) (sv pv cv wasv nv:Value) (was:List Nat) (ck:Bool) (P:Nat) (wb:World) (l:List T):Prop :=
 ∀ (v:List Nat) (sl:Value) (w:World),PlW d sv pv cv wasv nv ck P wb v w->Ts wb sl l->Calls Tryz.prog 55 #[.pointer (some ⟨P,0,none⟩),sl] w (PlPost nv wb (allM ck was l v) w)
theorem plAll_of {d:Flat} {sv pv cv wasv nv:Value} {was:List Nat} {ck:Bool} {P:Nat} {wb:World} (H:Pl d sv pv cv wasv was wb) (l:List T) (hln:l.length<=1048576) (hl:∀ t∈l,PlSaid d sv pv cv wasv nv was ck P wb t/\RunOk d.signals ck t):PlAll d sv pv cv wasv nv was ck P wb l:=by
 intro v sl w hW hL
 have hls:∀ x∈d.signals,x.w<=64:=fun x hx=>(checkM_w H.hc x hx).2
 obtain ⟨pre,hpre0,hpreS,hpreL⟩:∃ pre:Nat->List Nat,pre 0=v/\(∀ k (hk:k<l.length),pre (k+1)=oneM ck was l[k] (pre k))/\pre l.length=allM ck was l v :=
  ⟨fun k=>allM ck was (l.take k) v,by simp only [List.take_zero];exact allM_nil _ _ _,fun k hk=>by simp only [take_snoc _ _ hk,allM_append,allM_cons,allM_nil],by simp only [List.take_length]⟩
 have HS:=Jh hpreS
 have HLL:=Jh hpreL
 have HPL:=Jh hl
 have HV:=Jh (show ∀ k (hk:k<l.length) u,Val2 d.signals u->Val2 d.signals (oneM ck was l[k] u) from fun k hk u hu=>(oneM_ok hls H.vw l[k] (hl _ (List.getElem_mem hk)).2).1 u hu)
 have HTS:=Jh (fun W (h:Ext wb W)=>hL.ext h)
 obtain ⟨a,b,o,cap,rfl,hc1,hc2,ha,hr⟩:=hL.open
 have HA:=Jh ha
 have HR:=Jh hr
 have HW:=Jh hW
 have H0:=Jh hpre0
 clear hL ha hr hW hl hpre0 hpreS hpreL hls
 go_enter Tryz.func55,Tryz.ntmps55
 go_wp2_with fail
 go_loopw [8] (fun i wr=>∃ k:Nat,k<=l.length/\i=.int .i64 k/\PlW d sv pv cv wasv nv ck P wb (pre k) wr/\w.grownBy wr nv.ownBlock) (fun i _=>l.length-(intOf i).toNat)
 case atStart=>exact ⟨0,Nat.zero_le _,rfl,by rw [H0.out];exact HW.out,gbR_refl _ _⟩
 case round =>
  obtain ⟨k,hk,rfl,hw1,hgr⟩:=hrel
  have HW1:=Jh hw1
  have HGR:=Jh hgr
  clear hw1 hgr
  by_cases hlt:k<l.length
  ·obtain rfl:=HA.out (by omega)
   have hsaid:=(HPL.out _ (List.getElem_mem hlt)).1
   have hval:=HV.out k hlt _ HW1.out.val
   have hstep:=HS.out k hlt
   obtain ⟨s1,s2,hhas,he,ht⟩:=Ts.get HR.out hlt
   rw [<-hstep] at hval
   generalize l[k]=t at *
   have HVAL:=Jh hval
   have HST:=Jh hstep
   have HVT:=Jh (show VT wb (t.cells s1 s2) t from ⟨s1,s2,rfl,he,ht⟩)
   have HH1:=Jh (hhas.ext HW1.out.ext)
   have HSD:=Jh hsaid
   have HE1:=he.one
   have HT2:=ht.one
   clear hsaid hval hstep hhas he ht
   have hx4:=ext_alloc wr (.cells (t.cells s1 s2).toArray 60)
   have hb4:=Blk.new wr (t.cells s1 s2).toArray 60
   have HX4:=Jh hx4
   have HB4:=Jh hb4
   clear hx4 hb4
   go_upto_region 3 with (first | ((with_reducible show Jl 60);refine Jm 60 (HH1.out) agg_T rfl ?_) | ((with_reducible show Js 60);refine wpList_store_new rfl 60 _ _ rfl rfl (by first | rfl | simp) rfl agg_T (rfl) rfl (by simp [HE1,HT2,one_int]) ?_))
   generalize wr.alloc _=w4 at *
   have hW4:=HW1.out.ext' HX4.out
   have HC:=Jh (HSD.out _ _ _ hW4 HVT.out)
   have HG4:=Jh (gbR_trans HGR.out (gbR_ext HX4.out _))
   have HW4:=Jh hW4
   clear hW4
   go_wp2_with (first | ((with_reducible show Jl 60);refine Jm 60 (HB4.out.has) agg_T rfl ?_) | (go_at_call 86;refine (HC.out).mono ?_;rintro r w5 ⟨rfl,hr5,hg5⟩))
   go_roundw
   case rel=>exact ⟨k+1,hlt,by go_num,HW4.out.grown HVAL.out (by rw [HST.out];exact hr5) hg5,gbR_trans HG4.out hg5⟩
   case measure=>simp [intOf];omega
  ·obtain rfl:k=l.length:=by omega
   go_wp2_with fail
   all_goals go_end0
   exact ⟨rfl,by rw [<-HLL.out];exact HW1.out.row,HGR.out⟩
theorem plOne_set {d:Flat} {sv pv cv wasv nv:Value} {was:List Nat} {ck:Bool} {P:Nat} {wb:World} (H:Pl d sv pv cv wasv was wb) {t:T} (hr:RunOk d.signals ck t) (ho:t.op=1):PlSaid d sv pv cv wasv nv was ck P wb t:=by
 intro v cs w hW hV
 have hls:∀ x∈d.signals,x.w<=64:=fun x hx=>(checkM_w H.hc x hx).2
 obtain ⟨h1,h2,-⟩:=(RunOk_iff _ _ t).1 hr
 obtain ⟨hsl,x,hx,hxw⟩:slice d.signals t.sig t.hi t.lo=true/\∃ x,t.e=[x]/\x.w=t.hi-t.lo+1:=by
  rcases h2 with ⟨-,a,-,b,-⟩ | ⟨o,-⟩ | ⟨o,-⟩ | o | o
  ·exact ⟨a,b⟩
  all_goals omega
 obtain ⟨q1,q2,q3,q4,q5,-⟩:=slice_le d.signals hls hsl
 have q6:=sigW_le d.signals hls t.sig
 have hx1:=h1 x (by simp [hx])
 have hev:=ev_lt (vs:=if ck then was else v) hls x hx1.1 hx1.2.1
 have hone:oneM ck was t v=setV v t.sig t.hi t.lo (evM (if ck then was else v) x):=by rw [oneM_1 ck was v ho,hx];rfl
 rw [hxw] at hev
 obtain ⟨sg,hsg⟩:=Int.eq_ofNat_of_zero_le q1
 obtain ⟨lo,hlo⟩:=Int.eq_ofNat_of_zero_le q3
 obtain ⟨hi,hhi⟩:=Int.eq_ofNat_of_zero_le (Int.le_trans q3 q4)
 have hvl:=hW.val.1
 have hsv:sg<v.length:=by omega
 obtain ⟨g,cap,hnv,hN,hcl⟩:=hW.row.open1 (by omega)
 have hv64:=val2_us64 hls hW.val _ (List.getElem_mem hsv)
 have hc1:=hcl sg _ (List.getElem?_eq_getElem hsv)
 have hf1:w.frozen? ⟨g,sg,none⟩=false:=by
  have h:=hW.row
  rw [hnv] at h
  obtain ⟨-,cur,hcur⟩:=h.at rfl
  exact Blk.frozen (cs:=cur) (T:=34) hcur sg
 have hrow:=hW.row
 rw [hnv] at hrow
 have hrow':=hrow.set sg hsv (setBits v[sg] hi lo (evM (if ck then was else v) x))
 have hset:setV v t.sig t.hi t.lo (evM (if ck then was else v) x)=v.set sg (setBits v[sg] hi lo (evM (if ck then was else v) x)):=by
  unfold setV
  rw [hsg,hlo,hhi,Int.toNat_natCast,Int.toNat_natCast,Int.toNat_natCast,List.getD_eq_getElem?_getD,List.getElem?_eq_getElem hsv,Option.getD_some]
 rw [hlo,hhi,show ((hi:Int)-lo+1).toNat=hi+1-lo by omega] at hev
 have hlh:lo<=hi:=by omega
 have h64:hi<64:=by omega
 obtain ⟨-,cur,hcur⟩:=hW.row.at (k:=g) (by rw [hnv];rfl)
 have hgw:g<w.heap.size:=(Array.getElem?_eq_some_iff.1 hcur).1
 have hPg:P≠g:=fun e=>hW.row.ne hW.blk (by decide) (k:=g) (by rw [hnv];rfl) e.symm
 obtain ⟨se,sl,rfl,he,-⟩:=hV
 obtain ⟨ae,be,oe,ce,rfl,hce1,hce2,hae,her⟩:=he.open
 rw [hx] at hce1 hae her
 obtain rfl:=hae (by simp)
 obtain ⟨sx,hxh,hxs⟩:=Es.get her (k:=0) (by simp)
 have hxh:Has wb be oe (x.cells sx):=by simpa using hxh
 have hxs:Es wb sx x.l:=by simpa using hxs
 have htc:t.cells (.slice (some ⟨be,oe,none⟩) t.e.length ce) sl=[.int .i64 1,.int .i64 (sg:Int),.int .i64 (hi:Int),.int .i64 (lo:Int),.slice (some ⟨be,oe,none⟩) 1 ce,sl]:=by
  unfold T.cells;rw [ho,hsg,hhi,hlo,hx];rfl
 rw [htc,hone,hset]
 have x0:=ext_alloc w (.cells [.int .i64 1,.int .i64 (sg:Int),.int .i64 (hi:Int),.int .i64 (lo:Int),.slice (some ⟨be,oe,none⟩) 1 ce,sl].toArray 60)
 have hT:=Blk.new w [.int .i64 1,.int .i64 (sg:Int),.int .i64 (hi:Int),.int .i64 (lo:Int),.slice (some ⟨be,oe,none⟩) 1 ce,sl].toArray 60
 have HVAL:=Jh (fun W (h:Ext w W)=>plVal H (hW.ext' h) x _ ⟨sx,rfl,hxs.ext (hW.ext.trans h)⟩ hx1)
 have HXH:=Jh (fun W (h:Ext w W)=>hxh.ext (hW.ext.trans h))
 have HP:=Jh (fun W (h:Ext w W)=>hW.blk.ext h)
 have HC:=Jh (fun W (h:Ext w W)=>show W.cell? ⟨g,sg,none⟩=some (W64 v[sg]) from (h.cell (p:=⟨g,sg,none⟩) hgw).trans hc1)
 have HFZ:=Jh (fun W (h:Ext w W)=>show W.frozen? ⟨g,sg,none⟩=false from (h.frozen (p:=⟨g,sg,none⟩) hgw).trans hf1)
 have HROW:=Jh (fun W (h:Ext w W)=>((hnv ▸ hW.row:WordRow wb.heap.size (.slice (some ⟨g,0,none⟩) v.length cap) v w).ext h).set sg hsv (setBits v[sg] hi lo (evM (if ck then was else v) x)))
 subst hnv
 have HSW:=Jh (set_word hlh h64 hv64 hev)
 have HMS:=Jh (mask_shift hlh h64)
 have HML:=Jh (maskN_lt hlh h64)
 have HN:=Jh hN
 have hvl2:v.length<=1048576:=by have:=H.ok.signals;omega
 clear hrow hrow' hone hset hls h1 h2 hsl hx hxw q1 q2 q3 q4 q5 q6 hx1 hev hsg hlo hhi hvl hcl hv64 hc1 hf1 hcur he hce1 hce2 hae her hxh hxs htc hr ho
 generalize evM (if ck then was else v) x=X at *
 generalize v[sg]=y at *
 generalize maskN hi lo=M at *
 go_enter Tryz.func86,Tryz.ntmps86
 go_upto_region 1 with fail
 generalize w.alloc _=w0 at *
 have HT:=Jh hT
 have y0:=hT.has 0 _ rfl
 have y4:=hT.has 4 _ rfl
 have e0:=HXH.out w0 x0
 have HV0:=Jh (HVAL.out w0 x0)
 clear hT
 go_upto_region 5 with (first | ((with_reducible show Jl 64);refine Jm 64 (e0) agg_E rfl ?_) | (go_at_call 135;refine (HV0.out).mono ?_;rintro r w1 ⟨rfl,hx1⟩))
 have HX1:=Jh (x0.trans hx1)
 have HT1:=Jh (HT.out.ext hx1)
 have HP1:=Jh (HP.out w1 HX1.out)
 clear hx1 x0 y0 y4 e0 HV0 HVAL HT
 refine Jg w1 fun hH=>?_
 try simp only [J]
 (refine Jt 0 (.pointer (some ⟨w.heap.size,2,none⟩)) rfl (yif_load1 rfl (by intro W hW;clear hW;go_simp)) hH ?_;try simp only [J])
 (refine Jt 1 (.int .i64 (hi:Int)) rfl (yif_load1 rfl (by intro W hW;have z:=(HT1.out.ext hW).has 2 _ rfl;clear hW;go_simp)) hH ?_;try simp only [J])
 (refine Jt 2 (.pointer (some ⟨w.heap.size,3,none⟩)) rfl (yif_load1 rfl (by intro W hW;clear hW;go_simp)) hH ?_;try simp only [J])
 (refine Jt 3 (.int .i64 (lo:Int)) rfl (yif_load1 rfl (by intro W hW;have z:=(HT1.out.ext hW).has 3 _ rfl;clear hW;go_simp)) hH ?_;try simp only [J])
 (refine Jt 4 (.int .i64 ((hi-lo:Nat):Int)) rfl (yif_load1 rfl (by intro W hW;clear hW;go_simp;rw [IntKind.wrap_i64];omega)) hH ?_;try simp only [J])
 (refine Jt 5 (.int .i64 ((63-(hi-lo):Nat):Int)) rfl (yif_load1 rfl (by intro W hW;clear hW;go_simp;rw [IntKind.wrap_i64];omega)) hH ?_;try simp only [J])
 (refine Jt 6 (.int .u64 ((18446744073709551615:Int).fdiv (2^(63-(hi-lo))))) rfl (yif_load1 rfl (by intro W hW;clear hW;go_simp;exact (Int.fdiv_eq_ediv_of_nonneg _ (Int.le_of_lt (Int.pow_pos (by decide)))).symm)) hH ?_;try simp only [J])
 (refine Jt 7 (.pointer (some ⟨w.heap.size,3,none⟩)) rfl (yif_load1 rfl (by intro W hW;clear hW;go_simp)) hH ?_;try simp only [J])
 (refine Jt 8 (.int .i64 (lo:Int)) rfl (yif_load1 rfl (by intro W hW;have z:=(HT1.out.ext hW).has 3 _ rfl;clear hW;go_simp)) hH ?_;try simp only [J])
 (refine Jt 9 (.int .u64 (M:Int)) rfl (yif_load1 rfl (by intro W hW;clear hW;go_simp;exact HMS.out)) hH ?_;try simp only [J])
 (refine Jt 10 (.int .u64 ((18446744073709551615-M:Nat):Int)) rfl (yif_load1 rfl (by intro W hW;clear hW;go_simp;exact n_not HML.out)) hH ?_;try simp only [J])
 (refine Jt 11 (.int .u64 ((18446744073709551615-M:Nat):Int)) rfl (yif_load1 rfl fun _ _=>rfl) hH ?_;try simp only [J])
 refine Jz ?_
 have HX2:=Jh (HX1.out.trans hH)
 have HT2:=Jh (HT1.out.ext hH)
 have HP2:=Jh (HP1.out.ext hH)
 clear hH HX1 HT1 HP1 HMS HML HXH
 generalize w1.drew=w2 at *
 go_upto_region 6 with fail
 refine wp_region_held_drew (S:=fun W=>Blk W w.heap.size [.int .i64 1,.int .i64 (sg:Int),.int .i64 (hi:Int),.int .i64 (lo:Int),.slice (some ⟨be,oe,none⟩) 1 ce,sl].toArray 60/\Blk W P (plCells sv pv cv wasv (.slice (some ⟨g,0,none⟩) v.length cap) ck).toArray 82) (by kernel_rfl) ⟨HT2.out.drew,HP2.out.drew⟩ (fun hH=>?_)
 try simp only [J]
 (refine Jt 0 (.pointer (some ⟨P,0,none⟩)) rfl (yif_load1 rfl fun _ _=>rfl) hH ?_;try simp only [J])
 (refine Jt 1 (.pointer (some ⟨P,0,none⟩)) rfl (yif_load1 rfl (by intro W hW;clear hW;go_simp)) hH ?_;try simp only [J])
 (refine Jt 2 (.pointer (some ⟨P,4,none⟩)) rfl (yif_load1 rfl (by intro W hW;clear hW;go_simp)) hH ?_;try simp only [J])
 (refine Jt 3 (.slice (some ⟨g,0,none⟩) v.length cap) rfl (yif_load1 rfl (by intro W hW;have z:=hW.2.has 4 _ rfl;clear hW;go_simp)) hH ?_;try simp only [J])
 (refine Jt 4 (.pointer (some ⟨w.heap.size,1,none⟩)) rfl (yif_load1 rfl (by intro W hW;clear hW;go_simp)) hH ?_;try simp only [J])
 (refine Jt 5 (.int .i64 (sg:Int)) rfl (yif_load1 rfl (by intro W hW;have z:=hW.1.has 1 _ rfl;clear hW;go_simp)) hH ?_;try simp only [J])
 (refine Jt 6 (.pointer (some ⟨P,0,none⟩)) rfl (yif_load1 rfl fun _ _=>rfl) hH ?_;try simp only [J])
 (refine Jt 7 (.pointer (some ⟨P,0,none⟩)) rfl (yif_load1 rfl (by intro W hW;clear hW;go_simp)) hH ?_;try simp only [J])
 (refine Jt 8 (.pointer (some ⟨P,4,none⟩)) rfl (yif_load1 rfl (by intro W hW;clear hW;go_simp)) hH ?_;try simp only [J])
 (refine Jt 9 (.slice (some ⟨g,0,none⟩) v.length cap) rfl (yif_load1 rfl (by intro W hW;have z:=hW.2.has 4 _ rfl;clear hW;go_simp)) hH ?_;try simp only [J])
 (refine Jt 10 (.pointer (some ⟨w.heap.size,1,none⟩)) rfl (yif_load1 rfl (by intro W hW;clear hW;go_simp)) hH ?_;try simp only [J])
 (refine Jt 11 (.int .i64 (sg:Int)) rfl (yif_load1 rfl (by intro W hW;have z:=hW.1.has 1 _ rfl;clear hW;go_simp)) hH ?_;try simp only [J])
 (refine Jt 12 (.pointer (some ⟨g,sg,none⟩)) rfl (yif_load1 rfl (by intro W hW;clear hW;go_simp;try (intro h;omega))) hH ?_;try simp only [J])
 (refine Jt 14 (.int .u64 ((18446744073709551615-M:Nat):Int)) rfl (yif_load1 rfl fun _ _=>rfl) hH ?_;try simp only [J])
 (refine Jt 16 (.int .u64 (X:Int)) rfl (yif_load1 rfl fun _ _=>rfl) hH ?_;try simp only [J])
 (refine Jt 17 (.pointer (some ⟨w.heap.size,3,none⟩)) rfl (yif_load1 rfl (by intro W hW;clear hW;go_simp)) hH ?_;try simp only [J])
 (refine Jt 18 (.int .i64 (lo:Int)) rfl (yif_load1 rfl (by intro W hW;have z:=hW.1.has 3 _ rfl;clear hW;go_simp)) hH ?_;try simp only [J])
 (refine Jt 19 (.int .u64 (IntKind.u64.wrap ((X:Int)*2^lo))) rfl (yif_load1 rfl (by intro W hW;clear hW;go_simp)) hH ?_;try simp only [J])
 have c1:=HC.out _ (HX2.out.trans (Below.drew (Below.refl _ w2)))
 (refine Jr 13 rfl fun K hK=>?_)
 go_simp
 refine hK.out _ _ hH (fun hH=>?_)
 clear hK K c1
 try simp only [J]
 (refine Jt 15 (.int .u64 (bits .and .u64 (y:Int) ((18446744073709551615-M:Nat):Int))) rfl (yif_load1 rfl (by intro W hW;clear hW;go_simp)) hH ?_;try simp only [J])
 (refine Jt 20 (.int .u64 ((setBits y hi lo X:Nat):Int)) rfl (yif_load1 rfl (by intro W hW;clear hW;go_simp;exact HSW.out)) hH ?_;try simp only [J])
 (refine Jt 21 (.pointer (some ⟨g,sg,none⟩)) rfl (yif_load1 rfl (by intro W hW;clear hW;go_simp;try (intro h;omega))) hH ?_;try simp only [J])
 have hxd:Ext w w2.drew:=HX2.out.trans (Below.drew (Below.refl _ w2))
 have f1:=HFZ.out _ hxd
 have c1:=HC.out _ hxd
 have HRN:=Jh (HROW.out _ hxd)
 have HGN:=Jh (gbR_trans (gbR_ext hxd (some g)) (gb_set w2.drew g sg (W64 (setBits y hi lo X))))
 clear hxd HSW HC HFZ HROW HX2 HT2 HP2
 generalize setBits y hi lo X=Z at *
 (refine Jr 22 rfl fun K hK=>?_)
 go_simp
 have hw1:Blk (w2.drew.setCell ⟨g,sg,none⟩ (W64 Z)) w.heap.size _ _:=hH.1.grown (gb_set _ g sg _) (by omega)
 have hw2:Blk (w2.drew.setCell ⟨g,sg,none⟩ (W64 Z)) P _ _:=hH.2.grown (gb_set _ g sg _) hPg
 refine hK.out _ _ ⟨hw1,hw2⟩ (fun hH=>?_)
 clear hK K c1 f1 hw1 hw2
 refine Jz ?_
 clear hH
 go_wp2_with fail
 all_goals go_end0
 exact ⟨rfl,HRN.out,HGN.out⟩
end Go.Proofs.YtaipaccpaljecaaGreat
