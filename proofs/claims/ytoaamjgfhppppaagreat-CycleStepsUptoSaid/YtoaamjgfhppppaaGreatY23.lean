/- Laws and walks that a claim of this seat leans on: StmtL, StmtL2, StmtL3, StmtL4, StmtL5, StmtL6, RestL, RestL2, RestL3, PlayL, WordB. -/
import Derived.Test.YtoaamjgfhppppaaGreatY22
import Derived.Test.YtoaamjgfhppppaaGreatY15
import Derived.Test.YtoaamjgfhppppaaGreatY17
import Derived.Test.YtoaamjgfhppppaaGreatY13
import Derived.Test.YtoaamjgfhppppaaGreatY18
import Derived.Test.YtoaamjgfhppppaaGreatY00
set_option maxRecDepth 100000
set_option maxHeartbeats 8000000
set_option linter.all false
namespace Go.Proofs.YtoaamjgfhppppaaGreat
open Go.RowKit
theorem vals_ext {ls:List Signal} {r r':List Nat} (h:Val2 ls r) (h':Val2 ls r') (hag:∀ k j:Nat,k<ls.length->(j:Int)<sigW ls (k:Int)->(r.getD k 0).testBit j=(r'.getD k 0).testBit j):r=r':=by
 refine List.ext_getElem (by rw [h.1,h'.1]) fun k hk hk'=>?_
 have hks:k<ls.length:=by rw [<-h.1];exact hk
 have e1:r.getD k 0=r[k]:=by rw [List.getD_eq_getElem?_getD,List.getElem?_eq_getElem hk];rfl
 have e2:r'.getD k 0=r'[k]:=by rw [List.getD_eq_getElem?_getD,List.getElem?_eq_getElem hk'];rfl
 rw [<-e1,<-e2]
 refine Nat.eq_of_testBit_eq fun j=>?_
 by_cases hj:(j:Int)<sigW ls (k:Int)
 ·exact hag k j hks hj
 ·rw [vals_high h.2 hks hj,vals_high h'.2 hks hj]
def clkD (d:Flat) (p:Int):Bool:=(d.procs[p.toNat]?.map (·.clocked)).getD false
def runL (d:Flat) (p:Int) (v:List Nat):List Nat:=allM (clkD d p) v (procL d p) v
theorem runM_eq (d:Flat) (vs:List Nat) (p:Int):runM d vs p=if valsOk d vs=true/\0<=p/\p<d.procs.length then (runL d p vs,0) else ([],1):=rfl
theorem procL_ok {d:Flat} (hok:d.ok) (hc:checkM d=0) {p:Int} (h0:0<=p) (h1:p<d.procs.length):∀ t∈procL d p,RunOk d.signals (clkD d p) t:=by
 have hk:p.toNat<d.procs.length:=by omega
 unfold procL clkD
 rw [List.getElem?_eq_getElem hk]
 exact runOk_check hok hc _ (List.getElem_mem hk)
theorem run_two {d:Flat} (hok:d.ok) (hc:checkM d=0) {p:Int} (h0:0<=p) (h1:p<d.procs.length) {v v':List Nat} (hv:Val2 d.signals v) (hv':Val2 d.signals v') (hag:Ag d.signals v v' (RdL d.signals (procL d p))) :
  Two d.signals v v' (runL d p v) (runL d p v') (·∈alwM (offsM d.signals d.signals.length) (procL d p)) (WrL d.signals (procL d p)) :=
 allM_two (checkM_w hc) hv hv' (P:=RdL d.signals (procL d p)) (fun _=>hag) _ (procL_ok hok hc h0 h1) (fun _ h=>h) v v' hv hv' fun _=>hag
theorem run_kept {d:Flat} (hok:d.ok) (hc:checkM d=0) {p:Int} (h0:0<=p) (h1:p<d.procs.length) {v:List Nat} (hv:Val2 d.signals v):Val2 d.signals (runL d p v)/\Ag d.signals v (runL d p v) (fun x=>¬ WrL d.signals (procL d p) x):=by
 obtain ⟨ok,W,-,a2,-,a4,-⟩:=run_two hok hc h0 h1 hv hv (Ag.refl _ _ _)
 exact ⟨ok.1,a4.mono fun x hx hw=>hx (a2 x hw)⟩
theorem mem_writesM (d:Flat) (p x:Int):x∈writesM d p↔WrL d.signals (procL d p) x:=by
 unfold writesM WrL spansW wS
 rw [mem_numbersM,List.take_length]
 constructor
 ·rintro ⟨s,hs,h⟩
  obtain ⟨u,hu,rfl⟩:=List.mem_map.1 hs
  obtain ⟨hu,ho⟩:=List.mem_filter.1 hu
  exact ⟨u,hu,by simpa using ho,(mem_numbersM _ _ _).2 ⟨ownS u,by simp,h⟩⟩
 ·rintro ⟨u,hu,ho,h⟩
  obtain ⟨s,hs,h⟩:=(mem_numbersM _ _ _).1 h
  obtain rfl:=List.mem_singleton.1 hs
  exact ⟨ownS u,List.mem_map.2 ⟨u,List.mem_filter.2 ⟨hu,by simpa using ho⟩,rfl⟩,h⟩
theorem mem_readsM (d:Flat) (p x:Int):x∈readsM d p↔RdL d.signals (procL d p) x:=by
 unfold readsM RdL spansR rS bitsM
 rw [numbersM_set,setI_mem,List.take_length]
 unfold allNums
 constructor
 ·intro h
  obtain ⟨m,hm,hx⟩:=List.mem_flatten.1 h
  obtain ⟨s,hs,rfl⟩:=List.mem_map.1 hm
  obtain ⟨q,hq,hs⟩:=List.mem_flatten.1 hs
  obtain ⟨u,hu,rfl⟩:=List.mem_map.1 hq
  obtain ⟨r,hr,hs⟩:=List.mem_flatten.1 hs
  obtain ⟨e,he,rfl⟩:=List.mem_map.1 hr
  exact ⟨u,hu,e,he,List.mem_flatten.2 ⟨_,List.mem_map.2 ⟨s,hs,rfl⟩,hx⟩⟩
 ·rintro ⟨u,hu,e,he,h⟩
  obtain ⟨m,hm,hx⟩:=List.mem_flatten.1 h
  obtain ⟨s,hs,rfl⟩:=List.mem_map.1 hm
  exact List.mem_flatten.2 ⟨_,List.mem_map.2 ⟨s,List.mem_flatten.2 ⟨_,List.mem_map.2 ⟨u,hu,rfl⟩,List.mem_flatten.2 ⟨_,List.mem_map.2 ⟨e,he,rfl⟩,hs⟩⟩,rfl⟩,hx⟩
theorem run_hangs {d:Flat} (hok:d.ok) (hc:checkM d=0) {p:Int} (h0:0<=p) (h1:p<d.procs.length) {v x:List Nat} (hv:Val2 d.signals v) (hx:Val2 d.signals x) (hag:Ag d.signals v x (·∈readsM d p)) :
  Val2 d.signals (runL d p v)/\Val2 d.signals (runL d p x)/\Ag d.signals (runL d p v) (runL d p x) (·∈alwaysM d p)/\Ag d.signals v (runL d p v) (fun n=>¬ n∈writesM d p)/\Ag d.signals x (runL d p x) (fun n=>¬ n∈writesM d p) /\
  ∀ k j:Nat,k<d.signals.length->(j:Int)<sigW d.signals (k:Int)->(v.getD k 0).testBit j=(x.getD k 0).testBit j->((runL d p v).getD k 0).testBit j=((runL d p x).getD k 0).testBit j:=by
 obtain ⟨ok,W,w1,w2,w3,w4,w5⟩:=run_two hok hc h0 h1 hv hx (hag.mono fun n hn=>(mem_readsM d p n).2 hn)
 refine ⟨ok.1,ok.2,w3.mono fun n hn=>w1 n hn,w4.mono fun n hn hw=>hn ((mem_writesM d p n).2 (w2 n hw)),w5.mono fun n hn hw=>hn ((mem_writesM d p n).2 (w2 n hw)),fun k j hk hj h=>?_⟩
 by_cases c:W (sumW d.signals k+j)
 ·exact w3 k j hk hj c
 ·rw [<-w4 k j hk hj c,<-w5 k j hk hj c];exact h
theorem alw_wr (ls:List Signal) (t:T):(∀ x,x∈alt (offsM ls ls.length) t->(t.op=2\/t.op=3->t.l≠[])->(∀ u∈eachT t,u.op=2\/u.op=3->u.l≠[])->Wr ls t x)/\∀ x,x∈alwM (offsM ls ls.length) t.l->(∀ u∈eachT t,u.op=2\/u.op=3->u.l≠[])->WrL ls t.l x:=by
 induction t using T.ind with
 | h t ih =>
  have hall:∀ l:List T,(∀ x∈l,x∈t.l)->(∀ u∈eachT t,u.op=2\/u.op=3->u.l≠[])->∀ x,x∈alwM (offsM ls ls.length) l->WrL ls l x:=by
   intro l
   induction l with
   | nil=>intro _ _ x hx;exact absurd hx (alwM_nil _ _)
   | cons y l ih2 =>
    intro hm hu x hx
    rw [WrL_cons]
    have hy:∀ u∈eachT y,u∈eachT t:=fun u h=>by
     rw [eachT_eq,eachTs_eq];exact List.mem_cons_of_mem _ (List.mem_flatten.2 ⟨_,List.mem_map.2 ⟨y,hm y (by simp),rfl⟩,h⟩)
    rcases (alwM_cons _ _ _ _).1 hx with h | h
    ·exact .inl ((ih y (hm y (by simp))).1 x h (fun ho=>hu y (hy y (by rw [eachT_eq];simp)) ho) fun u h=>hu u (hy u h))
    ·exact .inr (ih2 (fun z hz=>hm z (by simp [hz])) hu x h)
  refine ⟨fun x hx hne hu=>?_,fun x hx hu=>hall t.l (fun _ h=>h) hu x hx⟩
  rw [Wr_parts]
  rw [alt_eq] at hx
  by_cases o1:t.op=1
  ·rw [if_pos o1] at hx;exact .inl ⟨o1,hx⟩
  rw [if_neg o1] at hx
  by_cases o2:t.op=2\/t.op=3
  ·rw [if_pos o2] at hx
   obtain ⟨y,r,hy⟩:=List.exists_cons_of_ne_nil (hne o2)
   have hm:y∈t.l:=by rw [hy];simp
   have h1:=metM_all hx _ (List.mem_map.2 ⟨y,hm,rfl⟩)
   have h2:=(ih y hm).2 x h1 fun u h=>hu u (by rw [eachT_eq,eachTs_eq];exact List.mem_cons_of_mem _ (List.mem_flatten.2 ⟨_,List.mem_map.2 ⟨y,hm,rfl⟩,h⟩))
   exact .inr (WrL_mem hm ((Wr_parts ls y x).2 (.inr h2)))
  ·rw [if_neg o2] at hx
   exact .inr (hall t.l (fun _ h=>h) hu x hx)
def whereK (s:List Int) (n:Int):Nat->Nat
 | 0=>0
 | i+1=>if s.getD i 0<=n then i else whereK s n i
theorem bn_of {ls:List Signal} (hls:∀ x∈ls,1<=x.w/\x.w<=64) {n:Int} (h0:0<=n):∀ m,m<=ls.length->n<sumW ls m->∃ k j:Nat,k<m/\(j:Int)<sigW ls (k:Int)/\n=bn ls k j:=by
 intro m
 induction m with
 | zero=>intro _ h;exfalso;have:sumW ls 0=0:=rfl;omega
 | succ m ih =>
  intro hm h
  by_cases c:n<sumW ls m
  ·obtain ⟨k,j,hk,hj,e⟩:=ih (by omega) c
   exact ⟨k,j,by omega,hj,e⟩
  ·have hs:sigW ls (m:Int)=ls[m].w:=by simp [sigW,List.getElem?_eq_getElem (show m<ls.length by omega)]
   have h3:=sumW_succ ls m (by omega)
   exact ⟨m,(n-sumW ls m).toNat,by omega,by omega,by unfold bn;omega⟩
def bitN11 (ls:List Signal) (v:List Nat) (n:Int):Nat:=(v.getD (whereK (offsM ls ls.length) n ls.length) 0) / 2^(n-sumW ls (whereK (offsM ls ls.length) n ls.length)).toNat%2
theorem take_bit (a b m i:Nat) (ha:a<2^64) (hm:m<64):((a &&& (2^64-(2^m+1))) ||| (b &&& 2^m)).testBit i=if i=m then b.testBit i else a.testBit i:=by
 have h2:(2:Nat)^m<2^64:=Nat.pow_lt_pow_right (by decide) hm
 rw [Nat.testBit_or,Nat.testBit_and,Nat.testBit_and,Nat.testBit_two_pow_sub_succ h2,Nat.testBit_two_pow]
 by_cases e:i=m
 ·subst e;simp
 ·rw [if_neg e]
  have e':¬ m=i:=fun h=>e h.symm
  by_cases h3:i<64
  ·simp [e',h3]
  ·have:a.testBit i=false:=Nat.testBit_lt_two_pow (Nat.lt_of_lt_of_le ha (Nat.pow_le_pow_right (by decide) (by omega)))
   simp [e',this]
theorem runOk_each {ls:List Signal} {ck:Bool} (t:T):RunOk ls ck t->∀ u∈eachT t,RunOk ls ck u:=by
 induction t using T.ind with
 | h t ih =>
  intro h u hu
  rw [eachT_eq] at hu
  rcases List.mem_cons.1 hu with rfl | hu
  ·exact h
  ·rw [eachTs_eq] at hu
   obtain ⟨m,hm,hu⟩:=List.mem_flatten.1 hu
   obtain ⟨y,hy,rfl⟩:=List.mem_map.1 hm
   exact ih y hy (((RunOk_iff ls ck t).1 h).2.2 y hy) u hu
theorem runOk_eachs {ls:List Signal} {ck:Bool} {l:List T} (h:∀ t∈l,RunOk ls ck t):∀ u∈eachT.eachTs l,RunOk ls ck u:=by
 intro u hu
 rw [eachTs_eq] at hu
 obtain ⟨m,hm,hu⟩:=List.mem_flatten.1 hu
 obtain ⟨y,hy,rfl⟩:=List.mem_map.1 hm
 exact runOk_each y (h y hy) u hu
theorem runOk_ways {ls:List Signal} {ck:Bool} {u:T} (h:RunOk ls ck u) (ho:u.op=2\/u.op=3):u.l≠[]:=by
 obtain ⟨-,h2,-⟩:=(RunOk_iff ls ck u).1 h
 rcases h2 with ⟨o,-⟩ | ⟨-,-,a,b,hab⟩ | ⟨-,-,a1,-⟩ | o | o
 ·omega
 ·rw [hab];simp
 ·intro e;rw [e] at a1;simp at a1
 ·omega
 ·omega
theorem always_sub {d:Flat} (hok:d.ok) (hc:checkM d=0) {p:Int} (h0:0<=p) (h1:p<d.procs.length):∀ x∈alwaysM d p,x∈writesM d p:=by
 intro x hx
 rw [mem_writesM]
 have hall:=procL_ok hok hc h0 h1
 unfold alwaysM offsD at hx
 have key:∀ l:List T,(∀ t∈l,RunOk d.signals (clkD d p) t)->x∈alwM (offsM d.signals d.signals.length) l->WrL d.signals l x:=by
  intro l
  induction l with
  | nil=>intro _ h;exact absurd h (alwM_nil _ _)
  | cons y l ih =>
   intro hm h
   rw [WrL_cons]
   rcases (alwM_cons _ _ _ _).1 h with h | h
   ·exact .inl ((alw_wr d.signals y).1 x h (fun ho=>runOk_ways (hm y (by simp)) ho) fun u hu=>runOk_ways (runOk_each y (hm y (by simp)) u hu))
   ·exact .inr (ih (fun z hz=>hm z (by simp [hz])) h)
 exact key _ hall hx
theorem writes_kind {d:Flat} (hok:d.ok) (hc:checkM d=0) {p:Int} (h0:0<=p) (h1:p<d.procs.length):∀ x∈writesM d p,∃ k j:Nat,k<d.signals.length/\(j:Int)<sigW d.signals (k:Int)/\x=bn d.signals k j /\
  kindOf d.signals (k:Int)≠1/\clkD d p=decide (kindOf d.signals (k:Int)=4):=by
 intro x hx
 obtain ⟨u,hu,ho,hx⟩:=(mem_writesM d p x).1 hx
 have hr:=runOk_eachs (procL_ok hok hc h0 h1) u hu
 obtain ⟨-,h2,-⟩:=(RunOk_iff _ _ u).1 hr
 have hls:=checkM_w hc
 rcases h2 with ⟨-,a1,a2,-⟩ | ⟨o,-⟩ | ⟨o,-⟩ | o | o
 case inl =>
  obtain ⟨q1,q2,q3,q4,q5,-⟩:=slice_le d.signals (fun x hx=>(hls x hx).2) a1
  obtain ⟨j,j1,j2,rfl⟩:=(own_num hls a1 x).1 hx
  have hk:((u.sig.toNat:Nat):Int)=u.sig:=by omega
  exact ⟨u.sig.toNat,j,by omega,by rw [hk];omega,rfl,by rw [hk];exact a2.1,by rw [hk];exact a2.2⟩
 all_goals omega
theorem reads_range {d:Flat} (hok:d.ok) (hc:checkM d=0) {p:Int} (h0:0<=p) (h1:p<d.procs.length):∀ x∈readsM d p,0<=x/\x<sumW d.signals d.signals.length:=by
 intro x hx
 obtain ⟨u,hu,e,he,hx⟩:=(mem_readsM d p x).1 hx
 have hr:=runOk_eachs (procL_ok hok hc h0 h1) u hu
 obtain ⟨q,-,-⟩:=(RunOk_iff _ _ u).1 hr
 exact bitsM_range (checkM_w hc) e (q e he).1 x hx
theorem bn_range {ls:List Signal} (hls:∀ x∈ls,1<=x.w/\x.w<=64) {k j:Nat} (hk:k<ls.length) (hj:(j:Int)<sigW ls (k:Int)):0<=bn ls k j/\bn ls k j<sumW ls ls.length:=by
 have hs:sigW ls (k:Int)=ls[k].w:=by simp [sigW,List.getElem?_eq_getElem hk]
 have h3:=sumW_succ ls k hk
 have h4:=sumW_mono ls hls (k+1) ls.length (by omega) (Nat.le_refl _)
 have h5:=(sumW_le ls hls k (by omega)).1
 unfold bn;omega
theorem writes_range {d:Flat} (hok:d.ok) (hc:checkM d=0) {p:Int} (h0:0<=p) (h1:p<d.procs.length):∀ x∈writesM d p,0<=x/\x<sumW d.signals d.signals.length:=by
 intro x hx
 obtain ⟨k,j,hk,hj,rfl,-,-⟩:=writes_kind hok hc h0 h1 x hx
 exact bn_range (checkM_w hc) hk hj
theorem valsOk_of {d:Flat} (hc:checkM d=0) {vs:List Nat} (hv:Val2 d.signals vs):valsOk d vs=true:=by
 unfold valsOk valB
 simp only [Bool.and_eq_true,decide_eq_true_eq,List.all_eq_true]
 refine ⟨hv.1,hc,fun k hk=>?_⟩
 have:=hv.2 (k:Int) (by omega) (by have:=List.mem_range.1 hk;omega)
 simpa using this
theorem valsOk_val2 {d:Flat} {vs:List Nat} (h:valsOk d vs=true):Val2 d.signals vs:=⟨(valsOk_ck h).1,(valsOk_ck h).2.2⟩
theorem evalM_of {d:Flat} (hc:checkM d=0) {vs:List Nat} (hv:Val2 d.signals vs) {x:E} (hx:WS d.signals x) (hn:nodes x<=65536) (hd:deep x<=64):evalM d vs x=(evM vs x,0):=by
 unfold evalM
 rw [if_pos ⟨valsOk_of hc hv,checkEM_ok (fun y hy=>(checkM_w hc y hy).2) (checkM_sigs hc) hx hn hd⟩]
theorem runM_of {d:Flat} (hc:checkM d=0) {vs:List Nat} (hv:Val2 d.signals vs) {p:Int} (h0:0<=p) (h1:p<d.procs.length):runM d vs p=(runL d p vs,0):=by
 rw [runM_eq,if_pos ⟨valsOk_of hc hv,h0,h1⟩]
def runAll (d:Flat):List Int->List Nat->List Nat
 | [],v=>v
 | p::o,v=>runAll d o (runL d p v)
abbrev Pin (d:Flat) (p:Int):Prop:=0<=p/\p<d.procs.length
theorem runAll_kept {d:Flat} (hok:d.ok) (hc:checkM d=0) (o:List Int) (ho:∀ p∈o,Pin d p):∀ v,Val2 d.signals v->Val2 d.signals (runAll d o v)/\Ag d.signals v (runAll d o v) (fun x=>∀ p∈o,¬ WrL d.signals (procL d p) x):=by
 induction o with
 | nil=>intro v hv;exact ⟨hv,Ag.refl _ _ _⟩
 | cons p o ih =>
  intro v hv
  obtain ⟨h0,h1⟩:=ho p (by simp)
  obtain ⟨va,ka⟩:=run_kept hok hc h0 h1 hv
  obtain ⟨vb,kb⟩:=ih (fun q hq=>ho q (by simp [hq])) _ va
  refine ⟨vb,fun k j hk hj hx=>?_⟩
  rw [ka k j hk hj (hx p (by simp))]
  exact kb k j hk hj fun q hq=>hx q (by simp [hq])
theorem runAll_rest {d:Flat} (hok:d.ok) (hc:checkM d=0) (o:List Int) (ho:∀ p∈o,Pin d p)
  (hs:∀ p∈o,∀ x,RdL d.signals (procL d p) x->¬ WrL d.signals (procL d p) x)
  (hp:o.Pairwise fun p q=>∀ x,WrL d.signals (procL d q) x->¬ WrL d.signals (procL d p) x/\¬ RdL d.signals (procL d p) x) :
  ∀ v,Val2 d.signals v->∀ p∈o,runL d p (runAll d o v)=runAll d o v:=by
 induction o with
 | nil=>intro v _ p hp;cases hp
 | cons p o ih =>
  intro v hv q hq
  obtain ⟨h1,h2⟩:=List.pairwise_cons.1 hp
  obtain ⟨g0,g1⟩:=ho p (by simp)
  obtain ⟨va,ka⟩:=run_kept hok hc g0 g1 hv
  have ho':∀ q∈o,Pin d q:=fun q hq=>ho q (by simp [hq])
  show runL d q (runAll d o (runL d p v))=runAll d o (runL d p v)
  rcases List.mem_cons.1 hq with rfl | hq
  ·obtain ⟨vr,kr⟩:=runAll_kept hok hc o ho' _ va
   have hag:Ag d.signals v (runAll d o (runL d q v)) (RdL d.signals (procL d q)):=fun k j hk hj hx=>by
    rw [ka k j hk hj (hs q (by simp) _ hx)]
    exact kr k j hk hj fun u hu hw=>(h1 u hu _ hw).2 hx
   obtain ⟨ok,W,-,w2,w3,w4,w5⟩:=run_two hok hc g0 g1 hv vr hag
   refine Eq.symm (vals_ext vr ok.2 fun k j hk hj=>?_)
   by_cases c:W (sumW d.signals k+j)
   ·rw [<-w3 k j hk hj c]
    exact (kr k j hk hj fun u hu hw=>(h1 u hu _ hw).1 (w2 _ c)).symm
   ·exact w5 k j hk hj c
  ·exact ih ho' (fun u hu=>hs u (by simp [hu])) h2 _ va q hq
theorem runAll_any {d:Flat} (hok:d.ok) (hc:checkM d=0) (o:List Int) (ho:∀ p∈o,Pin d p) :
  ∀ (B:Int->Prop) (v w:List Nat),Val2 d.signals v->Val2 d.signals w->Ag d.signals v w B ->
   (∀ i (h:i<o.length),∀ x,RdL d.signals (procL d o[i]) x->B x\/∃ q∈o.take i,x∈alwaysM d q) ->
   Ag d.signals (runAll d o v) (runAll d o w) (fun x=>B x\/∃ q∈o,x∈alwaysM d q):=by
 induction o with
 | nil=>intro B v w _ _ hag _;exact hag.mono fun x hx=>hx.resolve_right fun ⟨q,hq,_⟩=>by cases hq
 | cons p o ih =>
  intro B v w hv hw hag hr
  obtain ⟨g0,g1⟩:=ho p (by simp)
  have hag1:Ag d.signals v w (RdL d.signals (procL d p)):=hag.mono fun x hx=>by
   rcases hr 0 (by simp) x hx with h | ⟨q,hq,-⟩
   ·exact h
   ·cases hq
  have T:=run_two hok hc g0 g1 hv hw hag1
  have hkeep:=T.keep hag
  obtain ⟨ok,W,w1,-,w3,-,-⟩:=T
  have hag2:Ag d.signals (runL d p v) (runL d p w) (fun x=>B x\/x∈alwaysM d p):=fun k j hk hj hx=>by
   rcases hx with h | h
   ·exact hkeep k j hk hj h
   ·exact w3 k j hk hj (w1 _ h)
  refine (ih (fun q hq=>ho q (by simp [hq])) (fun x=>B x\/x∈alwaysM d p) _ _ ok.1 ok.2 hag2 fun i hi x hx=>?_).mono fun x hx=>?_
  ·rcases hr (i+1) (by simpa using hi) x (by simpa using hx) with h | ⟨q,hq,h⟩
   ·exact .inl (.inl h)
   ·rw [List.take_succ_cons] at hq
    rcases List.mem_cons.1 hq with rfl | hq
    ·exact .inl (.inr h)
    ·exact .inr ⟨q,hq,h⟩
  ·rcases hx with h | ⟨q,hq,h⟩
   ·exact .inl (.inl h)
   ·rcases List.mem_cons.1 hq with rfl | hq
    ·exact .inl (.inr h)
    ·exact .inr ⟨q,hq,h⟩
theorem drives_iff {d:Flat} (hok:d.ok) (hc:checkM d=0) {by':List Int} (hdm:drvM (nBits d).toNat (wsM d)=some by') {p:Int} (hp:Pin d p) {x:Int}:x∈writesM d p↔0<=x/\by'[x.toNat]? = some p:=by
 have hnb:=nBits_le hok hc
 have hb:∀ l∈wsM d,∀ b∈l,0<=b/\b<((nBits d).toNat:Nat):=by
  intro l hl b hbl
  obtain ⟨k,hk,rfl⟩:=List.mem_map.1 hl
  have hk':=List.mem_range.1 hk
  have:=writesM_range hok hc (p:=(k:Int)) (by simpa using hk') b hbl
  omega
 have hws:(wsM d)[p.toNat]? = some (writesM d p):=by
  unfold wsM
  rw [List.getElem?_map,List.getElem?_range (by have:=hp.2;omega)]
  show some (writesM d ((p.toNat:Nat):Int))=some (writesM d p)
  rw [show ((p.toNat:Nat):Int)=p by have:=hp.1;omega]
 constructor
 ·intro hx
  obtain ⟨h0,h1⟩:=hb _ (List.mem_of_getElem? hws) x hx
  refine ⟨h0,?_⟩
  have hxx:((x.toNat:Nat):Int)=x:=by omega
  rcases drvM_get hb hdm x.toNat (by omega) with ⟨-,q⟩ | ⟨k,l,-,-,q3,q4⟩
  ·exact absurd (by rw [hxx];exact hx) (q _ (List.mem_of_getElem? hws))
  ·have:=q4 p.toNat _ hws (by rw [hxx];exact hx)
   rw [q3,<-this]
   congr 1
   have:=hp.1;omega
 ·rintro ⟨h0,h1⟩
  have hxx:((x.toNat:Nat):Int)=x:=by omega
  have hlen:=drvM_length hdm
  have hlt:=(List.getElem?_eq_some_iff.1 h1).1
  rcases drvM_get hb hdm x.toNat (by omega) with ⟨q,-⟩ | ⟨k,l,q1,q2,q3,-⟩
  ·rw [h1] at q
   injection q with q
   have:=hp.1;omega
  ·rw [h1] at q3
   injection q3 with q3
   have hk:k=p.toNat:=by omega
   subst hk
   rw [hws] at q1
   injection q1 with q1
   rw [<-q1,hxx] at q2
   exact q2
structure OrdOk (d:Flat) (by' o:List Int):Prop where
 inr:∀ i (p:Int),o[i]? = some p->Pin d p/\clkD d p=false/\p ∉ o.take i
 hang:∀ i (p:Int),o[i]? = some p->∀ r∈readsM d p,∀ q,by'[r.toNat]? = some q->Pin d q->clkD d q=false->q∈o.take i
theorem rest_law {d:Flat} (hok:d.ok) (hc:checkM d=0) {by' o:List Int} (hdm:drvM (nBits d).toNat (wsM d)=some by') (H:OrdOk d by' o) {v:List Nat} (hv:Val2 d.signals v):∀ p∈o,runL d p (runAll d o v)=runAll d o v:=by
 have hin:∀ p∈o,Pin d p:=fun p hp=>by
  obtain ⟨i,hi,rfl⟩:=List.getElem_of_mem hp
  exact (H.inr i _ (List.getElem?_eq_getElem hi)).1
 refine runAll_rest hok hc o hin (fun p hp x hr hw=>?_) ?_ v hv
 ·obtain ⟨i,hi,rfl⟩:=List.getElem_of_mem hp
  obtain ⟨g1,g2,g3⟩:=H.inr i _ (List.getElem?_eq_getElem hi)
  obtain ⟨h0,h1⟩:=(drives_iff hok hc hdm g1).1 ((mem_writesM d _ x).2 hw)
  exact g3 (H.hang i _ (List.getElem?_eq_getElem hi) x ((mem_readsM d _ x).2 hr) _ h1 g1 g2)
 ·refine List.pairwise_iff_getElem.2 fun i j hi hj hij x hw=>?_
  obtain ⟨g1,g2,g3⟩:=H.inr j _ (List.getElem?_eq_getElem hj)
  obtain ⟨e1,e2,e3⟩:=H.inr i _ (List.getElem?_eq_getElem hi)
  obtain ⟨h0,h1⟩:=(drives_iff hok hc hdm g1).1 ((mem_writesM d _ x).2 hw)
  refine ⟨fun hw2=>?_,fun hr=>?_⟩
  ·obtain ⟨-,h2⟩:=(drives_iff hok hc hdm e1).1 ((mem_writesM d _ x).2 hw2)
   rw [h1] at h2
   injection h2 with h2
   exact g3 (h2 ▸ List.mem_iff_getElem.2 ⟨i,by rw [List.length_take];omega,by rw [List.getElem_take]⟩)
  ·have:=H.hang i _ (List.getElem?_eq_getElem hi) x ((mem_readsM d _ x).2 hr) _ h1 g1 g2
   exact g3 ((List.take_subset_take_left o (Nat.le_of_lt hij)) this)
theorem always_full {d:Flat} (hok:d.ok) (hc:checkM d=0) {p:Int} (hp:Pin d p) (hl:(writesM d p).length=(alwaysM d p).length):∀ x∈writesM d p,x∈alwaysM d p :=
 nodup_full (alwaysM d p) (writesM d p) (lt_nodup (by unfold alwaysM alwM;exact setI_lt _)) (always_sub hok hc hp.1 hp.2) (by omega)
theorem any_law {d:Flat} (hok:d.ok) (hc:checkM d=0) {by' o:List Int} (hdm:drvM (nBits d).toNat (wsM d)=some by') (H:OrdOk d by' o)
  (hall:∀ p,Pin d p->clkD d p=false->p∈o) (hlat:∀ p,Pin d p->clkD d p=false->(writesM d p).length=(alwaysM d p).length)
  (hdrv:∀ k j:Nat,k<d.signals.length->(j:Int)<sigW d.signals (k:Int)->kindOf d.signals (k:Int)≠1->kindOf d.signals (k:Int)≠4->∃ q,Pin d q/\by'[(bn d.signals k j).toNat]? = some q)
  {v w:List Nat} (hv:Val2 d.signals v) (hw:Val2 d.signals w) (hag:∀ k:Nat,k<d.signals.length->kindOf d.signals (k:Int)=1\/kindOf d.signals (k:Int)=4->v.getD k 0=w.getD k 0):runAll d o v=runAll d o w:=by
 have hls:=checkM_w hc
 have hin:∀ p∈o,Pin d p:=fun p hp=>by
  obtain ⟨i,hi,rfl⟩:=List.getElem_of_mem hp
  exact (H.inr i _ (List.getElem?_eq_getElem hi)).1
 have hB:Ag d.signals v w (fun x=>∃ k j:Nat,k<d.signals.length/\(j:Int)<sigW d.signals (k:Int)/\x=bn d.signals k j/\(kindOf d.signals (k:Int)=1\/kindOf d.signals (k:Int)=4)):=by
  rintro k j hk hj ⟨k',j',hk',hj',e,hkd⟩
  obtain ⟨rfl,rfl⟩:=bn_inj hls hk hk' hj hj' e
  rw [hag k hk hkd]
 have hwho:∀ k j:Nat,k<d.signals.length->(j:Int)<sigW d.signals (k:Int)->(kindOf d.signals (k:Int)=1\/kindOf d.signals (k:Int)=4)\/∃ q,Pin d q/\clkD d q=false/\by'[(bn d.signals k j).toNat]? = some q/\bn d.signals k j∈alwaysM d q:=by
  intro k j hk hj
  by_cases h1:kindOf d.signals (k:Int)=1
  ·exact .inl (.inl h1)
  by_cases h4:kindOf d.signals (k:Int)=4
  ·exact .inl (.inr h4)
  obtain ⟨q,hq,hby⟩:=hdrv k j hk hj h1 h4
  have hx:bn d.signals k j∈writesM d q:=(drives_iff hok hc hdm hq).2 ⟨(bn_range hls hk hj).1,hby⟩
  have hclk:clkD d q=false:=by
   obtain ⟨k',j',hk',hj',e,-,e4⟩:=writes_kind hok hc hq.1 hq.2 _ hx
   obtain ⟨rfl,rfl⟩:=bn_inj hls hk hk' hj hj' e
   rw [e4]
   exact decide_eq_false h4
  exact .inr ⟨q,hq,hclk,hby,always_full hok hc hq (hlat q hq hclk) _ hx⟩
 have hout:=runAll_any hok hc o hin _ v w hv hw hB (fun i hi x hx=>by
  have hp:=H.inr i _ (List.getElem?_eq_getElem hi)
  have hrd:=(mem_readsM d _ x).2 hx
  obtain ⟨r0,r1⟩:=reads_range hok hc hp.1.1 hp.1.2 x hrd
  obtain ⟨k,j,hk,hj,rfl⟩:=bn_of hls r0 d.signals.length (Nat.le_refl _) r1
  rcases hwho k j hk hj with h | ⟨q,hq,hclk,hby,ha⟩
  ·exact .inl ⟨k,j,hk,hj,rfl,h⟩
  ·exact .inr ⟨q,H.hang i _ (List.getElem?_eq_getElem hi) _ hrd q hby hq hclk,ha⟩)
 refine vals_ext (runAll_kept hok hc o hin v hv).1 (runAll_kept hok hc o hin w hw).1 fun k j hk hj=>hout k j hk hj ?_
 rcases hwho k j hk hj with h | ⟨q,hq,hclk,-,ha⟩
 ·exact .inl ⟨k,j,hk,hj,rfl,h⟩
 ·exact .inr ⟨q,hall q hq hclk,ha⟩
theorem rest_kept {d:Flat} (hok:d.ok) (hc:checkM d=0) {o:List Int} (ho:∀ p∈o,Pin d p/\clkD d p=false) {v:List Nat} (hv:Val2 d.signals v):∀ k:Nat,k<d.signals.length->kindOf d.signals (k:Int)=1\/kindOf d.signals (k:Int)=4->(runAll d o v).getD k 0=v.getD k 0:=by
 intro k hk hkd
 have hls:=checkM_w hc
 obtain ⟨vr,kr⟩:=runAll_kept hok hc o (fun p hp=>(ho p hp).1) v hv
 refine Nat.eq_of_testBit_eq fun j=>?_
 by_cases hj:(j:Int)<sigW d.signals (k:Int)
 ·refine (kr k j hk hj fun p hp hw=>?_).symm
  obtain ⟨⟨g0,g1⟩,g2⟩:=ho p hp
  obtain ⟨k',j',hk',hj',e,e1,e4⟩:=writes_kind hok hc g0 g1 _ ((mem_writesM d p _).2 hw)
  obtain ⟨rfl,rfl⟩:=bn_inj hls hk hk' hj hj' e
  rcases hkd with h | h
  ·exact e1 h
  ·rw [g2,h] at e4;exact absurd e4 (by decide)
 ·rw [vals_high vr.2 hk hj,vals_high hv.2 hk hj]
theorem runAll_still {d:Flat} (o:List Int) {w:List Nat} (h:∀ p∈o,runL d p w=w):runAll d o w=w:=by
 induction o with
 | nil=>rfl
 | cons p o ih =>
  show runAll d o (runL d p w)=w
  rw [h p (by simp)]
  exact ih fun q hq=>h q (by simp [hq])
theorem val2_us64 {ls:List Signal} (hls:∀ x∈ls,x.w<=64) {v:List Nat} (h:Val2 ls v):us64 v:=by
 intro x hx
 obtain ⟨k,hk,rfl⟩:=List.getElem_of_mem hx
 have h1:=h.2 (k:Int) (by omega) (by have:=h.1;omega)
 rw [Int.toNat_natCast,List.getD_eq_getElem?_getD,List.getElem?_eq_getElem hk,Option.getD_some] at h1
 have h2:=sigW_le ls hls (k:Int)
 exact Nat.lt_of_lt_of_le h1 (Nat.pow_le_pow_right (by decide) (show (sigW ls (k:Int)).toNat<=64 by omega))
theorem maskN_lt {hi lo:Nat} (h:lo<=hi) (h64:hi<64):maskN hi lo<18446744073709551616:=by
 show _<2^64
 refine Nat.lt_pow_two_of_testBit _ fun i hi'=>?_
 rw [maskN_testBit];simp;omega
theorem mask_shift {hi lo:Nat} (h:lo<=hi) (h64:hi<64):IntKind.u64.wrap ((18446744073709551615:Int).fdiv (2^(63-(hi-lo)))*2^lo)=((maskN hi lo:Nat):Int):=by
 have e1:(18446744073709551615:Int)=((18446744073709551615#64).toNat:Int):=by decide
 rw [e1,u_shr,u_shl]
 congr 1
 refine Nat.eq_of_testBit_eq fun i=>?_
 rw [maskN_testBit,<-BitVec.getLsbD,show (18446744073709551615#64)=BitVec.allOnes 64 from rfl]
 simp only [BitVec.getLsbD_shiftLeft,BitVec.getLsbD_ushiftRight,BitVec.getLsbD_allOnes]
 by_cases h1:i<lo
 ·simp [h1];omega
 ·by_cases h2:i<64
  ·simp only [h1,h2,decide_true,decide_false,Bool.not_false,Bool.true_and]
   rw [decide_eq_decide];omega
  ·simp only [h2,decide_false,Bool.false_and]
   symm;rw [decide_eq_false_iff_not];omega
theorem set_word {a hi lo x:Nat} (h:lo<=hi) (h64:hi<64) (ha:a<18446744073709551616) (hx:x<2^(hi+1-lo)) :
  bits .or .u64 (bits .and .u64 (a:Int) ((18446744073709551615-maskN hi lo:Nat):Int)) (IntKind.u64.wrap ((x:Int)*2^lo))=((setBits a hi lo x:Nat):Int):=by
 have hm:=maskN_lt h h64
 have hxl:2^lo*x<18446744073709551616:=by
  have h1:2^lo*x<2^lo*2^(hi+1-lo):=(Nat.mul_lt_mul_left (Nat.two_pow_pos _)).2 hx
  rw [<-Nat.pow_add] at h1
  have h2:2^(lo+(hi+1-lo))<=2^64:=Nat.pow_le_pow_right (by decide) (by omega)
  have:(2:Nat)^64=18446744073709551616:=by decide
  omega
 have hw:IntKind.u64.wrap ((x:Int)*2^lo)=((2^lo*x:Nat):Int):=by
  have:(x:Int)*2^lo=((2^lo*x:Nat):Int):=by push_cast;rw [Int.mul_comm]
  rw [this]
  obtain ⟨y,hy⟩:=u_nat hxl
  rw [<-hy,u_wrap]
 have hand:a &&& (18446744073709551615-maskN hi lo)<18446744073709551616:=Nat.lt_of_le_of_lt Nat.and_le_left ha
 rw [hw,n_and ha (by omega),n_or' hand hxl]
 congr 1
 have:=keep_or a hi lo x h h64 ha hx
 rw [show (2:Nat)^64-(maskN hi lo+1)=18446744073709551615-maskN hi lo by
  have:(2:Nat)^64=18446744073709551616:=by decide
  omega] at this
 exact this
abbrev W64 (x:Nat):Value:=.int .u64 (x:Int)
theorem appWord:AppT Tryz.prog 27 39 1 8:=⟨Tryz.underlying27,by kernel_rfl,by decide,by decide⟩
def WordRow (N:Nat) (v:Value) (l:List Nat) (w:World):Prop:=w.ownsRow N 39 1 v l.length (l.map (W64))
theorem WordRow.nil (N:Nat) (w:World):WordRow N (.slice none 0 0) [] w:=World.ownsRow_nil _ _ _ _
theorem WordRow.open {N:Nat} {v:Value} {l:List Nat} {w:World} (h:WordRow N v l w):∃ a cap,v=.slice a l.length cap/\(v.ownBlock=none->l=[]):=by
 rcases h.2 with ⟨rfl,h0⟩ | ⟨g,cap,cur,rfl,-⟩
 ·exact ⟨none,0,by rw [h0],fun _=>List.eq_nil_of_length_eq_zero h0⟩
 ·exact ⟨_,cap,rfl,fun h=>by cases h⟩
theorem WordRow.at {N:Nat} {v:Value} {l:List Nat} {w:World} (h:WordRow N v l w) {k:Nat} (hk:v.ownBlock=some k):N<=k/\∃ cur,w.heap[k]? = some (.cells cur 39 (0,0)):=by
 rcases h.2 with ⟨rfl,h0⟩ | ⟨g,cap,cur,rfl,hb,hg,-⟩
 ·cases hk
 ·cases hk;exact ⟨hb,cur,hg⟩
theorem WordRow.keep {N:Nat} {v:Value} {l:List Nat} {w w':World} (h:WordRow N v l w) (hk:∀ k,v.ownBlock=some k->∀ o,w.heap[k]? = some o->w'.heap[k]? = some o):WordRow N v l w':=by
 refine ⟨h.1,?_⟩
 rcases h.2 with hn | ⟨g,cap,cur,rfl,hb,hg,rest⟩
 ·exact .inl hn
 ·exact .inr ⟨g,cap,cur,rfl,hb,hk g rfl _ hg,rest⟩
theorem WordRow.ext {N:Nat} {v:Value} {l:List Nat} {w w':World} (h:WordRow N v l w) (hx:Ext w w'):WordRow N v l w' :=
 h.keep fun k _ _ ho=>(hx.block k (Array.getElem?_eq_some_iff.1 ho).1).trans ho
theorem WordRow.grown {N:Nat} {v:Value} {l:List Nat} {w w':World} {R:Option Nat} (h:WordRow N v l w) (hg:w.grownBy w' R) (hR:∀ k,v.ownBlock=some k->some k≠R):WordRow N v l w' :=
 h.keep fun k hk _ ho=>(hg.block k (Array.getElem?_eq_some_iff.1 ho).1 (hR k hk)).trans ho
theorem WordRow.less {N M:Nat} {v:Value} {l:List Nat} {w:World} (h:WordRow N v l w) (hM:M<=N):WordRow M v l w:=by
 refine ⟨h.1,?_⟩
 rcases h.2 with hn | ⟨g,cap,cur,rfl,hb,rest⟩
 ·exact .inl hn
 ·exact .inr ⟨g,cap,cur,rfl,Nat.le_trans hM hb,rest⟩
theorem flatW1 (l:List Nat):(l.map fun x=>[W64 x]).flatten=l.map (W64):=by
 induction l with
 | nil=>rfl
 | cons x l ih=>simp only [List.map_cons,List.flatten_cons,ih];rfl
theorem WordRow.cells {N:Nat} {v:Value} {l:List Nat} {w:World} (h:WordRow N v l w):Us w v l:=by
 rcases h.2 with ⟨rfl,h0⟩ | ⟨g,cap,cur,rfl,hb,hg,hnc,hcm,hcs,htake⟩
 ·obtain rfl:l=[]:=List.eq_nil_of_length_eq_zero h0
  exact Sl.nil _ _
 ·refine ⟨g,0,⟨_,cap,rfl,hnc,hcm,fun _=>rfl⟩,rows_flat (f:=fun x=>[W64 x]) (fun _=>rfl) l 0 ?_⟩
  have:=flat_own (N:=N) (cap:=cap) (size:=1) hg htake
  rw [flatW1];exact this
theorem WordRow.ne {N B:Nat} {v:Value} {cs:Array Value} {T:TypeId} {l:List Nat} {w:World} (h:WordRow N v l w) (hb:Blk w B cs T) (hT:(T==39)=false) {k:Nat} (hk:v.ownBlock=some k):k≠B:=by
 rintro rfl
 obtain ⟨-,cur,hcur⟩:=h.at hk
 have h2:w.heap[k]? = some (.cells cs T (0,0)):=hb
 rw [hcur] at h2
 injection h2 with h2
 injection h2 with _ h2
 subst h2
 exact absurd hT (by decide)
theorem run_appWI {w:World} {N:Nat} {v:Value} {l:List Nat} (hown:WordRow N v l w) {ty:TypeId} {ad:Addr} {m c:Nat} (hm:v=.slice none 0 0->0<m) {news:List Nat} (hl:news.length=m)
  (hnews:∀ j u,(news.map (W64))[j]? = some u->w.cell? (ad.add j)=some u) (hn:l.length+m<=1099511627776) (hbase:N<=w.heap.size) :
  ∃ g cap w',(Builtin.append_ #[27,27] ty #[v,.slice (some ad) m c]).run Tryz.prog w=.ok (.slice (some ⟨g,0,none⟩) (l.length+m) cap) w'/\WordRow N (.slice (some ⟨g,0,none⟩) (l.length+m) cap) (l++news) w'/\w.grownBy w' v.ownBlock:=by
 obtain ⟨ht,hinfo,hsz,hby⟩:=appWord
 cases hi:Tryz.prog.info? 39 with
 | none=>simp [hi] at hinfo
 | some i =>
  simp only [hi,Option.map_some,Option.some.injEq,Prod.mk.injEq] at hinfo
  obtain ⟨hz0,hs,hb⟩:=hinfo
  cases hz:i.zero with
  | none=>simp [hz] at hz0
  | some z =>
   simp only [hz,Option.map_some,Option.some.injEq] at hz0
   have h1':∀ u∈news.map (W64),u.oneCell'=true:=by
    intro u hu
    obtain ⟨x,-,rfl⟩:=List.mem_map.1 hu
    rfl
   obtain ⟨v',w',hr,h2,h3,h4⟩:=run_append_own (P:=Tryz.prog) w N 27 ty 39 i z 1 8 ht hi hz hs hb hz0 (by decide) v l.length _ hown ad m c (news.map (W64)) (by simp [hl]) hnews h1' (by simp only [maxLen];omega) (by omega) hbase
   have h5:WordRow N v' (l++news) w':=by unfold WordRow;rw [List.length_append,hl,List.map_append];exact h2
   rcases h2.2 with ⟨rfl,h0⟩ | ⟨g,cap,cur,rfl,-⟩
   ·have:=h4.1 rfl
    exact absurd (hm this.1) (by omega)
   ·exact ⟨g,cap,w',hr,h5,h3⟩
theorem wpList_appWI {ops:Array Oper} {rest:List Oper} {o:Oper} {a:Act} {w:World} {Q:Exit->Act->World->Prop} (hw:Region.wanted o (yielded ops a.tmps)=true) (s x:Operand)
  (ho:o.op=.call { callee:=.builtin .append,args:=#[s,x],argTypes:=#[27,27] }) {N:Nat} {v:Value} {l:List Nat} (hs:a.eval s=v) (hown:WordRow N v l w)
  {ad:Addr} {m c:Nat} (hx:a.eval x=.slice (some ad) m c) (hm:v=.slice none 0 0->0<m) {news:List Nat} (hl:news.length=m)
  (hnews:∀ j u,(news.map (W64))[j]? = some u->w.cell? (ad.add j)=some u) (hn:l.length+m<=1099511627776) (hbase:N<=w.heap.size)
  (h:∀ g cap w',WordRow N (.slice (some ⟨g,0,none⟩) (l.length+m) cap) (l++news) w'->w.grownBy w' v.ownBlock->wpList Tryz.prog ops Q rest (a.put o.dst (.slice (some ⟨g,0,none⟩) (l.length+m) cap)) w') :
  wpList Tryz.prog ops Q (o::rest) a w :=
 BigFrame.wpList_want hw fun _ hK=>by
  obtain ⟨g,cap,w',hr,h2,h3⟩:=run_appWI (ty:=o.type) (c:=c) hown hm hl hnews hn hbase
  unfold Oper.wp execOp
  simp only [ho,resolve,invoke,builtin,Sem.run_bind,Sem.run_pure,Result.andThen_ok,List.map_toArray,List.map_cons,List.map_nil,hs,hx]
  rw [hr]
  exact hK _ _ (h g cap w' h2 h3)
theorem run_appW {w:World} {N:Nat} {v:Value} {l:List Nat} (hown:WordRow N v l w) {ty:TypeId} {x:Value} {news:List Nat} (hx:Us w x news) (hn:l.length+news.length<=1099511627776) (hbase:N<=w.heap.size) :
  ∃ v' w',(Builtin.append_ #[27,27] ty #[v,x]).run Tryz.prog w=.ok v' w'/\WordRow N v' (l++news) w'/\w.grownBy w' v.ownBlock:=by
 obtain ⟨a,b,o,cap,rfl,hc1,hc2,ha,hr⟩:=hx.open
 by_cases h0:0<news.length
 ·obtain rfl:=ha h0
  obtain ⟨g,cap',w',h1,h2,h3⟩:=run_appWI (ty:=ty) (c:=cap) (m:=news.length) hown (fun _=>h0) rfl (ad:=⟨b,o,none⟩) (news:=news) (fun j u hj=>by
   rw [List.getElem?_map] at hj
   cases hq:news[j]? with
   | none=>rw [hq] at hj;cases hj
   | some y =>
    rw [hq] at hj
    have hadd:(⟨b,o,none⟩:Addr).add j=⟨b,o+j,none⟩:=by unfold Addr.add;split<;>simp_all
    rw [hadd]
    have:=(hr.get hq) 0 _ rfl
    simp only [Nat.mul_one,Nat.add_zero] at this
    rw [this]
    exact hj) hn hbase
  exact ⟨_,w',h1,h2,h3⟩
 ·obtain rfl:news=[]:=List.eq_nil_of_length_eq_zero (by omega)
  obtain ⟨ht,hinfo,hsz,hby⟩:=appWord
  cases hi:Tryz.prog.info? 39 with
  | none=>simp [hi] at hinfo
  | some i =>
   have hsrc:Src Tryz.prog i.size 27 (.slice a 0 cap) 0 [] w:=by
    cases a with
    | none=>exact Src.ofNil w ht cap
    | some a=>exact Src.ofSlice w ht a 0 cap [] (by simp) (by intro j u hj;simp at hj) (by simp)
   obtain ⟨av,cv,hv,-⟩:=hown.open
   have hle:l.length<=cv:=by
    rcases hown.2 with ⟨e,h0⟩ | ⟨g,c2,cur,e,hb,hg,hnc,-⟩
    ·rw [hv] at e;injection e with _ e2 e3;omega
    ·rw [hv] at e;injection e with _ e2 e3;omega
   refine ⟨v,w,?_,by rw [List.append_nil];exact hown,⟨rfl,rfl,rfl,Nat.le_refl _,fun _ _ _=>rfl⟩⟩
   rw [hv]
   exact run_append_nothing w 27 27 ty 39 i ht hi av l.length cv hle _ hsrc
theorem wpList_appW {ops:Array Oper} {rest:List Oper} {o:Oper} {a:Act} {w:World} {Q:Exit->Act->World->Prop} (hw:Region.wanted o (yielded ops a.tmps)=true) (s x:Operand)
  (ho:o.op=.call { callee:=.builtin .append,args:=#[s,x],argTypes:=#[27,27] }) {N:Nat} {v:Value} {l:List Nat} (hs:a.eval s=v) (hown:WordRow N v l w)
  {xv:Value} (hx:a.eval x=xv) {news:List Nat} (hnews:Us w xv news) (hn:l.length+news.length<=1099511627776) (hbase:N<=w.heap.size)
  (h:∀ v' w',WordRow N v' (l++news) w'->w.grownBy w' v.ownBlock->wpList Tryz.prog ops Q rest (a.put o.dst v') w') :
  wpList Tryz.prog ops Q (o::rest) a w :=
 BigFrame.wpList_want hw fun _ hK=>by
  obtain ⟨v',w',hr,h2,h3⟩:=run_appW (ty:=o.type) hown hnews hn hbase
  unfold Oper.wp execOp
  simp only [ho,resolve,invoke,builtin,Sem.run_bind,Sem.run_pure,Result.andThen_ok,List.map_toArray,List.map_cons,List.map_nil,hs,hx]
  rw [hr]
  exact hK _ _ (h v' w' h2 h3)
theorem WordRow.open1 {N:Nat} {v:Value} {l:List Nat} {w:World} (h:WordRow N v l w) (hl:0<l.length):∃ g cap,v=.slice (some ⟨g,0,none⟩) l.length cap/\N<=g/\∀ i x,l[i]? = some x->w.cell? ⟨g,i,none⟩=some (W64 x):=by
 rcases h.2 with ⟨rfl,h0⟩ | ⟨g,cap,cur,rfl,hb,hg,hnc,hcm,hcs,htake⟩
 ·omega
 ·refine ⟨g,cap,rfl,hb,fun i x hx=>?_⟩
  have:=flat_own (N:=N) (cap:=cap) (size:=1) hg htake i (W64 x) (by simp [hx])
  rwa [Nat.zero_add] at this
theorem WordRow.ofBlk {N g:Nat} {l:List Nat} {w:World} (h:Blk w g (l.map (W64)).toArray 39) (hN:N<=g) (hm:l.length<=9223372036854775807):WordRow N (.slice (some ⟨g,0,none⟩) l.length l.length) l w :=
 ⟨by simp,.inr ⟨g,l.length,_,rfl,hN,h,Nat.le_refl _,by simpa [maxLen] using hm,by simp,by rw [Nat.mul_one];exact List.take_of_length_le (by simp)⟩⟩
theorem WordRow.set {N g cap:Nat} {n:Nat} {l:List Nat} {w:World} (h:WordRow N (.slice (some ⟨g,0,none⟩) n cap) l w) (j:Nat) (hj:j<l.length) (x:Nat) :
  WordRow N (.slice (some ⟨g,0,none⟩) n cap) (l.set j x) (w.setCell ⟨g,j,none⟩ (W64 x)):=by
 rcases h.2 with ⟨e,h0⟩ | ⟨g',cap',cur,e,hb,hg,hnc,hcm,hcs,htake⟩
 ·cases e
 ·injection e with e1 e2 e3
  injection e1 with e1
  injection e1 with e1
  subst e1 e2 e3
  have hB:Blk w g cur 39:=hg
  refine ⟨by simp,.inr ⟨g,cap,cur.setIfInBounds j (W64 x),by rw [List.length_set],hb,hB.set j (W64 x),by rw [List.length_set];exact hnc,hcm,by rw [Array.size_setIfInBounds];exact hcs,?_⟩⟩
  rw [List.length_set,Array.toList_setIfInBounds,List.map_set,<-htake,List.take_set]
theorem WordRow.bs0 (w:World) {N:Nat} (hN:N<=w.heap.size):WordRow N (.slice (some ⟨w.heap.size,0,none⟩) 0 0) [] (w.alloc (.cells #[] 39)) :=
 ⟨rfl,.inr ⟨w.heap.size,0,#[],rfl,hN,Blk.new w #[] 39,Nat.le_refl _,by decide,rfl,rfl⟩⟩
theorem WordRow.made {w:World} {N n:Nat} {x:Nat} (hN:N<=w.heap.size) (hn:n<=9223372036854775807):WordRow N (.slice (some ⟨w.heap.size,0,none⟩) n n) (List.replicate n x) (w.alloc (.cells (List.replicate n (W64 x)).toArray 39)):=by
 have:=WordRow.ofBlk (N:=N) (l:=List.replicate n x) (g:=w.heap.size) (w:=w.alloc (.cells (List.replicate n (W64 x)).toArray 39)) (by rw [List.map_replicate];exact Blk.new _ _ _) hN (by simpa using hn)
 simpa using this
end Go.Proofs.YtoaamjgfhppppaaGreat
