/- Laws and walks that a claim of this seat leans on: HangL3, StmtL, StmtL2, StmtL3, StmtL4, StmtL5, StmtL6, RestL. -/
import Derived.Test.YtpdpgmfnfajbfaaGreatL22
import Derived.Test.YtpdpgmfnfajbfaaGreatL00
set_option maxRecDepth 100000
set_option maxHeartbeats 8000000
set_option linter.all false
namespace Go.Proofs.YtpdpgmfnfajbfaaGreat
open Go.RowKit
theorem RdL_cons (ls:List Signal) (t:T) (l:List T) (x:Int):RdL ls (t::l) x↔Rd ls t x\/RdL ls l x:=by
 unfold RdL Rd
 rw [eachTs_cons]
 constructor
 ·rintro ⟨u,hu,h⟩
  rcases List.mem_append.1 hu with hu | hu
  ·exact .inl ⟨u,hu,h⟩
  ·exact .inr ⟨u,hu,h⟩
 ·rintro (⟨u,hu,h⟩ | ⟨u,hu,h⟩)
  ·exact ⟨u,List.mem_append_left _ hu,h⟩
  ·exact ⟨u,List.mem_append_right _ hu,h⟩
theorem WrL_cons (ls:List Signal) (t:T) (l:List T) (x:Int):WrL ls (t::l) x↔Wr ls t x\/WrL ls l x:=by
 unfold WrL Wr
 rw [eachTs_cons]
 constructor
 ·rintro ⟨u,hu,h⟩
  rcases List.mem_append.1 hu with hu | hu
  ·exact .inl ⟨u,hu,h⟩
  ·exact .inr ⟨u,hu,h⟩
 ·rintro (⟨u,hu,h⟩ | ⟨u,hu,h⟩)
  ·exact ⟨u,List.mem_append_left _ hu,h⟩
  ·exact ⟨u,List.mem_append_right _ hu,h⟩
theorem Rd_parts (ls:List Signal) (t:T) (x:Int):Rd ls t x↔(∃ e∈t.e,x∈bitsM ls e)\/RdL ls t.l x:=by
 unfold Rd RdL
 rw [eachT_eq]
 constructor
 ·rintro ⟨u,hu,h⟩
  rcases List.mem_cons.1 hu with rfl | hu
  ·exact .inl h
  ·exact .inr ⟨u,hu,h⟩
 ·rintro (h | ⟨u,hu,h⟩)
  ·exact ⟨t,by simp,h⟩
  ·exact ⟨u,by simp [hu],h⟩
theorem Wr_parts (ls:List Signal) (t:T) (x:Int):Wr ls t x↔(t.op=1/\x∈numbersM (offsM ls ls.length) [ownS t])\/WrL ls t.l x:=by
 unfold Wr WrL
 rw [eachT_eq]
 constructor
 ·rintro ⟨u,hu,h⟩
  rcases List.mem_cons.1 hu with rfl | hu
  ·exact .inl h
  ·exact .inr ⟨u,hu,h⟩
 ·rintro (h | ⟨u,hu,h⟩)
  ·exact ⟨t,by simp,h⟩
  ·exact ⟨u,by simp [hu],h⟩
theorem RdL_mem {ls:List Signal} {l:List T} {t:T} (ht:t∈l) {x:Int} (h:Rd ls t x):RdL ls l x:=by
 induction l with
 | nil=>cases ht
 | cons y l ih =>
  rw [RdL_cons]
  rcases List.mem_cons.1 ht with rfl | ht
  ·exact .inl h
  ·exact .inr (ih ht)
theorem WrL_mem {ls:List Signal} {l:List T} {t:T} (ht:t∈l) {x:Int} (h:Wr ls t x):WrL ls l x:=by
 induction l with
 | nil=>cases ht
 | cons y l ih =>
  rw [WrL_cons]
  rcases List.mem_cons.1 ht with rfl | ht
  ·exact .inl h
  ·exact .inr (ih ht)
theorem metM_all {ls:List (List Int)} {x:Int} (h:x∈metM ls):∀ m∈ls,x∈m:=by
 unfold metM at h
 have:=(List.mem_filter.1 h).2
 rw [List.all_eq_true] at this
 intro m hm
 simpa using this m hm
theorem alwM_nil (offs:List Int) (x:Int):¬ x∈alwM offs []:=by unfold alwM;rw [setI_mem];unfold alwP;simp
theorem oneM_1 (c:Bool) (was:List Nat) {t:T} (v:List Nat) (o:t.op=1):oneM c was t v=setV v t.sig t.hi t.lo (evM (if c then was else v) (hdE t.e)):=by rw [oneM_eq,if_pos o]
theorem oneM_2 (c:Bool) (was:List Nat) {t:T} (v:List Nat) (o:t.op=2):oneM c was t v=oneM.nthM c was t.l (if evM (if c then was else v) (hdE t.e)=0 then 1 else 0) v:=by rw [oneM_eq,if_neg (show ¬ t.op=1 by omega),if_pos o]
theorem oneM_3 (c:Bool) (was:List Nat) {t:T} (v:List Nat) (o:t.op=3):oneM c was t v=oneM.nthM c was t.l (armM t.l (evM (if c then was else v) (hdE t.e))) v:=by rw [oneM_eq,if_neg (show ¬ t.op=1 by omega),if_neg (show ¬ t.op=2 by omega),if_pos o]
theorem oneM_4 (c:Bool) (was:List Nat) {t:T} (v:List Nat) (o:t.op=4\/t.op=5):oneM c was t v=allM c was t.l v:=by rw [oneM_eq,if_neg (show ¬ t.op=1 by omega),if_neg (show ¬ t.op=2 by omega),if_neg (show ¬ t.op=3 by omega)]
theorem oneM_two {ls:List Signal} (hls:∀ x∈ls,1<=x.w/\x.w<=64) {ck c:Bool} {was was':List Nat} (hw:Val2 ls was) (hw':Val2 ls was') {P:Int->Prop} (hP:c=true->Ag ls was was' P) (t:T):RunOk ls ck t->(∀ x,Rd ls t x->P x) ->
  (∀ v v',Val2 ls v->Val2 ls v'->(c=false->Ag ls v v' P)->Two ls v v' (oneM c was t v) (oneM c was' t v') (·∈alt (offsM ls ls.length) t) (Wr ls t)) /\
  (∀ v v',Val2 ls v->Val2 ls v'->(c=false->Ag ls v v' P)->Two ls v v' (allM c was t.l v) (allM c was' t.l v') (·∈alwM (offsM ls ls.length) t.l) (WrL ls t.l)):=by
 induction t using T.ind with
 | h t ih =>
  intro h hrd
  obtain ⟨h1,h2,h3⟩:=(RunOk_iff ls ck t).1 h
  have hls':∀ x∈ls,x.w<=64:=fun x hx=>(hls x hx).2
  have hrp:∀ x,RdL ls t.l x->P x:=fun x hx=>hrd x ((Rd_parts ls t x).2 (.inr hx))
  have ihp:=fun x (hx:x∈t.l)=>ih x hx (h3 x hx) fun y hy=>hrp y (RdL_mem hx hy)
  have hall:∀ l:List T,(∀ x∈l,x∈t.l)->∀ v v',Val2 ls v->Val2 ls v'->(c=false->Ag ls v v' P)->Two ls v v' (allM c was l v) (allM c was' l v') (·∈alwM (offsM ls ls.length) l) (WrL ls l):=by
   intro l
   induction l with
   | nil=>intro _ v v' hv hv' _;rw [allM_nil,allM_nil];exact Two.nil hv hv' (alwM_nil _)
   | cons y l ih2 =>
    intro hm v v' hv hv' hag
    rw [allM_cons,allM_cons]
    have t1:=(ihp y (hm y (by simp))).1 v v' hv hv' hag
    have t2:=ih2 (fun z hz=>hm z (by simp [hz])) _ _ t1.ok.1 t1.ok.2 fun hc=>t1.keep (hag hc)
    exact t1.then t2 (fun x hx=>(alwM_cons _ _ _ _).1 hx) fun x hx=>(WrL_cons ls y l x).2 hx
  refine ⟨fun v v' hv hv' hag=>?_,hall t.l fun _ h=>h⟩
  have hev:∀ x∈t.e,evM (if c then was else v) x=evM (if c then was' else v') x:=fun x hx=>by
   have hb:∀ y,y∈bitsM ls x->P y:=fun y hy=>hrd y ((Rd_parts ls t y).2 (.inl ⟨x,hx,hy⟩))
   cases c with
   | true=>exact evM_congr hls hw.2 hw'.2 x (h1 x hx).1 ((hP rfl).mono hb)
   | false=>exact evM_congr hls hv.2 hv'.2 x (h1 x hx).1 ((hag rfl).mono hb)
  have hnth:∀ k,k<t.l.length->(t.op=2\/t.op=3)->Two ls v v' (oneM.nthM c was t.l k v) (oneM.nthM c was' t.l k v') (·∈alt (offsM ls ls.length) t) (Wr ls t):=fun k hk ho=>by
   rw [nthM_eq c was t.l k v hk,nthM_eq c was' t.l k v' hk]
   have hm:=List.getElem_mem hk
   refine ((ihp _ hm).2 v v' hv hv' hag).weak (fun x hx=>?_) fun x hx=>(Wr_parts ls t x).2 (.inr (WrL_mem hm ((Wr_parts ls _ x).2 (.inr hx))))
   rw [alt_eq,if_neg (by omega),if_pos ho] at hx
   exact metM_all hx _ (List.mem_map.2 ⟨_,hm,rfl⟩)
  rcases h2 with ⟨o,a1,-,⟨x,hx,a2⟩,-⟩ | ⟨o,⟨x,hx,-⟩,a,b,hab⟩ | ⟨o,⟨x,hx⟩,a1,-⟩ | o | o
  ·rw [oneM_1 c was v o,oneM_1 c was' v' o]
   have he:=hev x (by simp [hx])
   rw [hx]
   show Two ls v v' (setV v t.sig t.hi t.lo (evM _ x)) (setV v' t.sig t.hi t.lo (evM _ x)) _ _
   rw [<-he]
   have hlt:=ev_lt (vs:=if c then was else v) hls' x (h1 x (by simp [hx])).1 (h1 x (by simp [hx])).2.1
   rw [a2] at hlt
   refine (set_two hls hv hv' a1 hlt (B:=Wr ls t) fun y hy=>(Wr_parts ls t y).2 (.inl ⟨o,hy⟩)).weak (fun y hy=>?_) fun _ h=>h
   rw [alt_eq,if_pos o] at hy
   exact hy
  ·rw [oneM_2 c was v o,oneM_2 c was' v' o]
   have he:=hev x (by simp [hx])
   rw [hx]
   show Two ls v v' (oneM.nthM c was t.l (if evM _ x=0 then 1 else 0) v) (oneM.nthM c was' t.l (if evM _ x=0 then 1 else 0) v') _ _
   rw [<-he]
   refine hnth _ ?_ (.inl o)
   rw [hab]
   generalize evM _ _=q
   show (if q=0 then 1 else 0)<2
   split<;>decide
  ·rw [oneM_3 c was v o,oneM_3 c was' v' o]
   have he:=hev x (by simp [hx])
   rw [hx]
   show Two ls v v' (oneM.nthM c was t.l (armM t.l (evM _ x)) v) (oneM.nthM c was' t.l (armM t.l (evM _ x)) v') _ _
   rw [<-he]
   exact hnth _ (armM_lt a1 _) (.inr o)
  all_goals
   rw [oneM_4 c was v (by omega),oneM_4 c was' v' (by omega)]
   refine (hall t.l (fun _ h=>h) v v' hv hv' hag).weak (fun x hx=>?_) fun x hx=>(Wr_parts ls t x).2 (.inr hx)
   rw [alt_eq,if_neg (by omega),if_neg (by omega)] at hx
   exact hx
theorem allM_two {ls:List Signal} (hls:∀ x∈ls,1<=x.w/\x.w<=64) {ck c:Bool} {was was':List Nat} (hw:Val2 ls was) (hw':Val2 ls was') {P:Int->Prop} (hP:c=true->Ag ls was was' P) (l:List T) (hl:∀ t∈l,RunOk ls ck t) (hr:∀ x,RdL ls l x->P x) :
  ∀ v v',Val2 ls v->Val2 ls v'->(c=false->Ag ls v v' P)->Two ls v v' (allM c was l v) (allM c was' l v') (·∈alwM (offsM ls ls.length) l) (WrL ls l):=by
 induction l with
 | nil=>intro v v' hv hv' _;rw [allM_nil,allM_nil];exact Two.nil hv hv' (alwM_nil _)
 | cons y l ih =>
  intro v v' hv hv' hag
  rw [allM_cons,allM_cons]
  have t1:=(oneM_two hls hw hw' hP y (hl y (by simp)) fun x hx=>hr x ((RdL_cons ls y l x).2 (.inl hx))).1 v v' hv hv' hag
  have t2:=ih (fun z hz=>hl z (by simp [hz])) (fun x hx=>hr x ((RdL_cons ls y l x).2 (.inr hx))) _ _ t1.ok.1 t1.ok.2 fun hc=>t1.keep (hag hc)
  exact t1.then t2 (fun x hx=>(alwM_cons _ _ _ _).1 hx) fun x hx=>(WrL_cons ls y l x).2 hx
theorem vals_ext {ls:List Signal} {r r':List Nat} (h:Val2 ls r) (h':Val2 ls r') (hag:∀ k j:Nat,k<ls.length->(j:Int)<sigW ls (k:Int)->(r.getD k 0).testBit j=(r'.getD k 0).testBit j):r=r':=by
 refine List.ext_getElem (by rw [h.1,h'.1]) fun k hk hk'=>?_
 have hks:k<ls.length:=by rw [<-h.1];exact hk
 have e1:r.getD k 0=r[k]:=by rw [List.getD_eq_getElem?_getD,List.getElem?_eq_getElem hk];rfl
 have e2:r'.getD k 0=r'[k]:=by rw [List.getD_eq_getElem?_getD,List.getElem?_eq_getElem hk'];rfl
 rw [<-e1,<-e2]
 refine Nat.eq_of_testBit_eq fun j=>?_
 by_cases hj:(j:Int)<sigW ls (k:Int)
 ·exact hag k j hks hj
 ·rw [vals_high h.2 hks hj,vals_high h'.2 hks hj]
def clkD (d:Flat) (p:Int):Bool:=(d.procs[p.toNat]?.map (·.clocked)).getD false
def runL (d:Flat) (p:Int) (v:List Nat):List Nat:=allM (clkD d p) v (procL d p) v
theorem runM_eq (d:Flat) (vs:List Nat) (p:Int):runM d vs p=if valsOk d vs=true/\0<=p/\p<d.procs.length then (runL d p vs,0) else ([],1):=rfl
theorem procL_ok {d:Flat} (hok:d.ok) (hc:checkM d=0) {p:Int} (h0:0<=p) (h1:p<d.procs.length):∀ t∈procL d p,RunOk d.signals (clkD d p) t:=by
 have hk:p.toNat<d.procs.length:=by omega
 unfold procL clkD
 rw [List.getElem?_eq_getElem hk]
 exact runOk_check hok hc _ (List.getElem_mem hk)
theorem run_two {d:Flat} (hok:d.ok) (hc:checkM d=0) {p:Int} (h0:0<=p) (h1:p<d.procs.length) {v v':List Nat} (hv:Val2 d.signals v) (hv':Val2 d.signals v') (hag:Ag d.signals v v' (RdL d.signals (procL d p))) :
  Two d.signals v v' (runL d p v) (runL d p v') (·∈alwM (offsM d.signals d.signals.length) (procL d p)) (WrL d.signals (procL d p)) :=
 allM_two (checkM_w hc) hv hv' (P:=RdL d.signals (procL d p)) (fun _=>hag) _ (procL_ok hok hc h0 h1) (fun _ h=>h) v v' hv hv' fun _=>hag
theorem run_kept {d:Flat} (hok:d.ok) (hc:checkM d=0) {p:Int} (h0:0<=p) (h1:p<d.procs.length) {v:List Nat} (hv:Val2 d.signals v):Val2 d.signals (runL d p v)/\Ag d.signals v (runL d p v) (fun x=>¬ WrL d.signals (procL d p) x):=by
 obtain ⟨ok,W,-,a2,-,a4,-⟩:=run_two hok hc h0 h1 hv hv (Ag.refl _ _ _)
 exact ⟨ok.1,a4.mono fun x hx hw=>hx (a2 x hw)⟩
theorem run_still {d:Flat} (hok:d.ok) (hc:checkM d=0) {p:Int} (h0:0<=p) (h1:p<d.procs.length) {v:List Nat} (hv:Val2 d.signals v) (hd:∀ x,RdL d.signals (procL d p) x->¬ WrL d.signals (procL d p) x):runL d p (runL d p v)=runL d p v:=by
 obtain ⟨va,ka⟩:=run_kept hok hc h0 h1 hv
 obtain ⟨ok,W,-,-,a3,a4,a5⟩:=run_two hok hc h0 h1 hv va (ka.mono hd)
 refine (vals_ext ok.1 ok.2 fun k j hk hj=>?_).symm
 by_cases c:W (sumW d.signals k+j)
 ·exact a3 k j hk hj c
 ·exact a5 k j hk hj c
theorem run_apart {d:Flat} (hok:d.ok) (hc:checkM d=0) {p q:Int} (h0:0<=p) (h1:p<d.procs.length) (g0:0<=q) (g1:q<d.procs.length) {v:List Nat} (hv:Val2 d.signals v)
  (d1:∀ x,WrL d.signals (procL d p) x->¬ WrL d.signals (procL d q) x) (d2:∀ x,WrL d.signals (procL d p) x->¬ RdL d.signals (procL d q) x) (d3:∀ x,WrL d.signals (procL d q) x->¬ RdL d.signals (procL d p) x) :
  runL d q (runL d p v)=runL d p (runL d q v):=by
 obtain ⟨va,ka⟩:=run_kept hok hc h0 h1 hv
 obtain ⟨vb,kb⟩:=run_kept hok hc g0 g1 hv
 obtain ⟨ok,W,-,w2,w3,w4,w5⟩:=run_two hok hc g0 g1 hv va (ka.mono fun x hx hw=>d2 x hw hx)
 obtain ⟨ok',X,-,x2,x3,x4,x5⟩:=run_two hok hc h0 h1 hv vb (kb.mono fun x hx hw=>d3 x hw hx)
 refine vals_ext ok.2 ok'.2 fun k j hk hj=>?_
 by_cases c:W (sumW d.signals k+j)
 ·have cx:¬ X (sumW d.signals k+j):=fun h=>d1 _ (x2 _ h) (w2 _ c)
  rw [<-w3 k j hk hj c,<-x5 k j hk hj cx]
 ·rw [<-w5 k j hk hj c]
  by_cases cx:X (sumW d.signals k+j)
  ·exact x3 k j hk hj cx
  ·rw [<-x4 k j hk hj cx,<-x5 k j hk hj cx,<-w4 k j hk hj c]
theorem mem_writesM (d:Flat) (p x:Int):x∈writesM d p↔WrL d.signals (procL d p) x:=by
 unfold writesM WrL spansW wS
 rw [mem_numbersM,List.take_length]
 constructor
 ·rintro ⟨s,hs,h⟩
  obtain ⟨u,hu,rfl⟩:=List.mem_map.1 hs
  obtain ⟨hu,ho⟩:=List.mem_filter.1 hu
  exact ⟨u,hu,by simpa using ho,(mem_numbersM _ _ _).2 ⟨ownS u,by simp,h⟩⟩
 ·rintro ⟨u,hu,ho,h⟩
  obtain ⟨s,hs,h⟩:=(mem_numbersM _ _ _).1 h
  obtain rfl:=List.mem_singleton.1 hs
  exact ⟨ownS u,List.mem_map.2 ⟨u,List.mem_filter.2 ⟨hu,by simpa using ho⟩,rfl⟩,h⟩
theorem mem_readsM (d:Flat) (p x:Int):x∈readsM d p↔RdL d.signals (procL d p) x:=by
 unfold readsM RdL spansR rS bitsM
 rw [numbersM_set,setI_mem,List.take_length]
 unfold allNums
 constructor
 ·intro h
  obtain ⟨m,hm,hx⟩:=List.mem_flatten.1 h
  obtain ⟨s,hs,rfl⟩:=List.mem_map.1 hm
  obtain ⟨q,hq,hs⟩:=List.mem_flatten.1 hs
  obtain ⟨u,hu,rfl⟩:=List.mem_map.1 hq
  obtain ⟨r,hr,hs⟩:=List.mem_flatten.1 hs
  obtain ⟨e,he,rfl⟩:=List.mem_map.1 hr
  exact ⟨u,hu,e,he,List.mem_flatten.2 ⟨_,List.mem_map.2 ⟨s,hs,rfl⟩,hx⟩⟩
 ·rintro ⟨u,hu,e,he,h⟩
  obtain ⟨m,hm,hx⟩:=List.mem_flatten.1 h
  obtain ⟨s,hs,rfl⟩:=List.mem_map.1 hm
  exact List.mem_flatten.2 ⟨_,List.mem_map.2 ⟨s,List.mem_flatten.2 ⟨_,List.mem_map.2 ⟨u,hu,rfl⟩,List.mem_flatten.2 ⟨_,List.mem_map.2 ⟨e,he,rfl⟩,hs⟩⟩,rfl⟩,hx⟩
theorem run_hangs {d:Flat} (hok:d.ok) (hc:checkM d=0) {p:Int} (h0:0<=p) (h1:p<d.procs.length) {v x:List Nat} (hv:Val2 d.signals v) (hx:Val2 d.signals x) (hag:Ag d.signals v x (·∈readsM d p)) :
  Val2 d.signals (runL d p v)/\Val2 d.signals (runL d p x)/\Ag d.signals (runL d p v) (runL d p x) (·∈alwaysM d p)/\Ag d.signals v (runL d p v) (fun n=>¬ n∈writesM d p)/\Ag d.signals x (runL d p x) (fun n=>¬ n∈writesM d p) /\
  ∀ k j:Nat,k<d.signals.length->(j:Int)<sigW d.signals (k:Int)->(v.getD k 0).testBit j=(x.getD k 0).testBit j->((runL d p v).getD k 0).testBit j=((runL d p x).getD k 0).testBit j:=by
 obtain ⟨ok,W,w1,w2,w3,w4,w5⟩:=run_two hok hc h0 h1 hv hx (hag.mono fun n hn=>(mem_readsM d p n).2 hn)
 refine ⟨ok.1,ok.2,w3.mono fun n hn=>w1 n hn,w4.mono fun n hn hw=>hn ((mem_writesM d p n).2 (w2 n hw)),w5.mono fun n hn hw=>hn ((mem_writesM d p n).2 (w2 n hw)),fun k j hk hj h=>?_⟩
 by_cases c:W (sumW d.signals k+j)
 ·exact w3 k j hk hj c
 ·rw [<-w4 k j hk hj c,<-w5 k j hk hj c];exact h
theorem alw_wr (ls:List Signal) (t:T):(∀ x,x∈alt (offsM ls ls.length) t->(t.op=2\/t.op=3->t.l≠[])->(∀ u∈eachT t,u.op=2\/u.op=3->u.l≠[])->Wr ls t x)/\∀ x,x∈alwM (offsM ls ls.length) t.l->(∀ u∈eachT t,u.op=2\/u.op=3->u.l≠[])->WrL ls t.l x:=by
 induction t using T.ind with
 | h t ih =>
  have hall:∀ l:List T,(∀ x∈l,x∈t.l)->(∀ u∈eachT t,u.op=2\/u.op=3->u.l≠[])->∀ x,x∈alwM (offsM ls ls.length) l->WrL ls l x:=by
   intro l
   induction l with
   | nil=>intro _ _ x hx;exact absurd hx (alwM_nil _ _)
   | cons y l ih2 =>
    intro hm hu x hx
    rw [WrL_cons]
    have hy:∀ u∈eachT y,u∈eachT t:=fun u h=>by
     rw [eachT_eq,eachTs_eq];exact List.mem_cons_of_mem _ (List.mem_flatten.2 ⟨_,List.mem_map.2 ⟨y,hm y (by simp),rfl⟩,h⟩)
    rcases (alwM_cons _ _ _ _).1 hx with h | h
    ·exact .inl ((ih y (hm y (by simp))).1 x h (fun ho=>hu y (hy y (by rw [eachT_eq];simp)) ho) fun u h=>hu u (hy u h))
    ·exact .inr (ih2 (fun z hz=>hm z (by simp [hz])) hu x h)
  refine ⟨fun x hx hne hu=>?_,fun x hx hu=>hall t.l (fun _ h=>h) hu x hx⟩
  rw [Wr_parts]
  rw [alt_eq] at hx
  by_cases o1:t.op=1
  ·rw [if_pos o1] at hx;exact .inl ⟨o1,hx⟩
  rw [if_neg o1] at hx
  by_cases o2:t.op=2\/t.op=3
  ·rw [if_pos o2] at hx
   obtain ⟨y,r,hy⟩:=List.exists_cons_of_ne_nil (hne o2)
   have hm:y∈t.l:=by rw [hy];simp
   have h1:=metM_all hx _ (List.mem_map.2 ⟨y,hm,rfl⟩)
   have h2:=(ih y hm).2 x h1 fun u h=>hu u (by rw [eachT_eq,eachTs_eq];exact List.mem_cons_of_mem _ (List.mem_flatten.2 ⟨_,List.mem_map.2 ⟨y,hm,rfl⟩,h⟩))
   exact .inr (WrL_mem hm ((Wr_parts ls y x).2 (.inr h2)))
  ·rw [if_neg o2] at hx
   exact .inr (hall t.l (fun _ h=>h) hu x hx)
theorem run_block (c:Bool) (was v:List Nat) (b:T) (hb:b.op=5):allM c was [b] v=allM c was b.l v:=by
 rw [allM_cons,allM_nil,oneM_4 c was v (.inr hb)]
theorem run_cut (v:List Nat) (w1 w2 w3:List Nat) (l:List T) (n:Nat):allM false w1 l v=allM false w3 (l.drop n) (allM false w2 (l.take n) v):=by
 have key:∀ (t:T),(∀ a b v,oneM false a t v=oneM false b t v)/\∀ a b v,allM false a t.l v=allM false b t.l v:=by
  intro t
  induction t using T.ind with
  | h t ih =>
   have hall:∀ l:List T,(∀ x∈l,x∈t.l)->∀ a b v,allM false a l v=allM false b l v:=by
    intro l
    induction l with
    | nil=>intro _ a b v;rw [allM_nil,allM_nil]
    | cons y l ih2=>intro hm a b v;rw [allM_cons,allM_cons,(ih y (hm y (by simp))).1 a b v];exact ih2 (fun z hz=>hm z (by simp [hz])) a b _
   have hnth:∀ k a b v,oneM.nthM false a t.l k v=oneM.nthM false b t.l k v:=by
    have:∀ l:List T,(∀ x∈l,x∈t.l)->∀ k a b v,oneM.nthM false a l k v=oneM.nthM false b l k v:=by
     intro l
     induction l with
     | nil=>intro _ k a b v;rw [oneM.nthM,oneM.nthM]
     | cons y l ih2 =>
      intro hm k a b v
      by_cases hk:k<(y::l).length
      ·rw [nthM_eq false a _ k v hk,nthM_eq false b _ k v hk]
       exact (ih _ (hm _ (List.getElem_mem hk))).2 a b v
      ·cases k with
       | zero=>exact absurd hk (by simp)
       | succ k=>cases y;rw [oneM.nthM,oneM.nthM];exact ih2 (fun z hz=>hm z (by simp [hz])) k a b v
    exact this t.l fun _ h=>h
   refine ⟨fun a b v=>?_,hall t.l fun _ h=>h⟩
   rw [oneM_eq false a,oneM_eq false b]
   simp only [Bool.false_eq_true,if_false]
   rw [hnth _ a b,hnth _ a b,hall t.l (fun _ h=>h) a b]
 have hall:∀ (l:List T) a b v,allM false a l v=allM false b l v:=by
  intro l
  induction l with
  | nil=>intro a b v;rw [allM_nil,allM_nil]
  | cons y l ih=>intro a b v;rw [allM_cons,allM_cons,(key y).1 a b v];exact ih a b _
 conv=>lhs;rw [<-List.take_append_drop n l]
 rw [allM_append,hall _ w1 w3,hall _ w1 w2]
def whereK (s:List Int) (n:Int):Nat->Nat
 | 0=>0
 | i+1=>if s.getD i 0<=n then i else whereK s n i
theorem whereK_eq {ls:List Signal} (hls:∀ x∈ls,1<=x.w/\x.w<=64) {k j:Nat} (hk:k<ls.length) (hj:(j:Int)<sigW ls (k:Int)):∀ m,k<m->m<=ls.length->whereK (offsM ls ls.length) (bn ls k j) m=k:=by
 have hs:sigW ls (k:Int)=ls[k].w:=by simp [sigW,List.getElem?_eq_getElem hk]
 have h3:=sumW_succ ls k hk
 intro m
 induction m with
 | zero=>intro h;omega
 | succ m ih =>
  intro h hm
  rw [whereK,offsM_getD ls m _ (by omega)]
  by_cases e:m=k
  ·subst e;rw [if_pos (by unfold bn;omega)]
  ·have h4:=sumW_mono ls hls (k+1) m (by omega) (by omega)
   rw [if_neg (by unfold bn;omega)]
   exact ih (by omega) (by omega)
theorem whereK_lt (s:List Int) (n:Int) (m:Nat) (h:0<m):whereK s n m<m:=by
 induction m with
 | zero=>omega
 | succ m ih =>
  rw [whereK]
  split
  ·omega
  ·cases m with
   | zero=>rw [whereK];omega
   | succ m=>have:=ih (by omega);omega
theorem bn_of {ls:List Signal} (hls:∀ x∈ls,1<=x.w/\x.w<=64) {n:Int} (h0:0<=n):∀ m,m<=ls.length->n<sumW ls m->∃ k j:Nat,k<m/\(j:Int)<sigW ls (k:Int)/\n=bn ls k j:=by
 intro m
 induction m with
 | zero=>intro _ h;exfalso;have:sumW ls 0=0:=rfl;omega
 | succ m ih =>
  intro hm h
  by_cases c:n<sumW ls m
  ·obtain ⟨k,j,hk,hj,e⟩:=ih (by omega) c
   exact ⟨k,j,by omega,hj,e⟩
  ·have hs:sigW ls (m:Int)=ls[m].w:=by simp [sigW,List.getElem?_eq_getElem (show m<ls.length by omega)]
   have h3:=sumW_succ ls m (by omega)
   exact ⟨m,(n-sumW ls m).toNat,by omega,by omega,by unfold bn;omega⟩
def bitN11 (ls:List Signal) (v:List Nat) (n:Int):Nat:=(v.getD (whereK (offsM ls ls.length) n ls.length) 0) / 2^(n-sumW ls (whereK (offsM ls ls.length) n ls.length)).toNat%2
theorem bitN11_eq {ls:List Signal} (hls:∀ x∈ls,1<=x.w/\x.w<=64) (v:List Nat) {k j:Nat} (hk:k<ls.length) (hj:(j:Int)<sigW ls (k:Int)):bitN11 ls v (bn ls k j)=if (v.getD k 0).testBit j then 1 else 0:=by
 unfold bitN11
 rw [whereK_eq hls hk hj _ hk (Nat.le_refl _),show (bn ls k j-sumW ls k).toNat=j by unfold bn;omega,div_mod2]
theorem bitN11_same {ls:List Signal} (hls:∀ x∈ls,1<=x.w/\x.w<=64) (v v':List Nat) {k j:Nat} (hk:k<ls.length) (hj:(j:Int)<sigW ls (k:Int)):bitN11 ls v (bn ls k j)=bitN11 ls v' (bn ls k j)↔(v.getD k 0).testBit j=(v'.getD k 0).testBit j:=by
 rw [bitN11_eq hls v hk hj,bitN11_eq hls v' hk hj]
 cases (v.getD k 0).testBit j<;>cases (v'.getD k 0).testBit j<;>simp
theorem take_bit (a b m i:Nat) (ha:a<2^64) (hm:m<64):((a &&& (2^64-(2^m+1))) ||| (b &&& 2^m)).testBit i=if i=m then b.testBit i else a.testBit i:=by
 have h2:(2:Nat)^m<2^64:=Nat.pow_lt_pow_right (by decide) hm
 rw [Nat.testBit_or,Nat.testBit_and,Nat.testBit_and,Nat.testBit_two_pow_sub_succ h2,Nat.testBit_two_pow]
 by_cases e:i=m
 ·subst e;simp
 ·rw [if_neg e]
  have e':¬ m=i:=fun h=>e h.symm
  by_cases h3:i<64
  ·simp [e',h3]
  ·have:a.testBit i=false:=Nat.testBit_lt_two_pow (Nat.lt_of_lt_of_le ha (Nat.pow_le_pow_right (by decide) (by omega)))
   simp [e',this]
theorem run_choice (c:Bool) (was v:List Nat) {t a b:T} {e:E} (ho:t.op=2) (he:t.e=[e]) (hl:t.l=[a,b]):allM c was [t] v=if evM (if c then was else v) e=0 then allM c was b.l v else allM c was a.l v:=by
 rw [allM_cons,allM_nil,oneM_2 c was v ho,he,hl]
 show oneM.nthM c was [a,b] (if evM _ e=0 then 1 else 0) v=_
 by_cases h:evM (if c then was else v) e=0
 ·rw [if_pos h,if_pos h,nthM_eq c was [a,b] 1 v (by simp)];rfl
 ·rw [if_neg h,if_neg h,nthM_eq c was [a,b] 0 v (by simp)];rfl
theorem runOk_each {ls:List Signal} {ck:Bool} (t:T):RunOk ls ck t->∀ u∈eachT t,RunOk ls ck u:=by
 induction t using T.ind with
 | h t ih =>
  intro h u hu
  rw [eachT_eq] at hu
  rcases List.mem_cons.1 hu with rfl | hu
  ·exact h
  ·rw [eachTs_eq] at hu
   obtain ⟨m,hm,hu⟩:=List.mem_flatten.1 hu
   obtain ⟨y,hy,rfl⟩:=List.mem_map.1 hm
   exact ih y hy (((RunOk_iff ls ck t).1 h).2.2 y hy) u hu
theorem runOk_eachs {ls:List Signal} {ck:Bool} {l:List T} (h:∀ t∈l,RunOk ls ck t):∀ u∈eachT.eachTs l,RunOk ls ck u:=by
 intro u hu
 rw [eachTs_eq] at hu
 obtain ⟨m,hm,hu⟩:=List.mem_flatten.1 hu
 obtain ⟨y,hy,rfl⟩:=List.mem_map.1 hm
 exact runOk_each y (h y hy) u hu
theorem runOk_ways {ls:List Signal} {ck:Bool} {u:T} (h:RunOk ls ck u) (ho:u.op=2\/u.op=3):u.l≠[]:=by
 obtain ⟨-,h2,-⟩:=(RunOk_iff ls ck u).1 h
 rcases h2 with ⟨o,-⟩ | ⟨-,-,a,b,hab⟩ | ⟨-,-,a1,-⟩ | o | o
 ·omega
 ·rw [hab];simp
 ·intro e;rw [e] at a1;simp at a1
 ·omega
 ·omega
theorem always_sub {d:Flat} (hok:d.ok) (hc:checkM d=0) {p:Int} (h0:0<=p) (h1:p<d.procs.length):∀ x∈alwaysM d p,x∈writesM d p:=by
 intro x hx
 rw [mem_writesM]
 have hall:=procL_ok hok hc h0 h1
 unfold alwaysM offsD at hx
 have key:∀ l:List T,(∀ t∈l,RunOk d.signals (clkD d p) t)->x∈alwM (offsM d.signals d.signals.length) l->WrL d.signals l x:=by
  intro l
  induction l with
  | nil=>intro _ h;exact absurd h (alwM_nil _ _)
  | cons y l ih =>
   intro hm h
   rw [WrL_cons]
   rcases (alwM_cons _ _ _ _).1 h with h | h
   ·exact .inl ((alw_wr d.signals y).1 x h (fun ho=>runOk_ways (hm y (by simp)) ho) fun u hu=>runOk_ways (runOk_each y (hm y (by simp)) u hu))
   ·exact .inr (ih (fun z hz=>hm z (by simp [hz])) h)
 exact key _ hall hx
theorem writes_kind {d:Flat} (hok:d.ok) (hc:checkM d=0) {p:Int} (h0:0<=p) (h1:p<d.procs.length):∀ x∈writesM d p,∃ k j:Nat,k<d.signals.length/\(j:Int)<sigW d.signals (k:Int)/\x=bn d.signals k j /\
  kindOf d.signals (k:Int)≠1/\clkD d p=decide (kindOf d.signals (k:Int)=4):=by
 intro x hx
 obtain ⟨u,hu,ho,hx⟩:=(mem_writesM d p x).1 hx
 have hr:=runOk_eachs (procL_ok hok hc h0 h1) u hu
 obtain ⟨-,h2,-⟩:=(RunOk_iff _ _ u).1 hr
 have hls:=checkM_w hc
 rcases h2 with ⟨-,a1,a2,-⟩ | ⟨o,-⟩ | ⟨o,-⟩ | o | o
 case inl =>
  obtain ⟨q1,q2,q3,q4,q5,-⟩:=slice_le d.signals (fun x hx=>(hls x hx).2) a1
  obtain ⟨j,j1,j2,rfl⟩:=(own_num hls a1 x).1 hx
  have hk:((u.sig.toNat:Nat):Int)=u.sig:=by omega
  exact ⟨u.sig.toNat,j,by omega,by rw [hk];omega,rfl,by rw [hk];exact a2.1,by rw [hk];exact a2.2⟩
 all_goals omega
theorem reads_range {d:Flat} (hok:d.ok) (hc:checkM d=0) {p:Int} (h0:0<=p) (h1:p<d.procs.length):∀ x∈readsM d p,0<=x/\x<sumW d.signals d.signals.length:=by
 intro x hx
 obtain ⟨u,hu,e,he,hx⟩:=(mem_readsM d p x).1 hx
 have hr:=runOk_eachs (procL_ok hok hc h0 h1) u hu
 obtain ⟨q,-,-⟩:=(RunOk_iff _ _ u).1 hr
 exact bitsM_range (checkM_w hc) e (q e he).1 x hx
theorem bn_range {ls:List Signal} (hls:∀ x∈ls,1<=x.w/\x.w<=64) {k j:Nat} (hk:k<ls.length) (hj:(j:Int)<sigW ls (k:Int)):0<=bn ls k j/\bn ls k j<sumW ls ls.length:=by
 have hs:sigW ls (k:Int)=ls[k].w:=by simp [sigW,List.getElem?_eq_getElem hk]
 have h3:=sumW_succ ls k hk
 have h4:=sumW_mono ls hls (k+1) ls.length (by omega) (Nat.le_refl _)
 have h5:=(sumW_le ls hls k (by omega)).1
 unfold bn;omega
theorem writes_range {d:Flat} (hok:d.ok) (hc:checkM d=0) {p:Int} (h0:0<=p) (h1:p<d.procs.length):∀ x∈writesM d p,0<=x/\x<sumW d.signals d.signals.length:=by
 intro x hx
 obtain ⟨k,j,hk,hj,rfl,-,-⟩:=writes_kind hok hc h0 h1 x hx
 exact bn_range (checkM_w hc) hk hj
theorem szTL_each (ls:List Signal) (ck:Bool) (l:List T):∀ err,(szTL ls ck 0 err l).2=0->err=0/\((szTL ls ck 0 err l).1=l->∀ x∈l,szT ls ck x 0 0=(x,0)):=by
 induction l with
 | nil=>intro err h;exact ⟨h,fun _ x hx=>by cases hx⟩
 | cons y l ih2 =>
  intro err h
  unfold szTL at h ih2 ⊢
  rw [accum] at h ⊢
  obtain ⟨h1,h2⟩:=ih2 _ h
  obtain ⟨h3,-⟩:=szT_same ls ck y 0 _ h1
  refine ⟨h3,fun he z hz=>?_⟩
  injection he with e1 e2
  rcases List.mem_cons.1 hz with e | hz
  ·rw [e];subst h3;exact Prod.ext e1 h1
  ·exact h2 e2 z hz
theorem szTL_mk (ls:List Signal) (ck:Bool) (l:List T) (h:∀ x∈l,szT ls ck x 0 0=(x,0)):szTL ls ck 0 0 l=(l,0):=by
 induction l with
 | nil=>rfl
 | cons y l ih =>
  have h1:=ih fun x hx=>h x (by simp [hx])
  unfold szTL at h1 ⊢
  rw [accum,h y (by simp),h1]
theorem szPs_each (ls:List Signal) (l:List Proc):∀ err,(szPs ls err l).2=0->err=0/\((szPs ls err l).1=l->∀ p∈l,∀ t∈p.l,szT ls p.clocked t 0 0=(t,0)):=by
 induction l with
 | nil=>intro err h;exact ⟨h,fun _ x hx=>by cases hx⟩
 | cons y l ih =>
  intro err h
  unfold szPs at h ih ⊢
  rw [accum] at h ⊢
  obtain ⟨h1,h2⟩:=ih _ h
  simp only at h1
  obtain ⟨h3,h4⟩:=szTL_each _ _ _ _ h1
  refine ⟨h3,fun he z hz=>?_⟩
  injection he with e1 e2
  rcases List.mem_cons.1 hz with e | hz
  ·rw [e];exact h4 (congrArg Proc.l e1)
  ·exact h2 e2 z hz
theorem checkM_parts {d:Flat} (h:checkM d=0):fitsM d=true/\shapedM d=true/\(d.signals.any fun s=>!holds s.w s.init)=false/\∀ p∈d.procs,∀ t∈p.l,szT d.signals p.clocked t 0 0=(t,0):=by
 have h0:∃ y,sizeD d=.ok y:=by
  unfold checkM at h
  cases hs:sizeD d with
  | error g =>
   exfalso
   rw [hs] at h
   simp only at h
   subst h
   unfold sizeD at hs
   repeat' split at hs
   all_goals first | (cases hs;done) | (injection hs with hs;first | exact absurd hs (by decide) | (rename_i hne;exact hne hs))
  | ok y=>exact ⟨y,rfl⟩
 obtain ⟨y,hy⟩:=h0
 have hs:(sameProcs y.procs d.procs&&sameChecks y.checks d.checks)=true:=by
  unfold checkM at h
  rw [hy] at h
  simp only at h
  split at h
  ·assumption
  ·exact absurd h (by decide)
 unfold sizeD at hy
 split at hy
 ·cases hy
 split at hy
 ·cases hy
 split at hy
 ·cases hy
 split at hy
 ·cases hy
 rename_i h1 h2 h3 h4
 injection hy with hy
 subst hy
 have h4':(szCs (szPs d.signals 0 d.procs).2 d.checks).2=0:=by simpa using h4
 have h5:(szPs d.signals 0 d.procs).2=0:=by
  have key:∀ (l:List Chk) err,(szCs err l).2=0->err=0:=by
   intro l
   induction l with
   | nil=>intro err h;exact h
   | cons c l ih=>intro err h;unfold szCs at h ih;rw [accum] at h;exact (szE_same (ih _ h)).1
  exact key _ _ h4'
 rw [Bool.and_eq_true] at hs
 have e1:(szPs d.signals 0 d.procs).1=d.procs:=(allEq2_iff eqP _ _ fun x _ y=>eqP_iff' x y).1 hs.1
 exact ⟨by simpa using h1,by simpa using h2,by simpa using h3,(szPs_each d.signals d.procs 0 h5).2 e1⟩
theorem checkM_sub {d:Flat} (h:checkM d=0) (ck:Bool) (l:List T) (hl:∀ t∈l,∃ p∈d.procs,p.clocked=ck/\t∈p.l) (hn:sumBy nodesT l<=mNodes d):checkM ⟨d.signals,[⟨ck,l⟩],[]⟩=0:=by
 obtain ⟨h1,h2,h3,h4⟩:=checkM_parts h
 have hsz:szPs d.signals 0 [⟨ck,l⟩]=([⟨ck,l⟩],0):=by
  have:=szTL_mk d.signals ck l fun t ht=>by
   obtain ⟨p,hp,hc,ht⟩:=hl t ht
   rw [<-hc];exact h4 p hp t ht
  unfold szPs
  rw [accum,accum]
  simp only [this]
 have hfit:fitsM ⟨d.signals,[⟨ck,l⟩],[]⟩=true:=by
  unfold fitsM at h1 ⊢
  simp only [Bool.and_eq_true,decide_eq_true_eq] at h1 ⊢
  obtain ⟨⟨⟨q1,q2⟩,q3⟩,q4,q5⟩:=h1
  refine ⟨⟨⟨q1,by simp⟩,q3⟩,?_,?_⟩
  ·rw [mNodes_eq];simp [sumBy];omega
  ·rw [mDeep_eq]
   have:maxBy deepT l<=mDeep d:=by
    have key:∀ l:List T,(∀ t∈l,deepT t<=mDeep d)->maxBy deepT l<=mDeep d:=by
     intro l
     induction l with
     | nil=>intro _;exact Nat.zero_le _
     | cons x l ih=>intro hx;rw [maxBy];have:=hx x (by simp);have:=ih fun y hy=>hx y (by simp [hy]);omega
    refine key l fun t ht=>?_
    obtain ⟨p,hp,-,ht⟩:=hl t ht
    have q1:=maxBy_ge deepT p.l t ht
    have q2:=maxBy_ge (fun p:Proc=>maxBy deepT p.l) d.procs p hp
    unfold mDeep;omega
   simp [maxBy];omega
 have hsh:shapedM ⟨d.signals,[⟨ck,l⟩],[]⟩=true:=by
  unfold shapedM at h2 ⊢
  simp only [Bool.and_eq_true,Bool.not_eq_true',List.any_eq_false] at h2 ⊢
  refine ⟨⟨h2.1.1,fun p hp=>?_⟩,fun c hc=>by cases hc⟩
  obtain rfl:=List.mem_singleton.1 hp
  simp only [Bool.not_eq_true,List.any_eq_false]
  intro t ht
  obtain ⟨p,hp,-,ht⟩:=hl t ht
  have:=h2.1.2 p hp
  simp only [Bool.not_eq_true,List.any_eq_false] at this
  exact this t ht
 unfold checkM
 have:sizeD ⟨d.signals,[⟨ck,l⟩],[]⟩=.ok ⟨d.signals,[⟨ck,l⟩],[]⟩:=by
  unfold sizeD
  rw [if_neg (by rw [hfit];decide),if_neg (by rw [hsh];decide),if_neg (by rw [h3];decide)]
  simp only [hsz]
  rfl
 rw [this]
 simp only
 rw [if_pos]
 rw [Bool.and_eq_true]
 exact ⟨(allEq2_iff eqP _ _ fun x _ y=>eqP_iff' x y).2 rfl,rfl⟩
theorem valsOk_of {d:Flat} (hc:checkM d=0) {vs:List Nat} (hv:Val2 d.signals vs):valsOk d vs=true:=by
 unfold valsOk valB
 simp only [Bool.and_eq_true,decide_eq_true_eq,List.all_eq_true]
 refine ⟨hv.1,hc,fun k hk=>?_⟩
 have:=hv.2 (k:Int) (by omega) (by have:=List.mem_range.1 hk;omega)
 simpa using this
theorem valsOk_val2 {d:Flat} {vs:List Nat} (h:valsOk d vs=true):Val2 d.signals vs:=⟨(valsOk_ck h).1,(valsOk_ck h).2.2⟩
theorem evalM_of {d:Flat} (hc:checkM d=0) {vs:List Nat} (hv:Val2 d.signals vs) {x:E} (hx:WS d.signals x) (hn:nodes x<=65536) (hd:deep x<=64):evalM d vs x=(evM vs x,0):=by
 unfold evalM
 rw [if_pos ⟨valsOk_of hc hv,checkEM_ok (fun y hy=>(checkM_w hc y hy).2) (checkM_sigs hc) hx hn hd⟩]
theorem runM_of {d:Flat} (hc:checkM d=0) {vs:List Nat} (hv:Val2 d.signals vs) {p:Int} (h0:0<=p) (h1:p<d.procs.length):runM d vs p=(runL d p vs,0):=by
 rw [runM_eq,if_pos ⟨valsOk_of hc hv,h0,h1⟩]
theorem runL_one (ls:List Signal) (ck:Bool) (l:List T) (v:List Nat):runL ⟨ls,[⟨ck,l⟩],[]⟩ 0 v=allM ck v l v:=rfl
theorem sumBy_part (f:T->Nat) (l:List T) (n:Nat):sumBy f (l.take n)<=sumBy f l/\sumBy f (l.drop n)<=sumBy f l:=by
 induction l generalizing n with
 | nil=>simp
 | cons x l ih =>
  cases n with
  | zero=>simp [sumBy]
  | succ n=>have:=ih n;simp [sumBy];omega
theorem run_behind {d:Flat} (hok:d.ok) (hc:checkM d=0) {p:Int} (h0:0<=p) (h1:p<d.procs.length) (hk:clkD d p=false) {v:List Nat} (hv:Val2 d.signals v) (n:Nat) (b:T) (hb:b.op=5) (hbl:b.l=procL d p) (hcb:checkM ⟨d.signals,[⟨false,[b]⟩],[]⟩=0) :
  runM d v p=(runL d p v,0) /\
  ∃ u,runM ⟨d.signals,[⟨false,(procL d p).take n⟩],[]⟩ v 0=(u,0)/\runM ⟨d.signals,[⟨false,(procL d p).drop n⟩],[]⟩ u 0=(runL d p v,0)/\runM ⟨d.signals,[⟨false,[b]⟩],[]⟩ v 0=(runL d p v,0):=by
 have hkk:p.toNat<d.procs.length:=by omega
 have hpl:procL d p=d.procs[p.toNat].l:=procL_get hkk
 have hcl:d.procs[p.toNat].clocked=false:=by
  unfold clkD at hk;rw [List.getElem?_eq_getElem hkk] at hk;exact hk
 have hnn:=nodes_proc d p.toNat hkk
 have hpt:=sumBy_part nodesT d.procs[p.toNat].l n
 have hct:checkM ⟨d.signals,[⟨false,(procL d p).take n⟩],[]⟩=0:=checkM_sub hc false _ (fun t ht=>⟨_,List.getElem_mem hkk,hcl,by rw [hpl] at ht;exact List.mem_of_mem_take ht⟩) (by rw [hpl];omega)
 have hcd:checkM ⟨d.signals,[⟨false,(procL d p).drop n⟩],[]⟩=0:=checkM_sub hc false _ (fun t ht=>⟨_,List.getElem_mem hkk,hcl,by rw [hpl] at ht;exact List.mem_of_mem_drop ht⟩) (by rw [hpl];omega)
 have hall:=procL_ok hok hc h0 h1
 have hls:∀ x∈d.signals,x.w<=64:=fun x hx=>(checkM_w hc x hx).2
 have key:∀ l:List T,(∀ t∈l,RunOk d.signals (clkD d p) t)->∀ w,Val2 d.signals w->Val2 d.signals (allM false v l w):=by
  intro l
  induction l with
  | nil=>intro _ w hw;rw [allM_nil];exact hw
  | cons y l ih=>intro hm w hw;rw [allM_cons];exact ih (fun z hz=>hm z (by simp [hz])) _ ((oneM_ok hls hv y (hm y (by simp))).1 w hw)
 have hu:Val2 d.signals (allM false v ((procL d p).take n) v):=key _ (fun t ht=>hall t (List.mem_of_mem_take ht)) v hv
 refine ⟨runM_of hc hv h0 h1,allM false v ((procL d p).take n) v,?_,?_,?_⟩
 ·rw [runM_of hct (p:=0) hv (by decide) (by simp),runL_one]
 ·rw [runM_of hcd (p:=0) hu (by decide) (by simp),runL_one]
  unfold runL
  rw [hk,run_cut v v v (allM false v ((procL d p).take n) v) (procL d p) n]
 ·rw [runM_of hcb (p:=0) hv (by decide) (by simp),runL_one,run_block false v v b hb,hbl]
  unfold runL
  rw [hk]
theorem run_chosen {ls:List Signal} {ck:Bool} {t a b:T} {e:E} (ho:t.op=2) (he:t.e=[e]) (hl:t.l=[a,b]) {v:List Nat} (hx:checkM ⟨ls,[⟨ck,[t]⟩],[]⟩=0) (hv:Val2 ls v):runM ⟨ls,[⟨ck,[t]⟩],[]⟩ v 0=(if evM v e=0 then allM ck v b.l v else allM ck v a.l v,0):=by
 rw [runM_of hx (p:=0) hv (by decide) (by simp),runL_one,run_choice ck v v ho he hl]
 cases ck<;>rfl
def runAll (d:Flat):List Int->List Nat->List Nat
 | [],v=>v
 | p::o,v=>runAll d o (runL d p v)
theorem runAll_append (d:Flat) (o o':List Int):∀ v,runAll d (o++o') v=runAll d o' (runAll d o v):=by
 induction o with
 | nil=>intro v;rfl
 | cons p o ih=>intro v;exact ih _
abbrev Pin (d:Flat) (p:Int):Prop:=0<=p/\p<d.procs.length
theorem runAll_kept {d:Flat} (hok:d.ok) (hc:checkM d=0) (o:List Int) (ho:∀ p∈o,Pin d p):∀ v,Val2 d.signals v->Val2 d.signals (runAll d o v)/\Ag d.signals v (runAll d o v) (fun x=>∀ p∈o,¬ WrL d.signals (procL d p) x):=by
 induction o with
 | nil=>intro v hv;exact ⟨hv,Ag.refl _ _ _⟩
 | cons p o ih =>
  intro v hv
  obtain ⟨h0,h1⟩:=ho p (by simp)
  obtain ⟨va,ka⟩:=run_kept hok hc h0 h1 hv
  obtain ⟨vb,kb⟩:=ih (fun q hq=>ho q (by simp [hq])) _ va
  refine ⟨vb,fun k j hk hj hx=>?_⟩
  rw [ka k j hk hj (hx p (by simp))]
  exact kb k j hk hj fun q hq=>hx q (by simp [hq])
theorem runAll_rest {d:Flat} (hok:d.ok) (hc:checkM d=0) (o:List Int) (ho:∀ p∈o,Pin d p)
  (hs:∀ p∈o,∀ x,RdL d.signals (procL d p) x->¬ WrL d.signals (procL d p) x)
  (hp:o.Pairwise fun p q=>∀ x,WrL d.signals (procL d q) x->¬ WrL d.signals (procL d p) x/\¬ RdL d.signals (procL d p) x) :
  ∀ v,Val2 d.signals v->∀ p∈o,runL d p (runAll d o v)=runAll d o v:=by
 induction o with
 | nil=>intro v _ p hp;cases hp
 | cons p o ih =>
  intro v hv q hq
  obtain ⟨h1,h2⟩:=List.pairwise_cons.1 hp
  obtain ⟨g0,g1⟩:=ho p (by simp)
  obtain ⟨va,ka⟩:=run_kept hok hc g0 g1 hv
  have ho':∀ q∈o,Pin d q:=fun q hq=>ho q (by simp [hq])
  show runL d q (runAll d o (runL d p v))=runAll d o (runL d p v)
  rcases List.mem_cons.1 hq with rfl | hq
  ·obtain ⟨vr,kr⟩:=runAll_kept hok hc o ho' _ va
   have hag:Ag d.signals v (runAll d o (runL d q v)) (RdL d.signals (procL d q)):=fun k j hk hj hx=>by
    rw [ka k j hk hj (hs q (by simp) _ hx)]
    exact kr k j hk hj fun u hu hw=>(h1 u hu _ hw).2 hx
   obtain ⟨ok,W,-,w2,w3,w4,w5⟩:=run_two hok hc g0 g1 hv vr hag
   refine Eq.symm (vals_ext vr ok.2 fun k j hk hj=>?_)
   by_cases c:W (sumW d.signals k+j)
   ·rw [<-w3 k j hk hj c]
    exact (kr k j hk hj fun u hu hw=>(h1 u hu _ hw).1 (w2 _ c)).symm
   ·exact w5 k j hk hj c
  ·exact ih ho' (fun u hu=>hs u (by simp [hu])) h2 _ va q hq
theorem runAll_any {d:Flat} (hok:d.ok) (hc:checkM d=0) (o:List Int) (ho:∀ p∈o,Pin d p) :
  ∀ (B:Int->Prop) (v w:List Nat),Val2 d.signals v->Val2 d.signals w->Ag d.signals v w B ->
   (∀ i (h:i<o.length),∀ x,RdL d.signals (procL d o[i]) x->B x\/∃ q∈o.take i,x∈alwaysM d q) ->
   Ag d.signals (runAll d o v) (runAll d o w) (fun x=>B x\/∃ q∈o,x∈alwaysM d q):=by
 induction o with
 | nil=>intro B v w _ _ hag _;exact hag.mono fun x hx=>hx.resolve_right fun ⟨q,hq,_⟩=>by cases hq
 | cons p o ih =>
  intro B v w hv hw hag hr
  obtain ⟨g0,g1⟩:=ho p (by simp)
  have hag1:Ag d.signals v w (RdL d.signals (procL d p)):=hag.mono fun x hx=>by
   rcases hr 0 (by simp) x hx with h | ⟨q,hq,-⟩
   ·exact h
   ·cases hq
  have T:=run_two hok hc g0 g1 hv hw hag1
  have hkeep:=T.keep hag
  obtain ⟨ok,W,w1,-,w3,-,-⟩:=T
  have hag2:Ag d.signals (runL d p v) (runL d p w) (fun x=>B x\/x∈alwaysM d p):=fun k j hk hj hx=>by
   rcases hx with h | h
   ·exact hkeep k j hk hj h
   ·exact w3 k j hk hj (w1 _ h)
  refine (ih (fun q hq=>ho q (by simp [hq])) (fun x=>B x\/x∈alwaysM d p) _ _ ok.1 ok.2 hag2 fun i hi x hx=>?_).mono fun x hx=>?_
  ·rcases hr (i+1) (by simpa using hi) x (by simpa using hx) with h | ⟨q,hq,h⟩
   ·exact .inl (.inl h)
   ·rw [List.take_succ_cons] at hq
    rcases List.mem_cons.1 hq with rfl | hq
    ·exact .inl (.inr h)
    ·exact .inr ⟨q,hq,h⟩
  ·rcases hx with h | ⟨q,hq,h⟩
   ·exact .inl (.inl h)
   ·rcases List.mem_cons.1 hq with rfl | hq
    ·exact .inl (.inr h)
    ·exact .inr ⟨q,hq,h⟩
end Go.Proofs.YtpdpgmfnfajbfaaGreat
