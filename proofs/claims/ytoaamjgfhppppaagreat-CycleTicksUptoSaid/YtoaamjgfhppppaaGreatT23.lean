/- Laws and walks that a claim of this seat leans on: LawL, BehindL, StmtL4, StmtL5, StmtL6, RestL, RestL2, RestL3, PlayL, WordB. -/
import Derived.Test.YtoaamjgfhppppaaGreatTLint
import Derived.Test.YtoaamjgfhppppaaGreatT22
import Derived.Test.YtoaamjgfhppppaaGreatT15
import Derived.Test.YtoaamjgfhppppaaGreatT16
import Derived.Test.YtoaamjgfhppppaaGreatT13
import Derived.Test.YtoaamjgfhppppaaGreatT17
import Derived.Test.YtoaamjgfhppppaaGreatT00
set_option maxRecDepth 100000
set_option maxHeartbeats 8000000
set_option linter.all false
namespace Go.Proofs.YtoaamjgfhppppaaGreat
open Go.RowKit
/-! ### plain: what is always written is written -/
def WBit (offs:List Int) (l:List T) (x:Int):Prop:=∃ t∈eachT.eachTs l,t.op=1/\∃ j:Int,t.lo<=j/\j<=t.hi/\x=offs.getD t.sig.toNat 0+j
theorem mem_spansW (offs:List Int) (l:List T) (x:Int):x∈numbersM offs (spansW l)↔WBit offs l x:=by
 rw [mem_numbersM]
 unfold spansW wS WBit
 rw [List.take_length]
 constructor
 ·rintro ⟨s,hs,j,h1,h2,h3⟩
  obtain ⟨t,ht,rfl⟩:=List.mem_map.1 hs
  obtain ⟨ht,ho⟩:=List.mem_filter.1 ht
  exact ⟨t,ht,by simpa using ho,j,h1,h2,h3⟩
 ·rintro ⟨t,ht,ho,j,h1,h2,h3⟩
  exact ⟨ownS t,List.mem_map.2 ⟨t,List.mem_filter.2 ⟨ht,by simp [ho]⟩,rfl⟩,j,h1,h2,h3⟩
theorem mem_eachTs {l:List T} {x:T}:x∈eachT.eachTs l↔∃ t∈l,x∈eachT t:=by
 rw [eachTs_eq,List.mem_flatten]
 constructor
 ·rintro ⟨m,hm,hx⟩
  obtain ⟨t,ht,rfl⟩:=List.mem_map.1 hm
  exact ⟨t,ht,hx⟩
 ·rintro ⟨t,ht,hx⟩
  exact ⟨_,List.mem_map.2 ⟨t,ht,rfl⟩,hx⟩
theorem wbit_mono {offs:List Int} {l:List T} {t:T} {x:Int} (ht:t∈l) (h:WBit offs t.l x):WBit offs l x:=by
 obtain ⟨u,hu,r⟩:=h
 exact ⟨u,mem_eachTs.2 ⟨t,ht,by rw [eachT_eq];exact List.mem_cons_of_mem _ hu⟩,r⟩
theorem alt_sub (offs:List Int) (t:T):(∀ x∈alt offs t,WBit offs [t] x)/\∀ x∈alwM offs t.l,WBit offs t.l x:=by
 induction t using T.ind with
 | h t ih =>
  have hm:∀ x∈alwM offs t.l,WBit offs t.l x:=by
   intro x hx
   unfold alwM at hx
   rw [setI_mem] at hx
   unfold alwP at hx
   obtain ⟨m,hm,hx⟩:=List.mem_flatten.1 hx
   obtain ⟨y,hy,rfl⟩:=List.mem_map.1 hm
   obtain ⟨u,hu,r⟩:=(ih y hy).1 x hx
   obtain ⟨z,hz,hu⟩:=mem_eachTs.1 hu
   rw [List.mem_singleton.1 hz] at hu
   exact ⟨u,mem_eachTs.2 ⟨y,hy,hu⟩,r⟩
  refine ⟨fun x hx=>?_,hm⟩
  rw [alt_eq] at hx
  split at hx
  ·rename_i h1
   obtain ⟨s,hs,j,h2,h3,h4⟩:=(mem_numbersM _ _ _).1 hx
   rw [List.mem_singleton.1 hs] at h2 h3 h4
   exact ⟨t,mem_eachTs.2 ⟨t,by simp,by rw [eachT_eq];simp⟩,h1,j,h2,h3,h4⟩
  ·split at hx
   ·unfold metM at hx
    have hx:=(List.mem_filter.1 hx).1
    cases hl:t.l with
    | nil=>rw [hl] at hx;simp at hx
    | cons y r =>
     rw [hl] at hx
     simp only [List.map_cons,List.headD_cons] at hx
     have hy:y∈t.l:=by rw [hl];simp
     exact wbit_mono (by simp) (wbit_mono hy ((ih y hy).2 x hx))
   ·exact wbit_mono (by simp) (hm x hx)
theorem alwaysM_sub (d:Flat) (p:Int):∀ x∈alwaysM d p,x∈writesM d p:=by
 intro x hx
 unfold writesM
 rw [mem_spansW]
 exact (alt_sub (offsD d) ⟨0,0,0,0,[],procL d p⟩).2 x hx
theorem writes_always {d:Flat} {p:Int} (h:(writesM d p).length=(alwaysM d p).length):∀ x∈writesM d p,x∈alwaysM d p :=
 nodup_full _ _ (lt_nodup (setI_lt _)) (alwaysM_sub d p) (by omega)
theorem latF_false {d:Flat} (h:latF d 0 d.procs=false):∀ k (hk:k<d.procs.length),d.procs[k].clocked=false->(writesM d (k:Int)).length=(alwaysM d (k:Int)).length:=by
 have key:∀ (l:List Proc) (p:Nat),latF d p l=false->∀ i (hi:i<l.length),l[i].clocked=false->(writesM d ((p+i:Nat):Int)).length=(alwaysM d ((p+i:Nat):Int)).length:=by
  intro l
  induction l with
  | nil=>intro p _ i hi;simp at hi
  | cons x l ih =>
   intro p h i hi hc
   rw [latF] at h
   split at h
   ·cases h
   ·rename_i hx
    cases i with
    | zero =>
     simp at hc
     simpa [hc] using hx
    | succ i =>
     have:=ih (p+1) h i (by simpa using hi) (by simpa using hc)
     rw [show p+(i+1)=p+1+i by omega]
     exact this
 intro k hk hc
 simpa using key d.procs 0 h k hk hc
theorem noneF_false {d:Flat} {by':List Int} (h:noneF d.signals by' 0 d.signals=false):∀ s (hs:s<d.signals.length),d.signals[s].kind=2\/d.signals[s].kind=3->(-1) ∉ subM d.signals by' s:=by
 have key:∀ (l:List Signal) (p:Nat),noneF d.signals by' p l=false->∀ i (hi:i<l.length),l[i].kind=2\/l[i].kind=3->(-1) ∉ subM d.signals by' (p+i):=by
  intro l
  induction l with
  | nil=>intro p _ i hi;simp at hi
  | cons x l ih =>
   intro p h i hi hc
   rw [noneF] at h
   split at h
   ·cases h
   ·rename_i hx
    cases i with
    | zero =>
     simp at hc
     simpa [hc] using hx
    | succ i =>
     have:=ih (p+1) h i (by simpa using hi) (by simpa using hc)
     rw [show p+(i+1)=p+1+i by omega]
     exact this
 intro s hs hc
 simpa using key d.signals 0 h s hs hc
/-! ### plain: who may be written -/
def KindOk (ls:List Signal) (ck:Bool) (t:T):Prop:=t.op=1->kindOf ls t.sig≠1/\ck=decide (kindOf ls t.sig=4)
theorem accum_zero {α β:Type} (f:Int->α->β × Int) (P:α->Prop) (l:List α) (h:∀ x∈l,∀ s,(f s x).2=0->s=0/\P x):∀ s,(accum f s l).2=0->s=0/\∀ x∈l,P x:=by
 induction l with
 | nil=>intro s hs;exact ⟨hs,by simp⟩
 | cons x l ih =>
  intro s hs
  rw [accum] at hs
  obtain ⟨h1,h2⟩:=ih (fun y hy=>h y (by simp [hy])) _ hs
  obtain ⟨h3,h4⟩:=h x (by simp) s h1
  refine ⟨h3,fun y hy=>?_⟩
  rcases List.mem_cons.1 hy with e | hy
  ·rw [e];exact h4
  ·exact h2 y hy
theorem szE_zero (err w:Int) (e:E) (h:(szE err e w).2=0):err=0:=by
 unfold szE at h
 split at h
 ·exact h
 ·rename_i h0;simpa using h0
theorem szT_zero (ls:List Signal) (ck:Bool) (t:T):∀ lab err,(szT ls ck t lab err).2=0->err=0/\∀ x∈eachT t,KindOk ls ck x:=by
 induction t using T.ind with
 | h t ih =>
  intro lab err h
  rw [szT_eq] at h
  simp only [szTL] at h
  obtain ⟨h1,h2⟩:=accum_zero _ (fun x=>∀ y∈eachT x,KindOk ls ck y) t.l (fun x hx s hs=>ih x hx _ s hs) _ h
  unfold szEs at h1
  obtain ⟨h3,-⟩:=accum_zero _ (fun _=>True) t.e (fun x _ s hs=>⟨szE_zero s _ x hs,trivial⟩) _ h1
  unfold szErr0 at h3
  split at h3
  ·exact absurd h3 (by decide)
  ·rename_i hn
   refine ⟨h3,fun x hx=>?_⟩
   rw [eachT_eq] at hx
   rcases List.mem_cons.1 hx with e | hx
   ·rw [e]
    intro ho
    have hn':¬ (kindOf ls t.sig=1\/ck≠decide (kindOf ls t.sig=4)):=fun hh=>hn ⟨ho,h3,hh⟩
    refine ⟨fun e=>hn' (.inl e),Decidable.byContradiction fun e=>hn' (.inr e)⟩
   ·obtain ⟨y,hy,hx⟩:=mem_eachTs.1 hx
    exact h2 y hy x hx
theorem kinds_of_check {d:Flat} (h:checkM d=0):∀ p∈d.procs,∀ t∈eachT.eachTs p.l,KindOk d.signals p.clocked t:=by
 have h0:∃ y,sizeD d=.ok y:=by
  unfold checkM at h
  cases hs:sizeD d with
  | error g =>
   exfalso
   rw [hs] at h
   simp only at h
   subst h
   unfold sizeD at hs
   repeat' split at hs
   all_goals first | (cases hs;done) | (injection hs with hs;first | exact absurd hs (by decide) | (rename_i hne;exact hne hs))
  | ok y=>exact ⟨y,rfl⟩
 obtain ⟨y,hy⟩:=h0
 have hz:(szCs (szPs d.signals 0 d.procs).2 d.checks).2=0:=by
  unfold sizeD at hy
  repeat' split at hy
  all_goals first | (cases hy;done) | skip
  rename_i hz
  simpa using hz
 unfold szCs at hz
 obtain ⟨h1,-⟩:=accum_zero (fun s (c:Chk)=>((⟨c.name,(szE s c.e (-1)).1⟩:Chk),(szE s c.e (-1)).2)) (fun _=>True) d.checks (fun x _ s hs=>⟨szE_zero s (-1) x.e hs,trivial⟩) _ hz
 unfold szPs at h1
 obtain ⟨-,h2⟩:=accum_zero _ (fun p:Proc=>∀ t∈eachT.eachTs p.l,KindOk d.signals p.clocked t) d.procs (fun p _ s hs=>by
  simp only [szTL] at hs
  obtain ⟨h3,h4⟩:=accum_zero _ (fun x=>∀ y∈eachT x,KindOk d.signals p.clocked y) p.l (fun x _ s hs=>szT_zero _ _ x _ s hs) _ hs
  refine ⟨h3,fun t ht=>?_⟩
  obtain ⟨z,hz,ht⟩:=mem_eachTs.1 ht
  exact h4 z hz t ht) _ h1
 exact h2
/-! ### plain: each bit has one -/
theorem driven {d:Flat} (hok:d.ok) (hl:(lookM d).1=0) {by':List Int} (hd:drvD d=(0,by')):∀ s (hs:s<d.signals.length) (i:Nat),sumW d.signals s<=i->(i:Int)<sumW d.signals (s+1) ->
  ∃ p,by'[i]? = some p/\-1<=p/\p<d.procs.length/\(d.signals[s].kind=1->p = -1)/\(d.signals[s].kind=4->0<=p->∃ h:p.toNat<d.procs.length,d.procs[p.toNat].clocked=true) /\
   (d.signals[s].kind=2\/d.signals[s].kind=3->0<=p/\∃ h:p.toNat<d.procs.length,d.procs[p.toNat].clocked=false/\(i:Int)∈alwaysM d p):=by
 obtain ⟨hck,by2,hd2,hdm,hnone,hlat,-⟩:=lookM_zero hok hl
 have hbe:by2=by':=by rw [hd] at hd2;injection hd2 with _ e;exact e.symm
 subst hbe
 have hw:=checkM_w hck
 intro s hs i h1 h2
 have hnb:=nBits_le hok hck
 have hmono:=sumW_mono d.signals hw (s+1) d.signals.length (by omega) (Nat.le_refl _)
 have hin:i<(nBits d).toNat:=by unfold nBits at *;omega
 have hlen:=drvD_len hok hck hdm
 have hil:i<by2.length:=by omega
 obtain ⟨p,hp⟩:∃ p,by2[i]? = some p:=⟨_,List.getElem?_eq_getElem hil⟩
 have hpr:=hlen.2 p (List.mem_of_getElem? hp)
 have key:0<=p->∃ h:p.toNat<d.procs.length,(i:Int)∈writesM d p/\kindOf d.signals s≠1/\d.procs[p.toNat].clocked=decide (kindOf d.signals s=4):=by
  intro h0
  rcases drvM_get (wsM_range hok hck) hdm i hin with ⟨q1,-⟩ | ⟨k,l,q1,q2,q3,-⟩
  ·rw [hp] at q1;injection q1 with q1;omega
  ·rw [hp] at q3
   injection q3 with q3
   subst q3
   have hk:k<d.procs.length:=by have:=(List.getElem?_eq_some_iff.1 q1).1;rwa [wsM_length] at this
   have hle:l=writesM d (k:Int):=by
    unfold wsM at q1
    rw [List.getElem?_map,List.getElem?_range hk] at q1
    simpa using q1.symm
   subst hle
   refine ⟨by simpa using hk,q2,?_⟩
   have q2':=q2
   unfold writesM at q2'
   rw [mem_spansW] at q2'
   obtain ⟨t,ht,ho,j,g1,g2,g3⟩:=q2'
   rw [procL_get (by simpa using hk)] at ht
   have hD:=procD_of hok hck k hk
   simp only [Int.toNat_natCast] at ht ⊢
   have hsp:=slice_span (((StD_iff _ _).1 (hD.each t ht)).1 ho)
   obtain ⟨r1,r2,r3⟩:=span_bits d.signals hsp g1 g2
   simp only at r1 r2 r3
   have hse:s=t.sig.toNat:=by
    unfold offsD at g3
    exact sumW_uniq d.signals hw hs r1 h1 h2 (by omega) (by omega)
   have hko:=kinds_of_check hck _ (List.getElem_mem hk) t ht ho
   have hsig:((s:Nat):Int)=t.sig:=by have:=hsp.1;simp only at this;omega
   rw [hsig]
   exact hko
 have hkind:kindOf d.signals (s:Int)=d.signals[s].kind:=by
  unfold kindOf;rw [Int.toNat_natCast,List.getElem?_eq_getElem hs]
 rw [hkind] at key
 refine ⟨p,hp,hpr.1,hpr.2,fun hk=>?_,fun hk h0=>?_,fun hk=>?_⟩
 ·refine Decidable.byContradiction fun hne=>?_
  obtain ⟨-,-,h3,-⟩:=key (by omega)
  exact h3 hk
 ·obtain ⟨h,-,-,h4⟩:=key h0
  exact ⟨h,by rw [h4,hk];decide⟩
 ·have hp1:p ≠ -1:=by
   rintro rfl
   have hb0:=(sumW_le d.signals hw s (by omega)).1
   refine noneF_false hnone s hs hk ?_
   unfold subM
   refine List.mem_of_getElem? (i:=i-(sumW d.signals s).toNat) ?_
   rw [List.getElem?_take,if_pos (by omega),List.getElem?_drop,show (sumW d.signals s).toNat+(i-(sumW d.signals s).toNat)=i by omega]
   exact hp
  have h0:0<=p:=by omega
  obtain ⟨h,h2,-,h4⟩:=key h0
  have hcl:d.procs[p.toNat].clocked=false:=by
   rw [h4]
   rcases hk with e | e<;>rw [e]<;>decide
  refine ⟨h0,h,hcl,?_⟩
  have hlq:=latF_false hlat p.toNat h hcl
  rw [show ((p.toNat:Nat):Int)=p by omega] at hlq
  exact writes_always hlq _ h2
/-! ### plain: each stands behind those on which it hangs -/
theorem ckL_spec (l:List Proc):∀ p q,q∈ckL p l↔∃ i,∃ h:i<l.length,q=((p+i:Nat):Int)/\l[i].clocked=true:=by
 induction l with
 | nil=>intro p q;simp [ckL]
 | cons x l ih =>
  intro p q
  have key:(∃ i,∃ h:i<(x::l).length,q=((p+i:Nat):Int)/\(x::l)[i].clocked=true)↔(q=(p:Int)/\x.clocked=true)\/∃ i,∃ h:i<l.length,q=((p+1+i:Nat):Int)/\l[i].clocked=true:=by
   constructor
   ·rintro ⟨i,h,h1,h2⟩
    cases i with
    | zero=>exact .inl ⟨by simpa using h1,by simpa using h2⟩
    | succ i=>exact .inr ⟨i,by simpa using h,by rw [h1];congr 1;omega,by simpa using h2⟩
   ·rintro (⟨h1,h2⟩ | ⟨i,h,h1,h2⟩)
    ·exact ⟨0,by simp,by simpa using h1,by simpa using h2⟩
    ·exact ⟨i+1,by simpa using h,by rw [h1];congr 1;omega,by simpa using h2⟩
  rw [key,ckL]
  split
  ·rename_i hc
   rw [List.mem_cons,ih]
   simp [hc]
  ·rename_i hc
   rw [ih]
   simp [hc]
theorem ckL_lt (l:List Proc):∀ p,(ckL p l).Pairwise (·<·):=by
 induction l with
 | nil=>intro p;simp [ckL]
 | cons x l ih =>
  intro p
  rw [ckL]
  split
  ·refine List.pairwise_cons.2 ⟨fun q hq=>?_,ih (p+1)⟩
   have:=ckL_mem l (p+1) q hq
   omega
  ·exact ih (p+1)
theorem clks_get (d:Flat) {k:Nat} (hk:k<d.procs.length):(clks d).getD k false=d.procs[k].clocked:=by
 unfold clks;rw [List.getD_eq_getElem?_getD,List.getElem?_map,List.getElem?_eq_getElem hk];rfl
structure Behind (d:Flat) (by' o lev:List Int):Prop where
 len:lev.length=d.procs.length
 olen:o.length<=d.procs.length
 inr:∀ i p,o[i]? = some p->0<=p/\∃ h:p.toNat<d.procs.length,d.procs[p.toNat].clocked=false/\p ∉ o.take i
 hang:∀ i p,o[i]? = some p->∀ r∈readsM d p,∀ q,by'[r.toNat]? = some q->0<=q->∀ h:q.toNat<d.procs.length,d.procs[q.toNat].clocked=false->q∈o.take i/\lev.getD q.toNat 0<lev.getD p.toNat 0
 all:∀ k (h:k<d.procs.length),d.procs[k].clocked=false->(k:Int)∈o
theorem behind {d:Flat} (hok:d.ok) (hl:(lookM d).1=0) {by':List Int} (hd:drvD d=(0,by')):Behind d by' (lookM d).2.2 (levD d).2:=by
 obtain ⟨hck,by2,hd2,hdm,hnone,hlat,hG,hO,hwo⟩:=lookM_zero hok hl
 have hbe:by2=by':=by rw [hd] at hd2;injection hd2 with _ e;exact e.symm
 subst hbe
 have hlev:(levD d).2=levs (graphM d by2) (ordM (graphM d by2) (clks d)++ckL 0 d.procs) (List.replicate (graphM d by2).length 0):=by
  unfold levD;rw [if_neg (by rw [hl];decide),hG,hO]
 rw [hO,hlev]
 have hgl:=graphM_length d by2
 have hbl:=drvD_len hok hck hdm
 have hgr:=graphM_range hok hck hbl.1 hbl.2
 obtain ⟨G,hGe⟩:∃ G,graphM d by2=G:=⟨_,rfl⟩
 have hGget:∀ k (hk:k<d.procs.length),G.getD k []=hang1 by2 (clks d) (readsM d (k:Int)) []:=fun k hk=>by
  rw [<-hGe,List.getD_eq_getElem?_getD,graphM_get d by2 hk];rfl
 rw [hGe] at hgl hgr hwo ⊢
 obtain ⟨come',hord,-⟩:=orderM_spec G (clks d) (G.length+1) (List.replicate G.length false) [] (Ord.nil G (clks d)) (by have:=falses_le (List.replicate G.length false);simp at this;omega)
 rw [show orderM G (clks d) (G.length+1) (List.replicate G.length false) []=ordM G (clks d) from rfl] at hord
 generalize ordM G (clks d)=o at *
 have hclk:∀ p∈o,∃ h:p.toNat<d.procs.length,d.procs[p.toNat].clocked=false:=fun p hp=>by
  obtain ⟨h1,h2,h3⟩:=hord.inr p hp
  have h:p.toNat<d.procs.length:=by omega
  exact ⟨h,by rw [<-clks_get d h];exact h3⟩
 have hsub:∀ x∈o,x∈((List.range d.procs.length).map fun (k:Nat)=>(k:Int)):=fun x hx=>by
  obtain ⟨h1,h2,-⟩:=hord.inr x hx
  exact List.mem_map.2 ⟨x.toNat,List.mem_range.2 (by omega),by omega⟩
 have holen:o.length<=d.procs.length:=by
  have:=nodup_le o _ hord.nodup hsub
  simpa using this
 have hall:∀ k (h:k<d.procs.length),d.procs[k].clocked=false->(k:Int)∈o:=by
  have hw:=wires_list (clks d)
  have hcl:(clks d).length=d.procs.length:=by simp [clks]
  intro k hk hc
  refine nodup_full o (((List.range (clks d).length).filter fun p=>!(clks d).getD p false).map fun (k:Nat)=>(k:Int)) hord.nodup ?_ (by rw [List.length_map,hw];exact hwo) (k:Int) ?_
  ·intro x hx
   obtain ⟨h,h2⟩:=hclk x hx
   have h1:=(hord.inr x hx).1
   refine List.mem_map.2 ⟨x.toNat,List.mem_filter.2 ⟨List.mem_range.2 (by omega),?_⟩,by omega⟩
   rw [clks_get d h,h2];rfl
  ·exact List.mem_map.2 ⟨k,List.mem_filter.2 ⟨List.mem_range.2 (by omega),by rw [clks_get d hk,hc];rfl⟩,rfl⟩
 have hmemG:∀ p:Int,p.toNat<d.procs.length->∀ q∈G.getD p.toNat [],0<=q/\∃ h:q.toNat<d.procs.length,d.procs[q.toNat].clocked=false:=by
  intro p hp q hq
  rw [hGget p.toNat hp] at hq
  obtain ⟨h1,h2,-⟩:=(mem_hang _ _ _ _).1 hq
  have hlt:q.toNat<d.procs.length:=by
   have h3:G[p.toNat]? = some (hang1 by2 (clks d) (readsM d (p.toNat:Int)) []):=by rw [<-hGe];exact graphM_get d by2 hp
   have:=(hgr _ (List.mem_of_getElem? h3)).2 q hq
   omega
  exact ⟨h1,hlt,by rw [<-clks_get d hlt];exact h2⟩
 have hck0:∀ q∈ckL 0 d.procs,0<=q/\∃ h:q.toNat<d.procs.length,d.procs[q.toNat].clocked=true:=by
  intro q hq
  obtain ⟨i,h,h1,h2⟩:=(ckL_spec _ _ _).1 hq
  have hqi:q.toNat=i:=by omega
  refine ⟨by omega,by omega,?_⟩
  simp only [hqi];exact h2
 have hnd:(o++ckL 0 d.procs).Nodup:=by
  rw [List.nodup_append]
  refine ⟨hord.nodup,lt_nodup (ckL_lt _ _),fun a ha b hb e=>?_⟩
  subst e
  obtain ⟨_,h2⟩:=hclk a ha
  obtain ⟨-,_,h4⟩:=hck0 a hb
  rw [h2] at h4;cases h4
 have hlevgt:=levs_gt G (o++ckL 0 d.procs) (List.replicate G.length 0) (fun p hp=>by
   rw [List.length_replicate,hgl]
   rcases List.mem_append.1 hp with hp | hp
   ·obtain ⟨h,-⟩:=hclk p hp;exact ⟨(hord.inr p hp).1,h⟩
   ·obtain ⟨h1,h2,-⟩:=hck0 p hp;exact ⟨h1,h2⟩) hnd (fun i p hp q hq p' hp' e=>by
   have hpm:=List.mem_of_getElem? hp
   have hpl:p.toNat<d.procs.length:=by
    rcases List.mem_append.1 hpm with h | h
    ·exact (hclk p h).1
    ·exact (hck0 p h).2.1
   obtain ⟨hq0,hqlt,hqc⟩:=hmemG p hpl q hq
   have hp'0:0<=p':=by
    rcases List.mem_append.1 (List.mem_of_mem_drop hp') with h | h
    ·exact (hord.inr p' h).1
    ·exact (hck0 p' h).1
   have hqp:q=p':=by omega
   subst hqp
   by_cases hi:i<o.length
   ·rw [List.getElem?_append_left hi] at hp
    have h1:=hord.behind i p hp q hq
    rw [show ((q.toNat:Nat):Int)=q by omega] at h1
    rw [List.drop_append_of_le_length (by omega)] at hp'
    have h2:=hord.nodup
    rw [<-List.take_append_drop i o,List.nodup_append] at h2
    rcases List.mem_append.1 hp' with h | h
    ·exact h2.2.2 q h1 q h rfl
    ·obtain ⟨-,_,h4⟩:=hck0 q h
     rw [hqc] at h4;cases h4
   ·have:q∈ckL 0 d.procs:=by
     rw [List.drop_append,List.drop_of_length_le (by omega),List.nil_append] at hp'
     exact List.mem_of_mem_drop hp'
    obtain ⟨-,_,h4⟩:=hck0 q this
    rw [hqc] at h4;cases h4)
 refine ⟨by rw [levs_length,List.length_replicate,hgl],holen,fun i p hp=>?_,fun i p hp r hr q hq hq0 hqlt hqc=>?_,hall⟩
 ·have hpm:=List.mem_of_getElem? hp
  obtain ⟨h,h2⟩:=hclk p hpm
  refine ⟨(hord.inr p hpm).1,h,h2,fun hin=>?_⟩
  have hn:=hord.nodup
  rw [<-List.take_append_drop i o,List.nodup_append] at hn
  refine hn.2.2 p hin p ?_ rfl
  obtain ⟨hi,rfl⟩:=List.getElem?_eq_some_iff.1 hp
  exact (List.drop_eq_getElem_cons hi) ▸ List.mem_cons_self
 ·have hpm:=List.mem_of_getElem? hp
  obtain ⟨h,h2⟩:=hclk p hpm
  have hp0:=(hord.inr p hpm).1
  have hqG:q∈G.getD p.toNat []:=by
   rw [hGget p.toNat h,mem_hang]
   refine ⟨hq0,by rw [clks_get d hqlt];exact hqc,r,by rw [show ((p.toNat:Nat):Int)=p by omega];exact hr,?_⟩
   rw [List.getD_eq_getElem?_getD,hq];rfl
  have h1:=hord.behind i p hp q hqG
  rw [show ((q.toNat:Nat):Int)=q by omega] at h1
  exact ⟨h1,hlevgt p (by simp [hpm]) q hqG⟩
theorem runOk_each {ls:List Signal} {ck:Bool} (t:T):RunOk ls ck t->∀ u∈eachT t,RunOk ls ck u:=by
 induction t using T.ind with
 | h t ih =>
  intro h u hu
  rw [eachT_eq] at hu
  rcases List.mem_cons.1 hu with rfl | hu
  ·exact h
  ·rw [eachTs_eq] at hu
   obtain ⟨m,hm,hu⟩:=List.mem_flatten.1 hu
   obtain ⟨y,hy,rfl⟩:=List.mem_map.1 hm
   exact ih y hy (((RunOk_iff ls ck t).1 h).2.2 y hy) u hu
theorem runOk_eachs {ls:List Signal} {ck:Bool} {l:List T} (h:∀ t∈l,RunOk ls ck t):∀ u∈eachT.eachTs l,RunOk ls ck u:=by
 intro u hu
 rw [eachTs_eq] at hu
 obtain ⟨m,hm,hu⟩:=List.mem_flatten.1 hu
 obtain ⟨y,hy,rfl⟩:=List.mem_map.1 hm
 exact runOk_each y (h y hy) u hu
theorem writes_kind {d:Flat} (hok:d.ok) (hc:checkM d=0) {p:Int} (h0:0<=p) (h1:p<d.procs.length):∀ x∈writesM d p,∃ k j:Nat,k<d.signals.length/\(j:Int)<sigW d.signals (k:Int)/\x=bn d.signals k j /\
  kindOf d.signals (k:Int)≠1/\clkD d p=decide (kindOf d.signals (k:Int)=4):=by
 intro x hx
 obtain ⟨u,hu,ho,hx⟩:=(mem_writesM d p x).1 hx
 have hr:=runOk_eachs (procL_ok hok hc h0 h1) u hu
 obtain ⟨-,h2,-⟩:=(RunOk_iff _ _ u).1 hr
 have hls:=checkM_w hc
 rcases h2 with ⟨-,a1,a2,-⟩ | ⟨o,-⟩ | ⟨o,-⟩ | o | o
 case inl =>
  obtain ⟨q1,q2,q3,q4,q5,-⟩:=slice_le d.signals (fun x hx=>(hls x hx).2) a1
  obtain ⟨j,j1,j2,rfl⟩:=(own_num hls a1 x).1 hx
  have hk:((u.sig.toNat:Nat):Int)=u.sig:=by omega
  exact ⟨u.sig.toNat,j,by omega,by rw [hk];omega,rfl,by rw [hk];exact a2.1,by rw [hk];exact a2.2⟩
 all_goals omega
theorem bn_range {ls:List Signal} (hls:∀ x∈ls,1<=x.w/\x.w<=64) {k j:Nat} (hk:k<ls.length) (hj:(j:Int)<sigW ls (k:Int)):0<=bn ls k j/\bn ls k j<sumW ls ls.length:=by
 have hs:sigW ls (k:Int)=ls[k].w:=by simp [sigW,List.getElem?_eq_getElem hk]
 have h3:=sumW_succ ls k hk
 have h4:=sumW_mono ls hls (k+1) ls.length (by omega) (Nat.le_refl _)
 have h5:=(sumW_le ls hls k (by omega)).1
 unfold bn;omega
theorem writes_range {d:Flat} (hok:d.ok) (hc:checkM d=0) {p:Int} (h0:0<=p) (h1:p<d.procs.length):∀ x∈writesM d p,0<=x/\x<sumW d.signals d.signals.length:=by
 intro x hx
 obtain ⟨k,j,hk,hj,rfl,-,-⟩:=writes_kind hok hc h0 h1 x hx
 exact bn_range (checkM_w hc) hk hj
theorem valsOk_of {d:Flat} (hc:checkM d=0) {vs:List Nat} (hv:Val2 d.signals vs):valsOk d vs=true:=by
 unfold valsOk valB
 simp only [Bool.and_eq_true,decide_eq_true_eq,List.all_eq_true]
 refine ⟨hv.1,hc,fun k hk=>?_⟩
 have:=hv.2 (k:Int) (by omega) (by have:=List.mem_range.1 hk;omega)
 simpa using this
theorem valsOk_val2 {d:Flat} {vs:List Nat} (h:valsOk d vs=true):Val2 d.signals vs:=⟨(valsOk_ck h).1,(valsOk_ck h).2.2⟩
theorem evalM_of {d:Flat} (hc:checkM d=0) {vs:List Nat} (hv:Val2 d.signals vs) {x:E} (hx:WS d.signals x) (hn:nodes x<=65536) (hd:deep x<=64):evalM d vs x=(evM vs x,0):=by
 unfold evalM
 rw [if_pos ⟨valsOk_of hc hv,checkEM_ok (fun y hy=>(checkM_w hc y hy).2) (checkM_sigs hc) hx hn hd⟩]
theorem runM_of {d:Flat} (hc:checkM d=0) {vs:List Nat} (hv:Val2 d.signals vs) {p:Int} (h0:0<=p) (h1:p<d.procs.length):runM d vs p=(runL d p vs,0):=by
 rw [runM_eq,if_pos ⟨valsOk_of hc hv,h0,h1⟩]
def runAll (d:Flat):List Int->List Nat->List Nat
 | [],v=>v
 | p::o,v=>runAll d o (runL d p v)
abbrev Pin (d:Flat) (p:Int):Prop:=0<=p/\p<d.procs.length
theorem drives_iff {d:Flat} (hok:d.ok) (hc:checkM d=0) {by':List Int} (hdm:drvM (nBits d).toNat (wsM d)=some by') {p:Int} (hp:Pin d p) {x:Int}:x∈writesM d p↔0<=x/\by'[x.toNat]? = some p:=by
 have hnb:=nBits_le hok hc
 have hb:∀ l∈wsM d,∀ b∈l,0<=b/\b<((nBits d).toNat:Nat):=by
  intro l hl b hbl
  obtain ⟨k,hk,rfl⟩:=List.mem_map.1 hl
  have hk':=List.mem_range.1 hk
  have:=writesM_range hok hc (p:=(k:Int)) (by simpa using hk') b hbl
  omega
 have hws:(wsM d)[p.toNat]? = some (writesM d p):=by
  unfold wsM
  rw [List.getElem?_map,List.getElem?_range (by have:=hp.2;omega)]
  show some (writesM d ((p.toNat:Nat):Int))=some (writesM d p)
  rw [show ((p.toNat:Nat):Int)=p by have:=hp.1;omega]
 constructor
 ·intro hx
  obtain ⟨h0,h1⟩:=hb _ (List.mem_of_getElem? hws) x hx
  refine ⟨h0,?_⟩
  have hxx:((x.toNat:Nat):Int)=x:=by omega
  rcases drvM_get hb hdm x.toNat (by omega) with ⟨-,q⟩ | ⟨k,l,-,-,q3,q4⟩
  ·exact absurd (by rw [hxx];exact hx) (q _ (List.mem_of_getElem? hws))
  ·have:=q4 p.toNat _ hws (by rw [hxx];exact hx)
   rw [q3,<-this]
   congr 1
   have:=hp.1;omega
 ·rintro ⟨h0,h1⟩
  have hxx:((x.toNat:Nat):Int)=x:=by omega
  have hlen:=drvM_length hdm
  have hlt:=(List.getElem?_eq_some_iff.1 h1).1
  rcases drvM_get hb hdm x.toNat (by omega) with ⟨q,-⟩ | ⟨k,l,q1,q2,q3,-⟩
  ·rw [h1] at q
   injection q with q
   have:=hp.1;omega
  ·rw [h1] at q3
   injection q3 with q3
   have hk:k=p.toNat:=by omega
   subst hk
   rw [hws] at q1
   injection q1 with q1
   rw [<-q1,hxx] at q2
   exact q2
structure OrdOk (d:Flat) (by' o:List Int):Prop where
 inr:∀ i (p:Int),o[i]? = some p->Pin d p/\clkD d p=false/\p ∉ o.take i
 hang:∀ i (p:Int),o[i]? = some p->∀ r∈readsM d p,∀ q,by'[r.toNat]? = some q->Pin d q->clkD d q=false->q∈o.take i
theorem val2_us64 {ls:List Signal} (hls:∀ x∈ls,x.w<=64) {v:List Nat} (h:Val2 ls v):us64 v:=by
 intro x hx
 obtain ⟨k,hk,rfl⟩:=List.getElem_of_mem hx
 have h1:=h.2 (k:Int) (by omega) (by have:=h.1;omega)
 rw [Int.toNat_natCast,List.getD_eq_getElem?_getD,List.getElem?_eq_getElem hk,Option.getD_some] at h1
 have h2:=sigW_le ls hls (k:Int)
 exact Nat.lt_of_lt_of_le h1 (Nat.pow_le_pow_right (by decide) (show (sigW ls (k:Int)).toNat<=64 by omega))
theorem maskN_lt {hi lo:Nat} (h:lo<=hi) (h64:hi<64):maskN hi lo<18446744073709551616:=by
 show _<2^64
 refine Nat.lt_pow_two_of_testBit _ fun i hi'=>?_
 rw [maskN_testBit];simp;omega
theorem mask_shift {hi lo:Nat} (h:lo<=hi) (h64:hi<64):IntKind.u64.wrap ((18446744073709551615:Int).fdiv (2^(63-(hi-lo)))*2^lo)=((maskN hi lo:Nat):Int):=by
 have e1:(18446744073709551615:Int)=((18446744073709551615#64).toNat:Int):=by decide
 rw [e1,u_shr,u_shl]
 congr 1
 refine Nat.eq_of_testBit_eq fun i=>?_
 rw [maskN_testBit,<-BitVec.getLsbD,show (18446744073709551615#64)=BitVec.allOnes 64 from rfl]
 simp only [BitVec.getLsbD_shiftLeft,BitVec.getLsbD_ushiftRight,BitVec.getLsbD_allOnes]
 by_cases h1:i<lo
 ·simp [h1];omega
 ·by_cases h2:i<64
  ·simp only [h1,h2,decide_true,decide_false,Bool.not_false,Bool.true_and]
   rw [decide_eq_decide];omega
  ·simp only [h2,decide_false,Bool.false_and]
   symm;rw [decide_eq_false_iff_not];omega
theorem set_word {a hi lo x:Nat} (h:lo<=hi) (h64:hi<64) (ha:a<18446744073709551616) (hx:x<2^(hi+1-lo)) :
  bits .or .u64 (bits .and .u64 (a:Int) ((18446744073709551615-maskN hi lo:Nat):Int)) (IntKind.u64.wrap ((x:Int)*2^lo))=((setBits a hi lo x:Nat):Int):=by
 have hm:=maskN_lt h h64
 have hxl:2^lo*x<18446744073709551616:=by
  have h1:2^lo*x<2^lo*2^(hi+1-lo):=(Nat.mul_lt_mul_left (Nat.two_pow_pos _)).2 hx
  rw [<-Nat.pow_add] at h1
  have h2:2^(lo+(hi+1-lo))<=2^64:=Nat.pow_le_pow_right (by decide) (by omega)
  have:(2:Nat)^64=18446744073709551616:=by decide
  omega
 have hw:IntKind.u64.wrap ((x:Int)*2^lo)=((2^lo*x:Nat):Int):=by
  have:(x:Int)*2^lo=((2^lo*x:Nat):Int):=by push_cast;rw [Int.mul_comm]
  rw [this]
  obtain ⟨y,hy⟩:=u_nat hxl
  rw [<-hy,u_wrap]
 have hand:a &&& (18446744073709551615-maskN hi lo)<18446744073709551616:=Nat.lt_of_le_of_lt Nat.and_le_left ha
 rw [hw,n_and ha (by omega),n_or' hand hxl]
 congr 1
 have:=keep_or a hi lo x h h64 ha hx
 rw [show (2:Nat)^64-(maskN hi lo+1)=18446744073709551615-maskN hi lo by
  have:(2:Nat)^64=18446744073709551616:=by decide
  omega] at this
 exact this
abbrev W64 (x:Nat):Value:=.int .u64 (x:Int)
theorem appWord:AppT Tryz.prog 27 39 1 8:=⟨Tryz.underlying27,by kernel_rfl,by decide,by decide⟩
def WordRow (N:Nat) (v:Value) (l:List Nat) (w:World):Prop:=w.ownsRow N 39 1 v l.length (l.map (W64))
theorem WordRow.nil (N:Nat) (w:World):WordRow N (.slice none 0 0) [] w:=World.ownsRow_nil _ _ _ _
theorem WordRow.open {N:Nat} {v:Value} {l:List Nat} {w:World} (h:WordRow N v l w):∃ a cap,v=.slice a l.length cap/\(v.ownBlock=none->l=[]):=by
 rcases h.2 with ⟨rfl,h0⟩ | ⟨g,cap,cur,rfl,-⟩
 ·exact ⟨none,0,by rw [h0],fun _=>List.eq_nil_of_length_eq_zero h0⟩
 ·exact ⟨_,cap,rfl,fun h=>by cases h⟩
theorem WordRow.at {N:Nat} {v:Value} {l:List Nat} {w:World} (h:WordRow N v l w) {k:Nat} (hk:v.ownBlock=some k):N<=k/\∃ cur,w.heap[k]? = some (.cells cur 39 (0,0)):=by
 rcases h.2 with ⟨rfl,h0⟩ | ⟨g,cap,cur,rfl,hb,hg,-⟩
 ·cases hk
 ·cases hk;exact ⟨hb,cur,hg⟩
theorem WordRow.keep {N:Nat} {v:Value} {l:List Nat} {w w':World} (h:WordRow N v l w) (hk:∀ k,v.ownBlock=some k->∀ o,w.heap[k]? = some o->w'.heap[k]? = some o):WordRow N v l w':=by
 refine ⟨h.1,?_⟩
 rcases h.2 with hn | ⟨g,cap,cur,rfl,hb,hg,rest⟩
 ·exact .inl hn
 ·exact .inr ⟨g,cap,cur,rfl,hb,hk g rfl _ hg,rest⟩
theorem WordRow.ext {N:Nat} {v:Value} {l:List Nat} {w w':World} (h:WordRow N v l w) (hx:Ext w w'):WordRow N v l w' :=
 h.keep fun k _ _ ho=>(hx.block k (Array.getElem?_eq_some_iff.1 ho).1).trans ho
theorem WordRow.grown {N:Nat} {v:Value} {l:List Nat} {w w':World} {R:Option Nat} (h:WordRow N v l w) (hg:w.grownBy w' R) (hR:∀ k,v.ownBlock=some k->some k≠R):WordRow N v l w' :=
 h.keep fun k hk _ ho=>(hg.block k (Array.getElem?_eq_some_iff.1 ho).1 (hR k hk)).trans ho
theorem WordRow.less {N M:Nat} {v:Value} {l:List Nat} {w:World} (h:WordRow N v l w) (hM:M<=N):WordRow M v l w:=by
 refine ⟨h.1,?_⟩
 rcases h.2 with hn | ⟨g,cap,cur,rfl,hb,rest⟩
 ·exact .inl hn
 ·exact .inr ⟨g,cap,cur,rfl,Nat.le_trans hM hb,rest⟩
theorem flatW1 (l:List Nat):(l.map fun x=>[W64 x]).flatten=l.map (W64):=by
 induction l with
 | nil=>rfl
 | cons x l ih=>simp only [List.map_cons,List.flatten_cons,ih];rfl
theorem WordRow.cells {N:Nat} {v:Value} {l:List Nat} {w:World} (h:WordRow N v l w):Us w v l:=by
 rcases h.2 with ⟨rfl,h0⟩ | ⟨g,cap,cur,rfl,hb,hg,hnc,hcm,hcs,htake⟩
 ·obtain rfl:l=[]:=List.eq_nil_of_length_eq_zero h0
  exact Sl.nil _ _
 ·refine ⟨g,0,⟨_,cap,rfl,hnc,hcm,fun _=>rfl⟩,rows_flat (f:=fun x=>[W64 x]) (fun _=>rfl) l 0 ?_⟩
  have:=flat_own (N:=N) (cap:=cap) (size:=1) hg htake
  rw [flatW1];exact this
theorem WordRow.ne {N B:Nat} {v:Value} {cs:Array Value} {T:TypeId} {l:List Nat} {w:World} (h:WordRow N v l w) (hb:Blk w B cs T) (hT:(T==39)=false) {k:Nat} (hk:v.ownBlock=some k):k≠B:=by
 rintro rfl
 obtain ⟨-,cur,hcur⟩:=h.at hk
 have h2:w.heap[k]? = some (.cells cs T (0,0)):=hb
 rw [hcur] at h2
 injection h2 with h2
 injection h2 with _ h2
 subst h2
 exact absurd hT (by decide)
theorem run_appWI {w:World} {N:Nat} {v:Value} {l:List Nat} (hown:WordRow N v l w) {ty:TypeId} {ad:Addr} {m c:Nat} (hm:v=.slice none 0 0->0<m) {news:List Nat} (hl:news.length=m)
  (hnews:∀ j u,(news.map (W64))[j]? = some u->w.cell? (ad.add j)=some u) (hn:l.length+m<=1099511627776) (hbase:N<=w.heap.size) :
  ∃ g cap w',(Builtin.append_ #[27,27] ty #[v,.slice (some ad) m c]).run Tryz.prog w=.ok (.slice (some ⟨g,0,none⟩) (l.length+m) cap) w'/\WordRow N (.slice (some ⟨g,0,none⟩) (l.length+m) cap) (l++news) w'/\w.grownBy w' v.ownBlock:=by
 obtain ⟨ht,hinfo,hsz,hby⟩:=appWord
 cases hi:Tryz.prog.info? 39 with
 | none=>simp [hi] at hinfo
 | some i =>
  simp only [hi,Option.map_some,Option.some.injEq,Prod.mk.injEq] at hinfo
  obtain ⟨hz0,hs,hb⟩:=hinfo
  cases hz:i.zero with
  | none=>simp [hz] at hz0
  | some z =>
   simp only [hz,Option.map_some,Option.some.injEq] at hz0
   have h1':∀ u∈news.map (W64),u.oneCell'=true:=by
    intro u hu
    obtain ⟨x,-,rfl⟩:=List.mem_map.1 hu
    rfl
   obtain ⟨v',w',hr,h2,h3,h4⟩:=run_append_own (P:=Tryz.prog) w N 27 ty 39 i z 1 8 ht hi hz hs hb hz0 (by decide) v l.length _ hown ad m c (news.map (W64)) (by simp [hl]) hnews h1' (by simp only [maxLen];omega) (by omega) hbase
   have h5:WordRow N v' (l++news) w':=by unfold WordRow;rw [List.length_append,hl,List.map_append];exact h2
   rcases h2.2 with ⟨rfl,h0⟩ | ⟨g,cap,cur,rfl,-⟩
   ·have:=h4.1 rfl
    exact absurd (hm this.1) (by omega)
   ·exact ⟨g,cap,w',hr,h5,h3⟩
theorem wpList_appWI {ops:Array Oper} {rest:List Oper} {o:Oper} {a:Act} {w:World} {Q:Exit->Act->World->Prop} (hw:Region.wanted o (yielded ops a.tmps)=true) (s x:Operand)
  (ho:o.op=.call { callee:=.builtin .append,args:=#[s,x],argTypes:=#[27,27] }) {N:Nat} {v:Value} {l:List Nat} (hs:a.eval s=v) (hown:WordRow N v l w)
  {ad:Addr} {m c:Nat} (hx:a.eval x=.slice (some ad) m c) (hm:v=.slice none 0 0->0<m) {news:List Nat} (hl:news.length=m)
  (hnews:∀ j u,(news.map (W64))[j]? = some u->w.cell? (ad.add j)=some u) (hn:l.length+m<=1099511627776) (hbase:N<=w.heap.size)
  (h:∀ g cap w',WordRow N (.slice (some ⟨g,0,none⟩) (l.length+m) cap) (l++news) w'->w.grownBy w' v.ownBlock->wpList Tryz.prog ops Q rest (a.put o.dst (.slice (some ⟨g,0,none⟩) (l.length+m) cap)) w') :
  wpList Tryz.prog ops Q (o::rest) a w :=
 BigFrame.wpList_want hw fun _ hK=>by
  obtain ⟨g,cap,w',hr,h2,h3⟩:=run_appWI (ty:=o.type) (c:=c) hown hm hl hnews hn hbase
  unfold Oper.wp execOp
  simp only [ho,resolve,invoke,builtin,Sem.run_bind,Sem.run_pure,Result.andThen_ok,List.map_toArray,List.map_cons,List.map_nil,hs,hx]
  rw [hr]
  exact hK _ _ (h g cap w' h2 h3)
theorem run_appW {w:World} {N:Nat} {v:Value} {l:List Nat} (hown:WordRow N v l w) {ty:TypeId} {x:Value} {news:List Nat} (hx:Us w x news) (hn:l.length+news.length<=1099511627776) (hbase:N<=w.heap.size) :
  ∃ v' w',(Builtin.append_ #[27,27] ty #[v,x]).run Tryz.prog w=.ok v' w'/\WordRow N v' (l++news) w'/\w.grownBy w' v.ownBlock:=by
 obtain ⟨a,b,o,cap,rfl,hc1,hc2,ha,hr⟩:=hx.open
 by_cases h0:0<news.length
 ·obtain rfl:=ha h0
  obtain ⟨g,cap',w',h1,h2,h3⟩:=run_appWI (ty:=ty) (c:=cap) (m:=news.length) hown (fun _=>h0) rfl (ad:=⟨b,o,none⟩) (news:=news) (fun j u hj=>by
   rw [List.getElem?_map] at hj
   cases hq:news[j]? with
   | none=>rw [hq] at hj;cases hj
   | some y =>
    rw [hq] at hj
    have hadd:(⟨b,o,none⟩:Addr).add j=⟨b,o+j,none⟩:=by unfold Addr.add;split<;>simp_all
    rw [hadd]
    have:=(hr.get hq) 0 _ rfl
    simp only [Nat.mul_one,Nat.add_zero] at this
    rw [this]
    exact hj) hn hbase
  exact ⟨_,w',h1,h2,h3⟩
 ·obtain rfl:news=[]:=List.eq_nil_of_length_eq_zero (by omega)
  obtain ⟨ht,hinfo,hsz,hby⟩:=appWord
  cases hi:Tryz.prog.info? 39 with
  | none=>simp [hi] at hinfo
  | some i =>
   have hsrc:Src Tryz.prog i.size 27 (.slice a 0 cap) 0 [] w:=by
    cases a with
    | none=>exact Src.ofNil w ht cap
    | some a=>exact Src.ofSlice w ht a 0 cap [] (by simp) (by intro j u hj;simp at hj) (by simp)
   obtain ⟨av,cv,hv,-⟩:=hown.open
   have hle:l.length<=cv:=by
    rcases hown.2 with ⟨e,h0⟩ | ⟨g,c2,cur,e,hb,hg,hnc,-⟩
    ·rw [hv] at e;injection e with _ e2 e3;omega
    ·rw [hv] at e;injection e with _ e2 e3;omega
   refine ⟨v,w,?_,by rw [List.append_nil];exact hown,⟨rfl,rfl,rfl,Nat.le_refl _,fun _ _ _=>rfl⟩⟩
   rw [hv]
   exact run_append_nothing w 27 27 ty 39 i ht hi av l.length cv hle _ hsrc
theorem wpList_appW {ops:Array Oper} {rest:List Oper} {o:Oper} {a:Act} {w:World} {Q:Exit->Act->World->Prop} (hw:Region.wanted o (yielded ops a.tmps)=true) (s x:Operand)
  (ho:o.op=.call { callee:=.builtin .append,args:=#[s,x],argTypes:=#[27,27] }) {N:Nat} {v:Value} {l:List Nat} (hs:a.eval s=v) (hown:WordRow N v l w)
  {xv:Value} (hx:a.eval x=xv) {news:List Nat} (hnews:Us w xv news) (hn:l.length+news.length<=1099511627776) (hbase:N<=w.heap.size)
  (h:∀ v' w',WordRow N v' (l++news) w'->w.grownBy w' v.ownBlock->wpList Tryz.prog ops Q rest (a.put o.dst v') w') :
  wpList Tryz.prog ops Q (o::rest) a w :=
 BigFrame.wpList_want hw fun _ hK=>by
  obtain ⟨v',w',hr,h2,h3⟩:=run_appW (ty:=o.type) hown hnews hn hbase
  unfold Oper.wp execOp
  simp only [ho,resolve,invoke,builtin,Sem.run_bind,Sem.run_pure,Result.andThen_ok,List.map_toArray,List.map_cons,List.map_nil,hs,hx]
  rw [hr]
  exact hK _ _ (h v' w' h2 h3)
theorem WordRow.open1 {N:Nat} {v:Value} {l:List Nat} {w:World} (h:WordRow N v l w) (hl:0<l.length):∃ g cap,v=.slice (some ⟨g,0,none⟩) l.length cap/\N<=g/\∀ i x,l[i]? = some x->w.cell? ⟨g,i,none⟩=some (W64 x):=by
 rcases h.2 with ⟨rfl,h0⟩ | ⟨g,cap,cur,rfl,hb,hg,hnc,hcm,hcs,htake⟩
 ·omega
 ·refine ⟨g,cap,rfl,hb,fun i x hx=>?_⟩
  have:=flat_own (N:=N) (cap:=cap) (size:=1) hg htake i (W64 x) (by simp [hx])
  rwa [Nat.zero_add] at this
theorem WordRow.ofBlk {N g:Nat} {l:List Nat} {w:World} (h:Blk w g (l.map (W64)).toArray 39) (hN:N<=g) (hm:l.length<=9223372036854775807):WordRow N (.slice (some ⟨g,0,none⟩) l.length l.length) l w :=
 ⟨by simp,.inr ⟨g,l.length,_,rfl,hN,h,Nat.le_refl _,by simpa [maxLen] using hm,by simp,by rw [Nat.mul_one];exact List.take_of_length_le (by simp)⟩⟩
theorem WordRow.set {N g cap:Nat} {n:Nat} {l:List Nat} {w:World} (h:WordRow N (.slice (some ⟨g,0,none⟩) n cap) l w) (j:Nat) (hj:j<l.length) (x:Nat) :
  WordRow N (.slice (some ⟨g,0,none⟩) n cap) (l.set j x) (w.setCell ⟨g,j,none⟩ (W64 x)):=by
 rcases h.2 with ⟨e,h0⟩ | ⟨g',cap',cur,e,hb,hg,hnc,hcm,hcs,htake⟩
 ·cases e
 ·injection e with e1 e2 e3
  injection e1 with e1
  injection e1 with e1
  subst e1 e2 e3
  have hB:Blk w g cur 39:=hg
  refine ⟨by simp,.inr ⟨g,cap,cur.setIfInBounds j (W64 x),by rw [List.length_set],hb,hB.set j (W64 x),by rw [List.length_set];exact hnc,hcm,by rw [Array.size_setIfInBounds];exact hcs,?_⟩⟩
  rw [List.length_set,Array.toList_setIfInBounds,List.map_set,<-htake,List.take_set]
theorem WordRow.bs0 (w:World) {N:Nat} (hN:N<=w.heap.size):WordRow N (.slice (some ⟨w.heap.size,0,none⟩) 0 0) [] (w.alloc (.cells #[] 39)) :=
 ⟨rfl,.inr ⟨w.heap.size,0,#[],rfl,hN,Blk.new w #[] 39,Nat.le_refl _,by decide,rfl,rfl⟩⟩
theorem WordRow.made {w:World} {N n:Nat} {x:Nat} (hN:N<=w.heap.size) (hn:n<=9223372036854775807):WordRow N (.slice (some ⟨w.heap.size,0,none⟩) n n) (List.replicate n x) (w.alloc (.cells (List.replicate n (W64 x)).toArray 39)):=by
 have:=WordRow.ofBlk (N:=N) (l:=List.replicate n x) (g:=w.heap.size) (w:=w.alloc (.cells (List.replicate n (W64 x)).toArray 39)) (by rw [List.map_replicate];exact Blk.new _ _ _) hN (by simpa using hn)
 simpa using this
end Go.Proofs.YtoaamjgfhppppaaGreat
