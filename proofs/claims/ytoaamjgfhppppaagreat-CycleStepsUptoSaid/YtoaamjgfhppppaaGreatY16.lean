/- Laws and walks that a claim of this seat leans on: LawL, BehindL, MarkL, WsL, EvalM. -/
import Derived.Test.YtoaamjgfhppppaaGreatYLint
import Derived.Test.YtoaamjgfhppppaaGreatY15
import Derived.Test.YtoaamjgfhppppaaGreatY06
import Derived.Test.YtoaamjgfhppppaaGreatY08
import Derived.Test.YtoaamjgfhppppaaGreatY01
import Derived.Test.YtoaamjgfhppppaaGreatY00
set_option maxRecDepth 100000
set_option maxHeartbeats 8000000
set_option linter.all false
namespace Go.Proofs.YtoaamjgfhppppaaGreat
open Go.RowKit
/-! ### plain: what is always written is written -/
def WBit (offs:List Int) (l:List T) (x:Int):Prop:=∃ t∈eachT.eachTs l,t.op=1/\∃ j:Int,t.lo<=j/\j<=t.hi/\x=offs.getD t.sig.toNat 0+j
theorem mem_spansW (offs:List Int) (l:List T) (x:Int):x∈numbersM offs (spansW l)↔WBit offs l x:=by
 rw [mem_numbersM]
 unfold spansW wS WBit
 rw [List.take_length]
 constructor
 ·rintro ⟨s,hs,j,h1,h2,h3⟩
  obtain ⟨t,ht,rfl⟩:=List.mem_map.1 hs
  obtain ⟨ht,ho⟩:=List.mem_filter.1 ht
  exact ⟨t,ht,by simpa using ho,j,h1,h2,h3⟩
 ·rintro ⟨t,ht,ho,j,h1,h2,h3⟩
  exact ⟨ownS t,List.mem_map.2 ⟨t,List.mem_filter.2 ⟨ht,by simp [ho]⟩,rfl⟩,j,h1,h2,h3⟩
theorem mem_eachTs {l:List T} {x:T}:x∈eachT.eachTs l↔∃ t∈l,x∈eachT t:=by
 rw [eachTs_eq,List.mem_flatten]
 constructor
 ·rintro ⟨m,hm,hx⟩
  obtain ⟨t,ht,rfl⟩:=List.mem_map.1 hm
  exact ⟨t,ht,hx⟩
 ·rintro ⟨t,ht,hx⟩
  exact ⟨_,List.mem_map.2 ⟨t,ht,rfl⟩,hx⟩
theorem wbit_mono {offs:List Int} {l:List T} {t:T} {x:Int} (ht:t∈l) (h:WBit offs t.l x):WBit offs l x:=by
 obtain ⟨u,hu,r⟩:=h
 exact ⟨u,mem_eachTs.2 ⟨t,ht,by rw [eachT_eq];exact List.mem_cons_of_mem _ hu⟩,r⟩
theorem alt_sub (offs:List Int) (t:T):(∀ x∈alt offs t,WBit offs [t] x)/\∀ x∈alwM offs t.l,WBit offs t.l x:=by
 induction t using T.ind with
 | h t ih =>
  have hm:∀ x∈alwM offs t.l,WBit offs t.l x:=by
   intro x hx
   unfold alwM at hx
   rw [setI_mem] at hx
   unfold alwP at hx
   obtain ⟨m,hm,hx⟩:=List.mem_flatten.1 hx
   obtain ⟨y,hy,rfl⟩:=List.mem_map.1 hm
   obtain ⟨u,hu,r⟩:=(ih y hy).1 x hx
   obtain ⟨z,hz,hu⟩:=mem_eachTs.1 hu
   rw [List.mem_singleton.1 hz] at hu
   exact ⟨u,mem_eachTs.2 ⟨y,hy,hu⟩,r⟩
  refine ⟨fun x hx=>?_,hm⟩
  rw [alt_eq] at hx
  split at hx
  ·rename_i h1
   obtain ⟨s,hs,j,h2,h3,h4⟩:=(mem_numbersM _ _ _).1 hx
   rw [List.mem_singleton.1 hs] at h2 h3 h4
   exact ⟨t,mem_eachTs.2 ⟨t,by simp,by rw [eachT_eq];simp⟩,h1,j,h2,h3,h4⟩
  ·split at hx
   ·unfold metM at hx
    have hx:=(List.mem_filter.1 hx).1
    cases hl:t.l with
    | nil=>rw [hl] at hx;simp at hx
    | cons y r =>
     rw [hl] at hx
     simp only [List.map_cons,List.headD_cons] at hx
     have hy:y∈t.l:=by rw [hl];simp
     exact wbit_mono (by simp) (wbit_mono hy ((ih y hy).2 x hx))
   ·exact wbit_mono (by simp) (hm x hx)
theorem alwaysM_sub (d:Flat) (p:Int):∀ x∈alwaysM d p,x∈writesM d p:=by
 intro x hx
 unfold writesM
 rw [mem_spansW]
 exact (alt_sub (offsD d) ⟨0,0,0,0,[],procL d p⟩).2 x hx
theorem writes_always {d:Flat} {p:Int} (h:(writesM d p).length=(alwaysM d p).length):∀ x∈writesM d p,x∈alwaysM d p :=
 nodup_full _ _ (lt_nodup (setI_lt _)) (alwaysM_sub d p) (by omega)
theorem latF_false {d:Flat} (h:latF d 0 d.procs=false):∀ k (hk:k<d.procs.length),d.procs[k].clocked=false->(writesM d (k:Int)).length=(alwaysM d (k:Int)).length:=by
 have key:∀ (l:List Proc) (p:Nat),latF d p l=false->∀ i (hi:i<l.length),l[i].clocked=false->(writesM d ((p+i:Nat):Int)).length=(alwaysM d ((p+i:Nat):Int)).length:=by
  intro l
  induction l with
  | nil=>intro p _ i hi;simp at hi
  | cons x l ih =>
   intro p h i hi hc
   rw [latF] at h
   split at h
   ·cases h
   ·rename_i hx
    cases i with
    | zero =>
     simp at hc
     simpa [hc] using hx
    | succ i =>
     have:=ih (p+1) h i (by simpa using hi) (by simpa using hc)
     rw [show p+(i+1)=p+1+i by omega]
     exact this
 intro k hk hc
 simpa using key d.procs 0 h k hk hc
theorem noneF_false {d:Flat} {by':List Int} (h:noneF d.signals by' 0 d.signals=false):∀ s (hs:s<d.signals.length),d.signals[s].kind=2\/d.signals[s].kind=3->(-1) ∉ subM d.signals by' s:=by
 have key:∀ (l:List Signal) (p:Nat),noneF d.signals by' p l=false->∀ i (hi:i<l.length),l[i].kind=2\/l[i].kind=3->(-1) ∉ subM d.signals by' (p+i):=by
  intro l
  induction l with
  | nil=>intro p _ i hi;simp at hi
  | cons x l ih =>
   intro p h i hi hc
   rw [noneF] at h
   split at h
   ·cases h
   ·rename_i hx
    cases i with
    | zero =>
     simp at hc
     simpa [hc] using hx
    | succ i =>
     have:=ih (p+1) h i (by simpa using hi) (by simpa using hc)
     rw [show p+(i+1)=p+1+i by omega]
     exact this
 intro s hs hc
 simpa using key d.signals 0 h s hs hc
/-! ### plain: who may be written -/
def KindOk (ls:List Signal) (ck:Bool) (t:T):Prop:=t.op=1->kindOf ls t.sig≠1/\ck=decide (kindOf ls t.sig=4)
theorem accum_zero {α β:Type} (f:Int->α->β × Int) (P:α->Prop) (l:List α) (h:∀ x∈l,∀ s,(f s x).2=0->s=0/\P x):∀ s,(accum f s l).2=0->s=0/\∀ x∈l,P x:=by
 induction l with
 | nil=>intro s hs;exact ⟨hs,by simp⟩
 | cons x l ih =>
  intro s hs
  rw [accum] at hs
  obtain ⟨h1,h2⟩:=ih (fun y hy=>h y (by simp [hy])) _ hs
  obtain ⟨h3,h4⟩:=h x (by simp) s h1
  refine ⟨h3,fun y hy=>?_⟩
  rcases List.mem_cons.1 hy with e | hy
  ·rw [e];exact h4
  ·exact h2 y hy
theorem szE_zero (err w:Int) (e:E) (h:(szE err e w).2=0):err=0:=by
 unfold szE at h
 split at h
 ·exact h
 ·rename_i h0;simpa using h0
theorem szT_zero (ls:List Signal) (ck:Bool) (t:T):∀ lab err,(szT ls ck t lab err).2=0->err=0/\∀ x∈eachT t,KindOk ls ck x:=by
 induction t using T.ind with
 | h t ih =>
  intro lab err h
  rw [szT_eq] at h
  simp only [szTL] at h
  obtain ⟨h1,h2⟩:=accum_zero _ (fun x=>∀ y∈eachT x,KindOk ls ck y) t.l (fun x hx s hs=>ih x hx _ s hs) _ h
  unfold szEs at h1
  obtain ⟨h3,-⟩:=accum_zero _ (fun _=>True) t.e (fun x _ s hs=>⟨szE_zero s _ x hs,trivial⟩) _ h1
  unfold szErr0 at h3
  split at h3
  ·exact absurd h3 (by decide)
  ·rename_i hn
   refine ⟨h3,fun x hx=>?_⟩
   rw [eachT_eq] at hx
   rcases List.mem_cons.1 hx with e | hx
   ·rw [e]
    intro ho
    have hn':¬ (kindOf ls t.sig=1\/ck≠decide (kindOf ls t.sig=4)):=fun hh=>hn ⟨ho,h3,hh⟩
    refine ⟨fun e=>hn' (.inl e),Decidable.byContradiction fun e=>hn' (.inr e)⟩
   ·obtain ⟨y,hy,hx⟩:=mem_eachTs.1 hx
    exact h2 y hy x hx
theorem kinds_of_check {d:Flat} (h:checkM d=0):∀ p∈d.procs,∀ t∈eachT.eachTs p.l,KindOk d.signals p.clocked t:=by
 have h0:∃ y,sizeD d=.ok y:=by
  unfold checkM at h
  cases hs:sizeD d with
  | error g =>
   exfalso
   rw [hs] at h
   simp only at h
   subst h
   unfold sizeD at hs
   repeat' split at hs
   all_goals first | (cases hs;done) | (injection hs with hs;first | exact absurd hs (by decide) | (rename_i hne;exact hne hs))
  | ok y=>exact ⟨y,rfl⟩
 obtain ⟨y,hy⟩:=h0
 have hz:(szCs (szPs d.signals 0 d.procs).2 d.checks).2=0:=by
  unfold sizeD at hy
  repeat' split at hy
  all_goals first | (cases hy;done) | skip
  rename_i hz
  simpa using hz
 unfold szCs at hz
 obtain ⟨h1,-⟩:=accum_zero (fun s (c:Chk)=>((⟨c.name,(szE s c.e (-1)).1⟩:Chk),(szE s c.e (-1)).2)) (fun _=>True) d.checks (fun x _ s hs=>⟨szE_zero s (-1) x.e hs,trivial⟩) _ hz
 unfold szPs at h1
 obtain ⟨-,h2⟩:=accum_zero _ (fun p:Proc=>∀ t∈eachT.eachTs p.l,KindOk d.signals p.clocked t) d.procs (fun p _ s hs=>by
  simp only [szTL] at hs
  obtain ⟨h3,h4⟩:=accum_zero _ (fun x=>∀ y∈eachT x,KindOk d.signals p.clocked y) p.l (fun x _ s hs=>szT_zero _ _ x _ s hs) _ hs
  refine ⟨h3,fun t ht=>?_⟩
  obtain ⟨z,hz,ht⟩:=mem_eachTs.1 ht
  exact h4 z hz t ht) _ h1
 exact h2
/-! ### plain: each bit has one -/
theorem driven {d:Flat} (hok:d.ok) (hl:(lookM d).1=0) {by':List Int} (hd:drvD d=(0,by')):∀ s (hs:s<d.signals.length) (i:Nat),sumW d.signals s<=i->(i:Int)<sumW d.signals (s+1) ->
  ∃ p,by'[i]? = some p/\-1<=p/\p<d.procs.length/\(d.signals[s].kind=1->p = -1)/\(d.signals[s].kind=4->0<=p->∃ h:p.toNat<d.procs.length,d.procs[p.toNat].clocked=true) /\
   (d.signals[s].kind=2\/d.signals[s].kind=3->0<=p/\∃ h:p.toNat<d.procs.length,d.procs[p.toNat].clocked=false/\(i:Int)∈alwaysM d p):=by
 obtain ⟨hck,by2,hd2,hdm,hnone,hlat,-⟩:=lookM_zero hok hl
 have hbe:by2=by':=by rw [hd] at hd2;injection hd2 with _ e;exact e.symm
 subst hbe
 have hw:=checkM_w hck
 intro s hs i h1 h2
 have hnb:=nBits_le hok hck
 have hmono:=sumW_mono d.signals hw (s+1) d.signals.length (by omega) (Nat.le_refl _)
 have hin:i<(nBits d).toNat:=by unfold nBits at *;omega
 have hlen:=drvD_len hok hck hdm
 have hil:i<by2.length:=by omega
 obtain ⟨p,hp⟩:∃ p,by2[i]? = some p:=⟨_,List.getElem?_eq_getElem hil⟩
 have hpr:=hlen.2 p (List.mem_of_getElem? hp)
 have key:0<=p->∃ h:p.toNat<d.procs.length,(i:Int)∈writesM d p/\kindOf d.signals s≠1/\d.procs[p.toNat].clocked=decide (kindOf d.signals s=4):=by
  intro h0
  rcases drvM_get (wsM_range hok hck) hdm i hin with ⟨q1,-⟩ | ⟨k,l,q1,q2,q3,-⟩
  ·rw [hp] at q1;injection q1 with q1;omega
  ·rw [hp] at q3
   injection q3 with q3
   subst q3
   have hk:k<d.procs.length:=by have:=(List.getElem?_eq_some_iff.1 q1).1;rwa [wsM_length] at this
   have hle:l=writesM d (k:Int):=by
    unfold wsM at q1
    rw [List.getElem?_map,List.getElem?_range hk] at q1
    simpa using q1.symm
   subst hle
   refine ⟨by simpa using hk,q2,?_⟩
   have q2':=q2
   unfold writesM at q2'
   rw [mem_spansW] at q2'
   obtain ⟨t,ht,ho,j,g1,g2,g3⟩:=q2'
   rw [procL_get (by simpa using hk)] at ht
   have hD:=procD_of hok hck k hk
   simp only [Int.toNat_natCast] at ht ⊢
   have hsp:=slice_span (((StD_iff _ _).1 (hD.each t ht)).1 ho)
   obtain ⟨r1,r2,r3⟩:=span_bits d.signals hsp g1 g2
   simp only at r1 r2 r3
   have hse:s=t.sig.toNat:=by
    unfold offsD at g3
    exact sumW_uniq d.signals hw hs r1 h1 h2 (by omega) (by omega)
   have hko:=kinds_of_check hck _ (List.getElem_mem hk) t ht ho
   have hsig:((s:Nat):Int)=t.sig:=by have:=hsp.1;simp only at this;omega
   rw [hsig]
   exact hko
 have hkind:kindOf d.signals (s:Int)=d.signals[s].kind:=by
  unfold kindOf;rw [Int.toNat_natCast,List.getElem?_eq_getElem hs]
 rw [hkind] at key
 refine ⟨p,hp,hpr.1,hpr.2,fun hk=>?_,fun hk h0=>?_,fun hk=>?_⟩
 ·refine Decidable.byContradiction fun hne=>?_
  obtain ⟨-,-,h3,-⟩:=key (by omega)
  exact h3 hk
 ·obtain ⟨h,-,-,h4⟩:=key h0
  exact ⟨h,by rw [h4,hk];decide⟩
 ·have hp1:p ≠ -1:=by
   rintro rfl
   have hb0:=(sumW_le d.signals hw s (by omega)).1
   refine noneF_false hnone s hs hk ?_
   unfold subM
   refine List.mem_of_getElem? (i:=i-(sumW d.signals s).toNat) ?_
   rw [List.getElem?_take,if_pos (by omega),List.getElem?_drop,show (sumW d.signals s).toNat+(i-(sumW d.signals s).toNat)=i by omega]
   exact hp
  have h0:0<=p:=by omega
  obtain ⟨h,h2,-,h4⟩:=key h0
  have hcl:d.procs[p.toNat].clocked=false:=by
   rw [h4]
   rcases hk with e | e<;>rw [e]<;>decide
  refine ⟨h0,h,hcl,?_⟩
  have hlq:=latF_false hlat p.toNat h hcl
  rw [show ((p.toNat:Nat):Int)=p by omega] at hlq
  exact writes_always hlq _ h2
/-! ### plain: each stands behind those on which it hangs -/
theorem ckL_spec (l:List Proc):∀ p q,q∈ckL p l↔∃ i,∃ h:i<l.length,q=((p+i:Nat):Int)/\l[i].clocked=true:=by
 induction l with
 | nil=>intro p q;simp [ckL]
 | cons x l ih =>
  intro p q
  have key:(∃ i,∃ h:i<(x::l).length,q=((p+i:Nat):Int)/\(x::l)[i].clocked=true)↔(q=(p:Int)/\x.clocked=true)\/∃ i,∃ h:i<l.length,q=((p+1+i:Nat):Int)/\l[i].clocked=true:=by
   constructor
   ·rintro ⟨i,h,h1,h2⟩
    cases i with
    | zero=>exact .inl ⟨by simpa using h1,by simpa using h2⟩
    | succ i=>exact .inr ⟨i,by simpa using h,by rw [h1];congr 1;omega,by simpa using h2⟩
   ·rintro (⟨h1,h2⟩ | ⟨i,h,h1,h2⟩)
    ·exact ⟨0,by simp,by simpa using h1,by simpa using h2⟩
    ·exact ⟨i+1,by simpa using h,by rw [h1];congr 1;omega,by simpa using h2⟩
  rw [key,ckL]
  split
  ·rename_i hc
   rw [List.mem_cons,ih]
   simp [hc]
  ·rename_i hc
   rw [ih]
   simp [hc]
theorem ckL_lt (l:List Proc):∀ p,(ckL p l).Pairwise (·<·):=by
 induction l with
 | nil=>intro p;simp [ckL]
 | cons x l ih =>
  intro p
  rw [ckL]
  split
  ·refine List.pairwise_cons.2 ⟨fun q hq=>?_,ih (p+1)⟩
   have:=ckL_mem l (p+1) q hq
   omega
  ·exact ih (p+1)
theorem clks_get (d:Flat) {k:Nat} (hk:k<d.procs.length):(clks d).getD k false=d.procs[k].clocked:=by
 unfold clks;rw [List.getD_eq_getElem?_getD,List.getElem?_map,List.getElem?_eq_getElem hk];rfl
structure Behind (d:Flat) (by' o lev:List Int):Prop where
 len:lev.length=d.procs.length
 olen:o.length<=d.procs.length
 inr:∀ i p,o[i]? = some p->0<=p/\∃ h:p.toNat<d.procs.length,d.procs[p.toNat].clocked=false/\p ∉ o.take i
 hang:∀ i p,o[i]? = some p->∀ r∈readsM d p,∀ q,by'[r.toNat]? = some q->0<=q->∀ h:q.toNat<d.procs.length,d.procs[q.toNat].clocked=false->q∈o.take i/\lev.getD q.toNat 0<lev.getD p.toNat 0
 all:∀ k (h:k<d.procs.length),d.procs[k].clocked=false->(k:Int)∈o
theorem behind {d:Flat} (hok:d.ok) (hl:(lookM d).1=0) {by':List Int} (hd:drvD d=(0,by')):Behind d by' (lookM d).2.2 (levD d).2:=by
 obtain ⟨hck,by2,hd2,hdm,hnone,hlat,hG,hO,hwo⟩:=lookM_zero hok hl
 have hbe:by2=by':=by rw [hd] at hd2;injection hd2 with _ e;exact e.symm
 subst hbe
 have hlev:(levD d).2=levs (graphM d by2) (ordM (graphM d by2) (clks d)++ckL 0 d.procs) (List.replicate (graphM d by2).length 0):=by
  unfold levD;rw [if_neg (by rw [hl];decide),hG,hO]
 rw [hO,hlev]
 have hgl:=graphM_length d by2
 have hbl:=drvD_len hok hck hdm
 have hgr:=graphM_range hok hck hbl.1 hbl.2
 obtain ⟨G,hGe⟩:∃ G,graphM d by2=G:=⟨_,rfl⟩
 have hGget:∀ k (hk:k<d.procs.length),G.getD k []=hang1 by2 (clks d) (readsM d (k:Int)) []:=fun k hk=>by
  rw [<-hGe,List.getD_eq_getElem?_getD,graphM_get d by2 hk];rfl
 rw [hGe] at hgl hgr hwo ⊢
 obtain ⟨come',hord,-⟩:=orderM_spec G (clks d) (G.length+1) (List.replicate G.length false) [] (Ord.nil G (clks d)) (by have:=falses_le (List.replicate G.length false);simp at this;omega)
 rw [show orderM G (clks d) (G.length+1) (List.replicate G.length false) []=ordM G (clks d) from rfl] at hord
 generalize ordM G (clks d)=o at *
 have hclk:∀ p∈o,∃ h:p.toNat<d.procs.length,d.procs[p.toNat].clocked=false:=fun p hp=>by
  obtain ⟨h1,h2,h3⟩:=hord.inr p hp
  have h:p.toNat<d.procs.length:=by omega
  exact ⟨h,by rw [<-clks_get d h];exact h3⟩
 have hsub:∀ x∈o,x∈((List.range d.procs.length).map fun (k:Nat)=>(k:Int)):=fun x hx=>by
  obtain ⟨h1,h2,-⟩:=hord.inr x hx
  exact List.mem_map.2 ⟨x.toNat,List.mem_range.2 (by omega),by omega⟩
 have holen:o.length<=d.procs.length:=by
  have:=nodup_le o _ hord.nodup hsub
  simpa using this
 have hall:∀ k (h:k<d.procs.length),d.procs[k].clocked=false->(k:Int)∈o:=by
  have hw:=wires_list (clks d)
  have hcl:(clks d).length=d.procs.length:=by simp [clks]
  intro k hk hc
  refine nodup_full o (((List.range (clks d).length).filter fun p=>!(clks d).getD p false).map fun (k:Nat)=>(k:Int)) hord.nodup ?_ (by rw [List.length_map,hw];exact hwo) (k:Int) ?_
  ·intro x hx
   obtain ⟨h,h2⟩:=hclk x hx
   have h1:=(hord.inr x hx).1
   refine List.mem_map.2 ⟨x.toNat,List.mem_filter.2 ⟨List.mem_range.2 (by omega),?_⟩,by omega⟩
   rw [clks_get d h,h2];rfl
  ·exact List.mem_map.2 ⟨k,List.mem_filter.2 ⟨List.mem_range.2 (by omega),by rw [clks_get d hk,hc];rfl⟩,rfl⟩
 have hmemG:∀ p:Int,p.toNat<d.procs.length->∀ q∈G.getD p.toNat [],0<=q/\∃ h:q.toNat<d.procs.length,d.procs[q.toNat].clocked=false:=by
  intro p hp q hq
  rw [hGget p.toNat hp] at hq
  obtain ⟨h1,h2,-⟩:=(mem_hang _ _ _ _).1 hq
  have hlt:q.toNat<d.procs.length:=by
   have h3:G[p.toNat]? = some (hang1 by2 (clks d) (readsM d (p.toNat:Int)) []):=by rw [<-hGe];exact graphM_get d by2 hp
   have:=(hgr _ (List.mem_of_getElem? h3)).2 q hq
   omega
  exact ⟨h1,hlt,by rw [<-clks_get d hlt];exact h2⟩
 have hck0:∀ q∈ckL 0 d.procs,0<=q/\∃ h:q.toNat<d.procs.length,d.procs[q.toNat].clocked=true:=by
  intro q hq
  obtain ⟨i,h,h1,h2⟩:=(ckL_spec _ _ _).1 hq
  have hqi:q.toNat=i:=by omega
  refine ⟨by omega,by omega,?_⟩
  simp only [hqi];exact h2
 have hnd:(o++ckL 0 d.procs).Nodup:=by
  rw [List.nodup_append]
  refine ⟨hord.nodup,lt_nodup (ckL_lt _ _),fun a ha b hb e=>?_⟩
  subst e
  obtain ⟨_,h2⟩:=hclk a ha
  obtain ⟨-,_,h4⟩:=hck0 a hb
  rw [h2] at h4;cases h4
 have hlevgt:=levs_gt G (o++ckL 0 d.procs) (List.replicate G.length 0) (fun p hp=>by
   rw [List.length_replicate,hgl]
   rcases List.mem_append.1 hp with hp | hp
   ·obtain ⟨h,-⟩:=hclk p hp;exact ⟨(hord.inr p hp).1,h⟩
   ·obtain ⟨h1,h2,-⟩:=hck0 p hp;exact ⟨h1,h2⟩) hnd (fun i p hp q hq p' hp' e=>by
   have hpm:=List.mem_of_getElem? hp
   have hpl:p.toNat<d.procs.length:=by
    rcases List.mem_append.1 hpm with h | h
    ·exact (hclk p h).1
    ·exact (hck0 p h).2.1
   obtain ⟨hq0,hqlt,hqc⟩:=hmemG p hpl q hq
   have hp'0:0<=p':=by
    rcases List.mem_append.1 (List.mem_of_mem_drop hp') with h | h
    ·exact (hord.inr p' h).1
    ·exact (hck0 p' h).1
   have hqp:q=p':=by omega
   subst hqp
   by_cases hi:i<o.length
   ·rw [List.getElem?_append_left hi] at hp
    have h1:=hord.behind i p hp q hq
    rw [show ((q.toNat:Nat):Int)=q by omega] at h1
    rw [List.drop_append_of_le_length (by omega)] at hp'
    have h2:=hord.nodup
    rw [<-List.take_append_drop i o,List.nodup_append] at h2
    rcases List.mem_append.1 hp' with h | h
    ·exact h2.2.2 q h1 q h rfl
    ·obtain ⟨-,_,h4⟩:=hck0 q h
     rw [hqc] at h4;cases h4
   ·have:q∈ckL 0 d.procs:=by
     rw [List.drop_append,List.drop_of_length_le (by omega),List.nil_append] at hp'
     exact List.mem_of_mem_drop hp'
    obtain ⟨-,_,h4⟩:=hck0 q this
    rw [hqc] at h4;cases h4)
 refine ⟨by rw [levs_length,List.length_replicate,hgl],holen,fun i p hp=>?_,fun i p hp r hr q hq hq0 hqlt hqc=>?_,hall⟩
 ·have hpm:=List.mem_of_getElem? hp
  obtain ⟨h,h2⟩:=hclk p hpm
  refine ⟨(hord.inr p hpm).1,h,h2,fun hin=>?_⟩
  have hn:=hord.nodup
  rw [<-List.take_append_drop i o,List.nodup_append] at hn
  refine hn.2.2 p hin p ?_ rfl
  obtain ⟨hi,rfl⟩:=List.getElem?_eq_some_iff.1 hp
  exact (List.drop_eq_getElem_cons hi) ▸ List.mem_cons_self
 ·have hpm:=List.mem_of_getElem? hp
  obtain ⟨h,h2⟩:=hclk p hpm
  have hp0:=(hord.inr p hpm).1
  have hqG:q∈G.getD p.toNat []:=by
   rw [hGget p.toNat h,mem_hang]
   refine ⟨hq0,by rw [clks_get d hqlt];exact hqc,r,by rw [show ((p.toNat:Nat):Int)=p by omega];exact hr,?_⟩
   rw [List.getD_eq_getElem?_getD,hq];rfl
  have h1:=hord.behind i p hp q hqG
  rw [show ((q.toNat:Nat):Int)=q by omega] at h1
  exact ⟨h1,hlevgt p (by simp [hpm]) q hqG⟩
/-! ### marks: of the numbers below n those that a list has -/
def setB (n:Nat) (S:List Int):List Bool:=(List.range n).map fun (i:Nat)=>decide ((i:Int)∈S)
def markedK (bl:List Bool) (k:Nat):List Int:=((List.range k).filter fun i=>bl.getD i false).map fun (i:Nat)=>(i:Int)
/-! ### what a span marks, number by number -/
def numsK (offs:List Int) (s:Span) (k:Nat):List Int:=(List.range k).map fun (j:Nat)=>offs.getD s.sig.toNat 0+(s.lo+(j:Int))
/-! ### all that is marked stands in the design -/
theorem allNums_append (offs:List Int) (xs ys:List Span):allNums offs (xs++ys)=allNums offs xs++allNums offs ys:=by
 unfold allNums;rw [List.map_append,List.flatten_append]
def wsN (ls:List Signal) (op w v sig hi lo n:Int) (ws:List Int):Prop :=
 (op=1/\ws=[]/\1<=w/\w<=64/\holds w v=true/\sig=0/\hi=0/\lo=0/\n=0) \/
 (op=2/\ws=[]/\slice ls sig hi lo=true/\w=hi-lo+1/\v=0/\n=0) \/
 (op=3/\(∃ k,ws=[k])/\0<=sig/\sig<ls.length/\w=1/\v=0/\hi=0/\lo=0/\n=0) \/
 (op=4/\(∃ k,ws=[k]/\(1<=n/\n<=2/\k=w\/3<=n/\n<=5/\w=1\/n=6/\w=1/\k=1))/\v=0/\sig=0/\hi=0/\lo=0) \/
 (op=5/\(∃ j k,ws=[j,k]/\(11<=n/\n<=16/\j=w/\k=w\/17<=n/\n<=18/\j=w\/19<=n/\n<=24/\w=1/\j=k\/25<=n/\n<=26/\w=1/\j=1/\k=1))/\v=0/\sig=0/\hi=0/\lo=0) \/
 (op=6/\ws=[1,w,w]/\v=0/\sig=0/\hi=0/\lo=0/\n=0) \/
 (op=7/\ws≠[]/\w=ws.sum/\w<=64/\v=0/\sig=0/\hi=0/\lo=0/\n=0) \/
 (op=8/\(∃ k,ws=[k]/\(31<=n/\n<=32/\k<=w\/n=33/\w<=k))/\1<=w/\w<=64/\v=0/\sig=0/\hi=0/\lo=0)
def WS (ls:List Signal):E->Prop
 | ⟨op,w,v,sig,hi,lo,n,l⟩=>wsN ls op w v sig hi lo n (l.map (·.w))/\all l
where all:List E->Prop
 | []=>True
 | e::l=>WS ls e/\all l
theorem WS_iff (ls:List Signal) (e:E):WS ls e↔wsN ls e.op e.w e.v e.sig e.hi e.lo e.n (e.l.map (·.w))/\∀ x∈e.l,WS ls x:=by
 have h:∀ l,WS.all ls l↔∀ x∈l,WS ls x:=by
  intro l;induction l with
  | nil=>simp [WS.all]
  | cons x l ih=>simp [WS.all,ih]
 cases e;simp [WS,h]
theorem map1 {α β:Type} {f:α->β} {l:List α} {a:β} (h:l.map f=[a]):∃ x,l=[x]/\f x=a:=by
 cases l with
 | nil=>cases h
 | cons x l=>simp at h;exact ⟨x,by rw [h.2],h.1⟩
theorem map2 {α β:Type} {f:α->β} {l:List α} {a b:β} (h:l.map f=[a,b]):∃ x y,l=[x,y]/\f x=a/\f y=b:=by
 cases l with
 | nil=>cases h
 | cons x l =>
  simp only [List.map_cons,List.cons.injEq] at h
  obtain ⟨y,rfl,h2⟩:=map1 h.2
  exact ⟨x,y,rfl,h.1,h2⟩
theorem map3 {α β:Type} {f:α->β} {l:List α} {a b c:β} (h:l.map f=[a,b,c]):∃ x y z,l=[x,y,z]/\f x=a/\f y=b/\f z=c:=by
 cases l with
 | nil=>cases h
 | cons x l =>
  simp only [List.map_cons,List.cons.injEq] at h
  obtain ⟨y,z,rfl,h2,h3⟩:=map2 h.2
  exact ⟨x,y,z,rfl,h.1,h2,h3⟩
theorem own_cat_sum (l:List E) (h:∀ x∈l,own x=x.w/\1<=x.w):∀ n,own.cat l n=n+(l.map (·.w)).sum:=by
 induction l with
 | nil=>intro n;simp [own.cat]
 | cons x l ih =>
  intro n
  have hx:=h x (by simp)
  rw [own.cat,if_neg (by omega),ih (fun y hy=>h y (by simp [hy]))]
  simp only [List.map_cons,List.sum_cons]
  omega
theorem sum_pos (l:List E) (h:∀ x∈l,1<=x.w):(l.length:Int)<=(l.map (·.w)).sum:=by
 induction l with
 | nil=>simp
 | cons x l ih =>
  have:=h x (by simp)
  have:=ih fun y hy=>h y (by simp [hy])
  simp only [List.map_cons,List.sum_cons,List.length_cons]
  omega
theorem ws_own {ls:List Signal} (hls:∀ x∈ls,x.w<=64) (e:E):WS ls e->own e=e.w/\1<=e.w/\e.w<=64:=by
 induction e using E.ind with
 | h e ih =>
  intro h
  obtain ⟨h0,hp⟩:=(WS_iff ls e).1 h
  have ih2:=fun x hx=>ih x hx (hp x hx)
  clear ih hp h
  rw [own_eq]
  obtain ⟨op,w,v,sig,hi,lo,n,l⟩:=e
  simp only at h0 ih2 ⊢
  rcases h0 with ⟨rfl,-,h1,h2,-⟩ | ⟨rfl,-,h1,h2,-⟩ | ⟨rfl,⟨k,hk⟩,-,-,rfl,-⟩ | ⟨rfl,⟨k,hk,h1⟩,-⟩ | ⟨rfl,⟨j,k,hk,h1⟩,-⟩ | ⟨rfl,hk,-⟩ | ⟨rfl,h1,h2,h3,-⟩ | ⟨rfl,⟨k,hk,h1⟩,h2,h3,-⟩
  ·simp;omega
  ·have:=slice_le ls hls h1
   have:=sigW_le ls hls sig
   simp;omega
  ·simp
  ·obtain ⟨x,rfl,rfl⟩:=map1 hk
   have:=ih2 x (by simp)
   rcases h1 with ⟨a1,a2,a3⟩ | ⟨a1,a2,a3⟩ | ⟨rfl,a2,a3⟩
   ·simp [a2,own.hd];omega
   ·simp [show ¬ n<=2 by omega];omega
   ·simp;omega
  ·obtain ⟨x,y,rfl,rfl,rfl⟩:=map2 hk
   have hx:=ih2 x (by simp)
   have hy:=ih2 y (by simp)
   rcases h1 with ⟨a1,a2,a3,a4⟩ | ⟨a1,a2,a3⟩ | ⟨a1,a2,a3,a4⟩ | ⟨a1,a2,a3,a4⟩
   ·simp [a2,own.fst,show ¬ own x=0 by omega];omega
   ·simp [show ¬ n<=16 by omega,a2,own.hd];omega
   ·simp [show ¬ n<=16 by omega,show ¬ n<=18 by omega];omega
   ·simp [show ¬ n<=16 by omega,show ¬ n<=18 by omega];omega
  ·obtain ⟨c,x,y,rfl,hc,hx,hy⟩:=map3 hk
   have:=ih2 x (by simp)
   simp [own.fst2,own.fst,show ¬ own x=0 by omega];omega
  ·have hs:=sum_pos l (fun x hx=>(ih2 x hx).2.1)
   have hl:0<l.length:=by cases l with
    | nil=>exact absurd rfl h1
    | cons=>simp
   simp
   rw [own_cat_sum l (fun x hx=>⟨(ih2 x hx).1,(ih2 x hx).2.1⟩)]
   omega
  ·simp;omega
theorem sizeL_rep0 (l:List E) (h:∀ x∈l,sizeE x 0=.ok x):sizeE.sizeL l (List.replicate l.length 0)=.ok l:=by
 induction l with
 | nil=>rfl
 | cons x l ih =>
  simp only [List.length_cons,List.replicate_succ,sizeE.sizeL,List.headD_cons,List.tail_cons,h x (by simp),ih (fun y hy=>h y (by simp [hy]))]
theorem sizeL_inv {x y:E} {l r:List E} {ps:List Int} (h:sizeE.sizeL (x::l) ps=.ok (y::r)):sizeE x (ps.headD 0)=.ok y/\sizeE.sizeL l ps.tail=.ok r:=by
 rw [sizeE.sizeL] at h
 cases hx:sizeE x (ps.headD 0) with
 | error f=>simp only [hx] at h;cases h
 | ok x' =>
  simp only [hx] at h
  cases hl:sizeE.sizeL l ps.tail with
  | error f=>simp only [hl] at h;cases h
  | ok r' =>
   simp only [hl] at h
   injection h with h
   injection h with h1 h2
   rw [h1,h2];exact ⟨rfl,rfl⟩
theorem sizeL_rep_inv (k:Int) (l:List E) (h:sizeE.sizeL l (List.replicate l.length k)=.ok l):∀ x∈l,sizeE x k=.ok x:=by
 induction l with
 | nil=>simp
 | cons x l ih =>
  obtain ⟨h1,h2⟩:=sizeL_inv h
  simp only [List.length_cons,List.replicate_succ,List.headD_cons,List.tail_cons] at h1 h2
  intro y hy
  cases hy with
  | head=>exact h1
  | tail _ hy=>exact ih h2 y hy
theorem ws_size {ls:List Signal} (hls:∀ x∈ls,x.w<=64) (e:E):WS ls e->∀ p,(p=0\/p=e.w\/p = -1/\e.w=1)->sizeE e p=.ok e:=by
 induction e using E.ind with
 | h e ih =>
  intro h p hpp
  have ho:=ws_own hls e h
  have hop:=fun x hx=>ws_own hls x (((WS_iff ls e).1 h).2 x hx)
  obtain ⟨h0,hp⟩:=(WS_iff ls e).1 h
  have ih2:=fun x hx=>ih x hx (hp x hx)
  clear ih hp h
  have hw2:told (if p = -1 then 1 else p) (told (own e) 32)=e.w:=by
   rw [ho.1]
   unfold told
   rcases hpp with rfl | rfl | ⟨rfl,h1⟩
   ·simp [show ¬ e.w=0 by omega]
   ·rw [if_neg (by omega),if_neg (by omega)]
   ·simp [h1]
  rw [sizeE_eq,hw2,if_neg (by rintro ⟨rfl,h1⟩;rcases hpp with h2 | h2 | h2<;>omega),if_neg (by omega)]
  clear hw2 hpp
  have ho1:=ho.1
  rw [own_eq] at ho1
  obtain ⟨op,w,v,sig,hi,lo,n,l⟩:=e
  simp only at h0 ih2 ho ho1 hop ⊢
  have hl0:sizeE.sizeL l (List.replicate l.length 0)=.ok l:=sizeL_rep0 l fun x hx=>ih2 x hx 0 (.inl rfl)
  rcases h0 with ⟨rfl,hk,h1,h2,-⟩ | ⟨rfl,hk,h1,h2,-⟩ | ⟨rfl,⟨k,hk⟩,-,-,rfl,-⟩ | ⟨rfl,⟨k,hk,h1⟩,-⟩ | ⟨rfl,⟨j,k,hk,h1⟩,-⟩ | ⟨rfl,hk,-⟩ | ⟨rfl,h1,h2,h3,-⟩ | ⟨rfl,⟨k,hk,h1⟩,h2,h3,-⟩
  ·simp [wantedL,ho.1,hl0]
  ·simp [wantedL,ho.1,hl0]
  ·simp [wantedL,ho.1,hl0]
  ·obtain ⟨x,rfl,rfl⟩:=map1 hk
   have hx:=ih2 x (by simp)
   rcases h1 with ⟨a1,a2,a3⟩ | ⟨a1,a2,a3⟩ | ⟨rfl,a2,a3⟩
   ·have:n=1\/n=2:=by omega
    rcases this with rfl | rfl<;>simp [wantedL,sizeE.sizeL,hx w (by omega)]
   ·have:n=3\/n=4\/n=5:=by omega
    rcases this with rfl | rfl | rfl<;>simp [wantedL,sizeE.sizeL,a3,hx 0 (by simp)]
   ·simp [wantedL,sizeE.sizeL,a2,hx (-1) (by omega)]
  ·obtain ⟨x,y,rfl,rfl,rfl⟩:=map2 hk
   have hx:=ih2 x (by simp)
   have hy:=ih2 y (by simp)
   have ox:=hop x (by simp)
   rcases h1 with ⟨a1,a2,a3,a4⟩ | ⟨a1,a2,a3⟩ | ⟨a1,a2,a3,a4⟩ | ⟨a1,a2,a3,a4,a5⟩
   ·have:n=11\/n=12\/n=13\/n=14\/n=15\/n=16:=by omega
    rcases this with rfl | rfl | rfl | rfl | rfl | rfl<;>simp [wantedL,sizeE.sizeL,List.replicate,hx w (by omega),hy w (by omega)]
   ·have:n=17\/n=18:=by omega
    rcases this with rfl | rfl<;>simp [wantedL,sizeE.sizeL,List.replicate,hx w (by omega),hy 0 (by omega)]
   ·have ht:told (own.fst [x,y]) 32=x.w:=by
     simp only [own.fst,ox.1]
     rw [if_neg (by omega)];unfold told;rw [if_neg (by omega)]
    have:n=19\/n=20\/n=21\/n=22\/n=23\/n=24:=by omega
    rcases this with rfl | rfl | rfl | rfl | rfl | rfl<;>simp [wantedL,sizeE.sizeL,List.replicate,ht,a3,hx x.w (by simp),hy x.w (by omega)]
   ·have:n=25\/n=26:=by omega
    rcases this with rfl | rfl<;>simp [wantedL,sizeE.sizeL,List.replicate,a3,hx (-1) (by omega),hy (-1) (by omega)]
  ·obtain ⟨c,x,y,rfl,hc,hx,hy⟩:=map3 hk
   simp [wantedL,sizeE.sizeL,List.replicate,ih2 c (by simp) (-1) (by omega),ih2 x (by simp) w (by omega),ih2 y (by simp) w (by omega)]
  ·simp [wantedL,ho.1,hl0,show ¬ w=0 by omega,show ¬ 64<w by omega]
  ·obtain ⟨x,rfl,rfl⟩:=map1 hk
   have hl1:sizeE.sizeL [x] [0]=.ok [x]:=hl0
   simp [wantedL,ho.1,hl1,sizeE.hdW]
   omega
theorem ws_of_size {ls:List Signal} (hls:∀ x∈ls,x.w<=64) (e:E):shape ls e=true->∀ p,-1<=p->sizeE e p=.ok e->WS ls e/\e.w=told (if p = -1 then 1 else p) (told (own e) 32):=by
 induction e using E.ind with
 | h e ih =>
  intro hs p hpp h
  have hok:=ownOk_of_shape ls hls e hs
  have hon:=(own_le e hok).1
  rw [shape_eq,Bool.and_eq_true,List.all_eq_true] at hs
  obtain ⟨hs0,hsp⟩:=hs
  have ih2:=fun x hx=>ih x hx (hsp x hx)
  have hpos:1<=told (if p = -1 then 1 else p) (told (own e) 32):=by
   unfold told
   repeat' split
   all_goals omega
  have ho:=own_eq e
  have hokp:=fun x hx=>(own_le x (((OwnOk_iff e).1 hok).2.2.2 x hx)).1
  rw [sizeE_eq] at h
  clear hok
  generalize told (if p = -1 then 1 else p) (told (own e) 32)=w2 at *
  clear ih
  split at h
  ·cases h
  ·split at h
   ·rename_i h2
    split at h
    ·injection h with h
     have:=congrArg E.w h
     simp only at this
     omega
    ·cases h
   ·split at h
    ·cases h
    ·rename_i ps hps
     split at h
     ·cases h
     ·rename_i l' hl'
      split at h
      ·cases h
      ·rename_i hext
       injection h with h
       have hw:=congrArg E.w h
       have hl:=congrArg E.l h
       simp only at hw hl
       subst hl
       subst hw
       refine ⟨(WS_iff ls e).2 ?_,rfl⟩
       clear h
       obtain ⟨op,w,v,sig,hi,lo,n,l⟩:=e
       simp only at *
       have all0:ps=List.replicate l.length 0->∀ x∈l,WS ls x:=fun hq x hx=>(ih2 x hx 0 (by omega) (sizeL_rep_inv 0 l (by rw [<-hq];exact hl') x hx)).1
       have t0:∀ x∈l,∀ k,-1<=k->k≠0->sizeE x k=.ok x->WS ls x/\x.w=if k = -1 then 1 else k:=fun x hx k hk hk0 hq=>by
        obtain ⟨q1,q2⟩:=ih2 x hx k hk hq
        refine ⟨q1,?_⟩
        rw [q2];unfold told
        rw [if_neg (by split<;>omega)]
       have ihz:=ih2
       clear ih2
       unfold shape0 at hs0
       repeat' split at hs0
       all_goals try simp only [Bool.and_eq_true,Bool.or_eq_true,decide_eq_true_eq] at hs0
       ·rename_i o;subst o
        obtain rfl:l=[]:=List.eq_nil_of_length_eq_zero (by omega)
        exact ⟨.inl ⟨rfl,rfl,hpos,by omega,hs0.1.2.resolve_left (by omega),by omega,by omega,by omega,by omega⟩,by simp⟩
       ·rename_i o;subst o
        obtain rfl:l=[]:=List.eq_nil_of_length_eq_zero (by omega)
        simp [wantedL,ho] at hps
        exact ⟨.inr (.inl ⟨rfl,rfl,hs0.1.2,by omega,by omega,by omega⟩),by simp⟩
       ·rename_i o;subst o
        obtain ⟨x,rfl⟩:=List.length_eq_one_iff.1 hs0.1.1.1
        simp [wantedL,ho] at hps
        exact ⟨.inr (.inr (.inl ⟨rfl,⟨x.w,rfl⟩,by omega,by omega,by omega,by omega,by omega,by omega,by omega⟩)),all0 (by rw [<-hps.2];rfl)⟩
       ·rename_i o;subst o
        obtain ⟨x,rfl⟩:=List.length_eq_one_iff.1 hs0.1.1.1
        have:n=1\/n=2\/n=3\/n=4\/n=5\/n=6:=by omega
        have hz:v=0/\sig=0/\hi=0/\lo=0:=by omega
        have hx:=fun k h1 h2=>t0 x (by simp) k h1 h2
        have hx0:=fun h=>all0 h x (by simp)
        rcases this with rfl | rfl | rfl | rfl | rfl | rfl<;>simp [wantedL] at hps
        ·subst hps;obtain ⟨q1,-⟩:=sizeL_inv hl';simp only [List.headD_cons] at q1
         obtain ⟨q2,q3⟩:=hx _ (by omega) (by omega) q1
         exact ⟨.inr (.inr (.inr (.inl ⟨rfl,⟨x.w,rfl,.inl ⟨by decide,by decide,by rw [q3,if_neg (by omega)]⟩⟩,hz⟩))),by simpa using q2⟩
        ·subst hps;obtain ⟨q1,-⟩:=sizeL_inv hl';simp only [List.headD_cons] at q1
         obtain ⟨q2,q3⟩:=hx _ (by omega) (by omega) q1
         exact ⟨.inr (.inr (.inr (.inl ⟨rfl,⟨x.w,rfl,.inl ⟨by decide,by decide,by rw [q3,if_neg (by omega)]⟩⟩,hz⟩))),by simpa using q2⟩
        ·exact ⟨.inr (.inr (.inr (.inl ⟨rfl,⟨x.w,rfl,.inr (.inl ⟨by decide,by decide,hps.1⟩)⟩,hz⟩))),by simpa using hx0 (by rw [<-hps.2];rfl)⟩
        ·exact ⟨.inr (.inr (.inr (.inl ⟨rfl,⟨x.w,rfl,.inr (.inl ⟨by decide,by decide,hps.1⟩)⟩,hz⟩))),by simpa using hx0 (by rw [<-hps.2];rfl)⟩
        ·exact ⟨.inr (.inr (.inr (.inl ⟨rfl,⟨x.w,rfl,.inr (.inl ⟨by decide,by decide,hps.1⟩)⟩,hz⟩))),by simpa using hx0 (by rw [<-hps.2];rfl)⟩
        ·obtain ⟨rfl,rfl⟩:=hps;obtain ⟨q1,-⟩:=sizeL_inv hl';simp only [List.headD_cons] at q1
         obtain ⟨q2,q3⟩:=hx _ (by omega) (by omega) q1
         exact ⟨.inr (.inr (.inr (.inl ⟨rfl,⟨x.w,rfl,.inr (.inr ⟨rfl,rfl,by rw [q3];rfl⟩)⟩,hz⟩))),by simpa using q2⟩
       ·rename_i o;subst o
        obtain ⟨x,y,rfl⟩:∃ x y,l=[x,y]:=by
         match l,hs0.1.1.1 with
         | [x,y],_=>exact ⟨x,y,rfl⟩
        have hz:v=0/\sig=0/\hi=0/\lo=0:=by omega
        have hwl:(11<=n/\n<=16/\ps=[w,w])\/(17<=n/\n<=18/\ps=[w,0])\/(19<=n/\n<=24/\w=1/\ps=[told (own.fst [x,y]) 32,told (own.fst [x,y]) 32])\/(25<=n/\n<=26/\w=1/\ps=[-1,-1]):=by
         unfold wantedL at hps
         simp only at hps
         repeat' split at hps
         all_goals simp [List.replicate] at hps
         all_goals try omega
         all_goals subst hps
         ·exact .inr (.inr (.inr ⟨by omega,by omega,by omega,rfl⟩))
         ·exact .inr (.inr (.inl ⟨by omega,by omega,by omega,rfl⟩))
         ·exact .inr (.inl ⟨by omega,by omega,rfl⟩)
         ·exact .inl ⟨by omega,by omega,rfl⟩
         ·rename_i q1 q2;exact absurd (Or.inr trivial) q1
        have hx:=fun k h1 h2=>t0 x (by simp) k h1 h2
        have hy:=fun k h1 h2=>t0 y (by simp) k h1 h2
        have hxo:=hokp x (by simp)
        have hyo:=hokp y (by simp)
        obtain ⟨q1,q2⟩:sizeE x (ps.headD 0)=.ok x/\sizeE y (ps.tail.headD 0)=.ok y:=by
         obtain ⟨q1,q2⟩:=sizeL_inv hl'
         exact ⟨q1,(sizeL_inv q2).1⟩
        rcases hwl with ⟨a1,a2,rfl⟩ | ⟨a1,a2,rfl⟩ | ⟨a1,a2,a3,rfl⟩ | ⟨a1,a2,a3,rfl⟩
        all_goals simp only [List.headD_cons,List.tail_cons] at q1 q2
        ·obtain ⟨b1,b2⟩:=hx _ (by omega) (by omega) q1
         obtain ⟨c1,c2⟩:=hy _ (by omega) (by omega) q2
         rw [if_neg (by omega)] at b2 c2
         exact ⟨.inr (.inr (.inr (.inr (.inl ⟨rfl,⟨x.w,y.w,rfl,.inl ⟨a1,a2,b2,c2⟩⟩,hz⟩)))),by simp;exact ⟨b1,c1⟩⟩
        ·obtain ⟨b1,b2⟩:=hx _ (by omega) (by omega) q1
         rw [if_neg (by omega)] at b2
         exact ⟨.inr (.inr (.inr (.inr (.inl ⟨rfl,⟨x.w,y.w,rfl,.inr (.inl ⟨a1,a2,b2⟩)⟩,hz⟩)))),by simp;exact ⟨b1,(ihz y (by simp) 0 (by omega) q2).1⟩⟩
        ·have hk:told (own.fst [x,y]) 32≠0/\-1<=told (own.fst [x,y]) 32:=by
          unfold told;simp only [own.fst];repeat' split
          all_goals omega
         obtain ⟨b1,b2⟩:=hx _ hk.2 hk.1 q1
         obtain ⟨c1,c2⟩:=hy _ hk.2 hk.1 q2
         exact ⟨.inr (.inr (.inr (.inr (.inl ⟨rfl,⟨x.w,y.w,rfl,.inr (.inr (.inl ⟨a1,a2,a3,b2.trans c2.symm⟩))⟩,hz⟩)))),by simp;exact ⟨b1,c1⟩⟩
        ·obtain ⟨b1,b2⟩:=hx _ (by simp) (by simp) q1
         obtain ⟨c1,c2⟩:=hy _ (by simp) (by simp) q2
         exact ⟨.inr (.inr (.inr (.inr (.inl ⟨rfl,⟨x.w,y.w,rfl,.inr (.inr (.inr ⟨a1,a2,a3,b2,c2⟩))⟩,hz⟩)))),by simp;exact ⟨b1,c1⟩⟩
       ·rename_i o;subst o
        obtain ⟨c,x,y,rfl⟩:∃ c x y,l=[c,x,y]:=by
         match l,hs0.1 with
         | [c,x,y],_=>exact ⟨c,x,y,rfl⟩
        simp [wantedL,List.replicate] at hps
        subst hps
        obtain ⟨q1,q⟩:=sizeL_inv hl'
        obtain ⟨q2,q⟩:=sizeL_inv q
        obtain ⟨q3,-⟩:=sizeL_inv q
        simp only [List.headD_cons,List.tail_cons] at q1 q2 q3
        obtain ⟨a1,a2⟩:=t0 c (by simp) _ (by omega) (by omega) q1
        obtain ⟨b1,b2⟩:=t0 x (by simp) _ (by omega) (by omega) q2
        obtain ⟨c1,c2⟩:=t0 y (by simp) _ (by omega) (by omega) q3
        rw [if_neg (by omega)] at b2 c2
        exact ⟨.inr (.inr (.inr (.inr (.inr (.inl ⟨rfl,by simp [a2,b2,c2],by omega,by omega,by omega,by omega,by omega⟩))))),by simp;exact ⟨a1,b1,c1⟩⟩
       ·rename_i o;subst o
        simp [wantedL] at hps
        obtain ⟨h1,h2⟩:=hps
        have hall:=all0 h2.symm
        have hcs:=own_cat_sum l (fun x hx=>⟨(ws_own hls x (hall x hx)).1,(ws_own hls x (hall x hx)).2.1⟩) 0
        have hl1:0<l.length:=hs0.1
        simp at ho
        exact ⟨.inr (.inr (.inr (.inr (.inr (.inr (.inl ⟨rfl,by intro h;simp at h;rw [h] at hl1;simp at hl1,by omega,by omega,by omega,by omega,by omega,by omega,by omega⟩)))))),hall⟩
       ·rename_i o;subst o
        obtain ⟨x,rfl⟩:=List.length_eq_one_iff.1 hs0.1.1.1.1.1
        simp [wantedL,ho] at hps
        simp [sizeE.hdW] at hext
        exact ⟨.inr (.inr (.inr (.inr (.inr (.inr (.inr ⟨rfl,⟨x.w,rfl,by omega⟩,by omega,by omega,by omega,by omega,by omega,by omega⟩)))))),all0 (by rw [<-hps];rfl)⟩
       ·cases hs0
def b2n (b:Bool):Nat:=if b=true then 1 else 0
def popN (v:Nat):Nat:=((List.range 64).filter fun i=>v.testBit i).length
def unM (op:Int) (w v:Nat):Nat :=
 if op=1 then 2^w-1-v
 else if op=2 then (2^w-v)%2^w
 else if op=3 then b2n (decide (v=2^w-1))
 else if op=4 then b2n (decide (v≠0))
 else if op=5 then popN v%2
 else b2n (decide (v=0))
def binM (op:Int) (w a b:Nat):Nat :=
 if op=11\/op=25 then a &&& b
 else if op=12\/op=26 then a ||| b
 else if op=13 then a ^^^ b
 else if op=14 then (a+b)%2^w
 else if op=15 then (a+2^w-b)%2^w
 else if op=16 then a*b%2^w
 else if op=17 then a*2^b%2^w
 else if op=18 then a / 2^b
 else if op=19 then b2n (decide (a=b))
 else if op=20 then b2n (decide (a≠b))
 else if op=21 then b2n (decide (a<b))
 else if op=22 then b2n (decide (a<=b))
 else if op=23 then b2n (decide (b<a))
 else b2n (decide (b<=a))
def extN (op:Int) (w wa a:Nat):Nat :=
 if op=32/\2^(wa-1)<=a then a+(2^w-2^wa) else if op=33 then a%2^w else a
def catM:List (Int × Nat)->Nat->Nat
 | [],acc=>acc
 | p::l,acc=>catM l (acc*2^p.1.toNat+p.2)
def evNode (vs:List Nat) (op w v sig hi lo n:Int) (ws:List Int) (xs:List Nat):Nat :=
 if op=1 then v.toNat
 else if op=2 then vs.getD sig.toNat 0 / 2^lo.toNat%2^(hi-lo+1).toNat
 else if op=3 then vs.getD sig.toNat 0 / 2^xs.getD 0 0%2
 else if op=4 then unM n (ws.getD 0 0).toNat (xs.getD 0 0)
 else if op=5 then binM n (ws.getD 0 0).toNat (xs.getD 0 0) (xs.getD 1 0)
 else if op=6 then if xs.getD 0 0=1 then xs.getD 1 0 else xs.getD 2 0
 else if op=7 then catM (ws.zip xs) 0
 else extN n w.toNat (ws.getD 0 0).toNat (xs.getD 0 0)
def evM (vs:List Nat):E->Nat
 | ⟨op,w,v,sig,hi,lo,n,l⟩=>evNode vs op w v sig hi lo n (l.map (·.w)) (evs l)
where evs:List E->List Nat
 | []=>[]
 | e::l=>evM vs e::evs l
theorem evM_eq (vs:List Nat) (e:E):evM vs e=evNode vs e.op e.w e.v e.sig e.hi e.lo e.n (e.l.map (·.w)) (e.l.map (evM vs)):=by
 have h:∀ l,evM.evs vs l=l.map (evM vs):=by
  intro l
  induction l with
  | nil=>rfl
  | cons x l ih=>rw [evM.evs,ih];rfl
 cases e
 rw [evM,h]
theorem b2n_lt (b:Bool):b2n b<2:=by cases b<;>decide
theorem unM_lt {op:Int} {w v:Nat} (hv:v<2^w) (h:op≠1->op≠2->1<=w):unM op w v<2^w:=by
 have h0:=Nat.two_pow_pos w
 have h2:op≠1->op≠2->2<=2^w:=fun ho hp=>Nat.le_trans (by decide:2<=2^1) (Nat.pow_le_pow_right (by decide) (h ho hp))
 unfold unM
 by_cases o1:op=1
 ·rw [if_pos o1];omega
 ·rw [if_neg o1]
  by_cases o2:op=2
  ·rw [if_pos o2];exact Nat.mod_lt _ h0
  ·rw [if_neg o2]
   have:=h2 o1 o2
   repeat' split
   all_goals first | (have:=b2n_lt (decide (v=2^w-1));omega) | (have:=b2n_lt (decide (v≠0));omega) | (have:=Nat.mod_lt (popN v) (by decide:0<2);omega) | (have:=b2n_lt (decide (v=0));omega)
theorem binM_lt {op:Int} {w a b:Nat} (ha:a<2^w) (hb:op≠17->op≠18->b<2^w) (hw:1<=w):binM op w a b<2^w:=by
 have h0:=Nat.two_pow_pos w
 have h2:2<=2^w:=Nat.le_trans (by decide:2<=2^1) (Nat.pow_le_pow_right (by decide) hw)
 have hc:∀ c:Bool,b2n c<2^w:=fun c=>Nat.lt_of_lt_of_le (b2n_lt c) h2
 unfold binM
 by_cases c0:op=11\/op=25
 ·rw [if_pos c0];exact Nat.and_lt_two_pow _ (hb (by omega) (by omega))
 rw [if_neg c0]
 by_cases c1:op=12\/op=26
 ·rw [if_pos c1];exact Nat.or_lt_two_pow ha (hb (by omega) (by omega))
 rw [if_neg c1]
 by_cases c2:op=13
 ·rw [if_pos c2];exact Nat.xor_lt_two_pow ha (hb (by omega) (by omega))
 rw [if_neg c2]
 by_cases c3:op=14
 ·rw [if_pos c3];exact Nat.mod_lt _ h0
 rw [if_neg c3]
 by_cases c4:op=15
 ·rw [if_pos c4];exact Nat.mod_lt _ h0
 rw [if_neg c4]
 by_cases c5:op=16
 ·rw [if_pos c5];exact Nat.mod_lt _ h0
 rw [if_neg c5]
 by_cases c6:op=17
 ·rw [if_pos c6];exact Nat.mod_lt _ h0
 rw [if_neg c6]
 by_cases c7:op=18
 ·rw [if_pos c7];exact Nat.lt_of_le_of_lt (Nat.div_le_self _ _) ha
 rw [if_neg c7]
 by_cases c8:op=19
 ·rw [if_pos c8];exact hc _
 rw [if_neg c8]
 by_cases c9:op=20
 ·rw [if_pos c9];exact hc _
 rw [if_neg c9]
 by_cases c10:op=21
 ·rw [if_pos c10];exact hc _
 rw [if_neg c10]
 by_cases c11:op=22
 ·rw [if_pos c11];exact hc _
 rw [if_neg c11]
 by_cases c12:op=23
 ·rw [if_pos c12];exact hc _
 rw [if_neg c12]
 exact hc _
theorem extN_lt {op:Int} {w wa a:Nat} (ha:a<2^wa) (h0:1<=wa) (h:op≠33->wa<=w):extN op w wa a<2^w:=by
 unfold extN
 by_cases c0:op=32/\2^(wa-1)<=a
 ·rw [if_pos c0]
  have:=Nat.pow_le_pow_right (n:=2) (by decide) (h (by omega))
  omega
 rw [if_neg c0]
 by_cases c1:op=33
 ·rw [if_pos c1];exact Nat.mod_lt _ (Nat.two_pow_pos w)
 rw [if_neg c1]
 exact Nat.lt_of_lt_of_le ha (Nat.pow_le_pow_right (by decide) (h c1))
theorem catM_lt (l:List (Int × Nat)):∀ acc k,acc<2^k->(∀ p∈l,p.2<2^p.1.toNat)->catM l acc<2^(k+(l.map fun p=>p.1.toNat).sum):=by
 induction l with
 | nil=>intro acc k h _;simpa [catM] using h
 | cons p l ih =>
  intro acc k h hp
  rw [catM]
  have h1:=hp p (by simp)
  have h2:acc*2^p.1.toNat+p.2<2^(k+p.1.toNat):=by
   rw [Nat.pow_add]
   have:(acc+1)*2^p.1.toNat<=2^k*2^p.1.toNat:=Nat.mul_le_mul_right _ h
   rw [Nat.add_mul] at this
   omega
  have:=ih _ _ h2 (fun q hq=>hp q (by simp [hq]))
  rw [List.map_cons,List.sum_cons,<-Nat.add_assoc]
  exact this
end Go.Proofs.YtoaamjgfhppppaaGreat
