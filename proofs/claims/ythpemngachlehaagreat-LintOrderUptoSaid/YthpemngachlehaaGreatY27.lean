/- Laws and walks that a claim of this seat leans on: Mark13L, Mark13, Live, Live2, Live2b. -/
import Derived.Test.YthpemngachlehaaGreatY25
import Derived.Test.YthpemngachlehaaGreatYLint
import Derived.Test.YthpemngachlehaaGreatY26
import Derived.Test.YthpemngachlehaaGreatY19
import Derived.Test.YthpemngachlehaaGreatY00
set_option linter.all false
namespace Go.Proofs.YthpemngachlehaaGreat
open Go.RowKit
def rlevs (g:List (List Int)) (n:Nat):List Int→List Int→List Int
 | [],out=>out
 | p :: o,out=>rlevs g n o (out.set p.toNat (aboveM (setB n (g.getD p.toNat [])) out n))
theorem aboveM_spec (on:List Bool) (lev:List Int) (k:Nat):0 ≤ aboveM on lev k∧(∀ q,q < k→on.getD q false=true→lev.getD q 0 + 1 ≤ aboveM on lev k)∧(aboveM on lev k=0 ∨ ∃ q,q < k∧on.getD q false=true∧aboveM on lev k=lev.getD q 0 + 1):=by
 induction k with
 | zero=>exact ⟨Int.le_refl _,fun q h=>by omega,.inl rfl⟩
 | succ k ih =>
  obtain ⟨h1,h2,h3⟩:=ih
  unfold aboveM
  by_cases h:on.getD k false=true
  ·rw [if_pos h]
   refine ⟨by omega,fun q hq ho=>?_,?_⟩
   ·by_cases e:q=k
    ·subst e;omega
    ·have:=h2 q (by omega) ho;omega
   ·by_cases hc:aboveM on lev k ≤ lev.getD k 0 + 1
    ·exact .inr ⟨k,by omega,h,by omega⟩
    ·rw [show max (aboveM on lev k) (lev.getD k 0 + 1)=aboveM on lev k by omega]
     rcases h3 with h3 | ⟨q,q1,q2,q3⟩
     ·exact .inl h3
     ·exact .inr ⟨q,by omega,q2,q3⟩
  ·rw [if_neg h]
   refine ⟨h1,fun q hq ho=>?_,?_⟩
   ·by_cases e:q=k
    ·subst e;exact absurd ho h
    ·exact h2 q (by omega) ho
   ·rcases h3 with h3 | ⟨q,q1,q2,q3⟩
    ·exact .inl h3
    ·exact .inr ⟨q,by omega,q2,q3⟩
theorem lev1_spec (p:Nat) (l:List Int):∀ out,p < out.length→(∀ q ∈ l,q.toNat ≠ p)→out.getD p 0 ≤ (lev1 p l out).getD p 0∧(∀ q ∈ l,out.getD q.toNat 0 + 1 ≤ (lev1 p l out).getD p 0) ∧
  ((lev1 p l out).getD p 0=out.getD p 0 ∨ ∃ q ∈ l,(lev1 p l out).getD p 0=out.getD q.toNat 0 + 1):=by
 induction l with
 | nil=>intro out _ _;exact ⟨Int.le_refl _,(by intro q h;cases h),.inl rfl⟩
 | cons x l ih =>
  intro out hp hne
  rw [lev1]
  obtain ⟨h1,h2,h3⟩:=ih (out.set p (max (out.getD p 0) (out.getD x.toNat 0 + 1))) (by simpa using hp) (fun q hq=>hne q (by simp [hq]))
  have hself:(out.set p (max (out.getD p 0) (out.getD x.toNat 0 + 1))).getD p 0=max (out.getD p 0) (out.getD x.toNat 0 + 1):=by
   rw [List.getD_eq_getElem?_getD (l:=out.set _ _),List.getElem?_set_self hp];rfl
  have hoth:∀ q ∈ l,(out.set p (max (out.getD p 0) (out.getD x.toNat 0 + 1))).getD q.toNat 0=out.getD q.toNat 0:=fun q hq=>by
   rw [List.getD_eq_getElem?_getD,List.getElem?_set_ne (fun e=>hne q (by simp [hq]) e.symm),← List.getD_eq_getElem?_getD]
  rw [hself] at h1 h3
  refine ⟨by omega,fun q hq=>?_,?_⟩
  ·rcases List.mem_cons.1 hq with rfl | hq
   ·omega
   ·rw [← hoth q hq];exact h2 q hq
  ·rcases h3 with h3 | ⟨q,q1,q2⟩
   ·by_cases hc:out.getD x.toNat 0 + 1 ≤ out.getD p 0
    ·exact .inl (by omega)
    ·exact .inr ⟨x,by simp,by omega⟩
   ·exact .inr ⟨q,by simp [q1],by rw [q2,hoth q q1]⟩
theorem lev1_set (p n:Nat) (S:List Int) (out:List Int) (hol:out.length=n) (hp:p < n) (h0:out.getD p 0=0) (hS:∀ q ∈ S,0 ≤ q∧q < n∧q.toNat ≠ p) (hpos:∀ x ∈ out,0 ≤ x) :
  lev1 p S out=out.set p (aboveM (setB n S) out n):=by
 obtain ⟨a1,a2,a3⟩:=lev1_spec p S out (by omega) (fun q hq=>(hS q hq).2.2)
 obtain ⟨b1,b2,b3⟩:=aboveM_spec (setB n S) out n
 rw [h0] at a1 a3
 have hmem:∀ q:Nat,q < n→((setB n S).getD q false=true ↔ (q:Int) ∈ S):=fun q hq=>by
  rw [List.getD_eq_getElem?_getD,setB_get _ hq];simp
 have he:(lev1 p S out).getD p 0=aboveM (setB n S) out n:=by
  refine Int.le_antisymm ?_ ?_
  ·rcases a3 with a3 | ⟨q,q1,q2⟩
   ·omega
   ·obtain ⟨h1,h2,-⟩:=hS q q1
    have:=b2 q.toNat (by omega) ((hmem q.toNat (by omega)).2 (by rw [show ((q.toNat:Nat):Int)=q by omega];exact q1))
    omega
  ·rcases b3 with b3 | ⟨q,q1,q2,q3⟩
   ·omega
   ·have:=a2 (q:Int) ((hmem q q1).1 q2)
    rw [Int.toNat_natCast] at this
    omega
 refine List.ext_getElem (by rw [lev1_length,List.length_set]) fun i h1 h2=>?_
 rw [lev1_length] at h1
 rw [List.getElem_set]
 have hg:(lev1 p S out).getD i 0=(lev1 p S out)[i]'(by rw [lev1_length];exact h1):=by
  rw [List.getD_eq_getElem?_getD,List.getElem?_eq_getElem (by rw [lev1_length];exact h1)];rfl
 rw [← hg]
 by_cases e:p=i
 ·rw [if_pos e,← e];exact he
 ·rw [if_neg e,lev1_other _ _ _ _ (fun h=>e h.symm),List.getD_eq_getElem?_getD,List.getElem?_eq_getElem h1];rfl
theorem rlevs_eq (g:List (List Int)) (n:Nat) (o:List Int):∀ out,out.length=n→(∀ x ∈ out,0 ≤ x)→o.Nodup→(∀ p ∈ o,0 ≤ p∧p < n∧out.getD p.toNat 0=0∧∀ q ∈ g.getD p.toNat [],0 ≤ q∧q < n∧q ≠ p) →
  rlevs g n o out=levs g o out:=by
 induction o with
 | nil=>intro out _ _ _ _;rfl
 | cons p o ih =>
  intro out hol hpos hnd hin
  obtain ⟨p0,p1,p2,p3⟩:=hin p (by simp)
  obtain ⟨hn1,hn2⟩:=List.nodup_cons.1 hnd
  have hset:=lev1_set p.toNat n (g.getD p.toNat []) out hol (by omega) p2 (fun q hq=>by obtain ⟨h1,h2,h3⟩:=p3 q hq;exact ⟨h1,h2,by omega⟩) hpos
  rw [rlevs,levs,hset]
  refine ih _ (by rw [List.length_set];exact hol) (fun x hx=>?_) hn2 (fun p' hp'=>?_)
  ·rcases List.mem_or_eq_of_mem_set hx with hx | rfl
   ·exact hpos x hx
   ·exact (aboveM_spec _ _ _).1
  ·obtain ⟨q0,q1,q2,q3⟩:=hin p' (by simp [hp'])
   refine ⟨q0,q1,?_,q3⟩
   have hne:p.toNat ≠ p'.toNat:=fun e=>hn1 (by rw [show p=p' by omega];exact hp')
   rw [List.getD_eq_getElem?_getD,List.getElem?_set_ne hne,← List.getD_eq_getElem?_getD];exact q2
theorem rlevs_append (g:List (List Int)) (n:Nat) (a:List Int):∀ b out,rlevs g n (a ++ b) out=rlevs g n b (rlevs g n a out):=by
 induction a with
 | nil=>intro b out;rfl
 | cons p a ih=>intro b out;rw [List.cons_append,rlevs,rlevs,ih]
theorem ckL_nodup (l:List Proc):∀ p,(ckL p l).Nodup:=by
 induction l with
 | nil=>intro p;exact List.nodup_nil
 | cons x l ih =>
  intro p
  rw [ckL]
  split
  ·refine List.nodup_cons.2 ⟨fun h=>?_,ih _⟩
   have:=(ckL_mem l (p + 1) _ h).1
   omega
  ·exact ih _
theorem ckL_clk (d:Flat):∀ p ∈ ckL 0 d.procs,0 ≤ p∧p < d.procs.length∧(clks d).getD p.toNat false=true:=by
 have key:∀ (l:List Proc) (k:Nat),d.procs.drop k=l→∀ p ∈ ckL k l,(clks d).getD p.toNat false=true:=by
  intro l
  induction l with
  | nil=>intro k _ p hp;cases hp
  | cons x l ih =>
   intro k hk p hp
   have hkl:k < d.procs.length:=by
    have:=congrArg List.length hk
    rw [List.length_drop,List.length_cons] at this;omega
   rw [List.drop_eq_getElem_cons hkl] at hk
   injection hk with hx hl
   rw [ckL] at hp
   split at hp
   ·rename_i hc
    rcases List.mem_cons.1 hp with rfl | hp
    ·rw [Int.toNat_natCast,clks_at d hkl,hx];exact hc
    ·exact ih (k + 1) hl p hp
   ·exact ih (k + 1) hl p hp
 intro p hp
 have:=ckL_mem d.procs 0 p hp
 exact ⟨by omega,by omega,key d.procs 0 rfl p hp⟩
theorem levD_r {d:Flat} (hok:d.ok) (hck:checkM d=0) {o:List Int} (hol:(o.length:Int)=nBits d) (hob:∀ x ∈ o,-1 ≤ x∧x < d.procs.length) :
  levs (graphM d o) (ordM (graphM d o) (clks d) ++ ckL 0 d.procs) (List.replicate (graphM d o).length 0)=rlevs (graphM d o) d.procs.length (ckL 0 d.procs) (rlevs (graphM d o) d.procs.length (ordM (graphM d o) (clks d)) (List.replicate d.procs.length 0)):=by
 have hlg:=graphM_length d o
 obtain ⟨come,hord,-⟩:=orderM_spec (graphM d o) (clks d) ((graphM d o).length + 1) (List.replicate (graphM d o).length false) [] (Ord.nil _ _) (by have:=falses_le (List.replicate (graphM d o).length false);simp at this;omega)
 have hord':Ord (graphM d o) (clks d) come (ordM (graphM d o) (clks d)):=hord
 rw [← rlevs_append,hlg]
 refine (rlevs_eq _ _ _ _ (by simp) (fun x hx=>by rw [List.eq_of_mem_replicate hx];exact Int.le_refl _) ?_ ?_).symm
 ·rw [List.nodup_append]
  refine ⟨hord'.nodup,ckL_nodup _ _,fun a ha b hb e=>?_⟩
  obtain ⟨-,-,h3⟩:=hord'.inr a ha
  have:=(ckL_clk d b hb).2.2
  rw [← e,h3] at this;cases this
 ·intro p hp
  have hz:(List.replicate d.procs.length (0:Int)).getD p.toNat 0=0:=by
   rw [List.getD_eq_getElem?_getD,List.getElem?_replicate];split <;> rfl
  have hpr:0 ≤ p∧p < d.procs.length:=by
   rcases List.mem_append.1 hp with hp | hp
   ·obtain ⟨h1,h2,-⟩:=hord'.inr p hp;rw [hlg] at h2;exact ⟨h1,h2⟩
   ·obtain ⟨h1,h2,-⟩:=ckL_clk d p hp;exact ⟨h1,h2⟩
  refine ⟨hpr.1,hpr.2,hz,fun q hq=>?_⟩
  have hpn:p.toNat < d.procs.length:=by omega
  have hq':q ∈ hang1 o (clks d) (readsM d (p.toNat:Int)) []:=by
   rw [List.getD_eq_getElem?_getD,graphM_get d o hpn] at hq;exact hq
  obtain ⟨q0,q1,-⟩:=(mem_hang _ _ _ _).1 hq'
  have hr:=(graphM_range hok hck hol hob _ (List.mem_of_getElem? (graphM_get d o hpn))).2 q hq'
  rw [hlg] at hr
  refine ⟨q0,by omega,fun e=>?_⟩
  subst e
  rcases List.mem_append.1 hp with hp | hp
  ·obtain ⟨i,hi⟩:=List.mem_iff_getElem?.1 hp
   have hb:=hord'.behind i q hi q hq
   rw [show ((q.toNat:Nat):Int)=q by omega] at hb
   obtain ⟨j,hj⟩:=List.mem_iff_getElem?.1 hb
   rw [List.getElem?_take] at hj
   split at hj
   ·rename_i hji
    have h1:=(List.getElem?_eq_some_iff.1 hi)
    have h2:=(List.getElem?_eq_some_iff.1 hj)
    obtain ⟨l1,e1⟩:=h1
    obtain ⟨l2,e2⟩:=h2
    exact absurd (e2.trans e1.symm) (List.pairwise_iff_getElem.1 hord'.nodup j i l2 l1 hji)
   ·cases hj
  ·have:=(ckL_clk d q hp).2.2
   rw [q1] at this;cases this
open Go.RowKit
theorem set_bound {cur:List Int} {B:Int} (hB:0 ≤ B) (h:∀ x ∈ cur,0 ≤ x∧x ≤ B) (on:List Bool) (n m:Nat):∀ x ∈ cur.set m (aboveM on cur n),0 ≤ x∧x ≤ B + 1:=fun x hx=>by
 rcases List.mem_or_eq_of_mem_set hx with hx | rfl
 ·have:=h x hx;omega
 ·exact aboveM_bound on cur hB h n
/-! ### filigreeref12.Levels -/
set_option maxRecDepth 100000 in
set_option maxHeartbeats 8000000 in
theorem Levels_calls12 (d:Flat) (v:Value) (w:World) (h:FlatV w v d) (hok:d.ok) :
  Calls Tryz.prog 19 #[v] w fun r w'=>∃ u,r=.returned (.tuple #[u,.int .i64 (levD d).1])∧IntRow w.heap.size u (levD d).2 w'∧Ext w w':=by
 have HF:=Lib.hid h
 have HOK:=Lib.hid hok
 have hlp:=hok.procs
 have HOR:=Lib.hid (fun W (hx:Ext w W)=>Order_calls12 d _ W (h.ext hx) hok)
 have hcs:=lookM_cases d hok
 obtain ⟨sv,pv,cv,rfl,hS,hP,hC⟩:=h
 have hone : [sv,pv,cv].all (·.oneCell')=true:=by simp [hS.one,hP.one,hC.one]
 have HX:=Lib.hid (ext_alloc w (.cells [sv,pv,cv].toArray 26))
 have HB:=Lib.hid (Blk.new w [sv,pv,cv].toArray 26)
 by_cases hl:(lookM d).1=0
 ·rcases hcs with ⟨e,h1,h2,h3⟩ | ⟨hck,o,h1,hol,hob,h3⟩
  ·rw [h3] at hl;exact absurd hl h2
  ·have hoo:lookM d=(0,graphM d o,ordM (graphM d o) (clks d)):=by
    rw [h3] at hl ⊢
    by_cases e1:noneF d.signals o 0 d.signals=true
    ·rw [if_pos e1] at hl;cases hl
    ·rw [if_neg e1] at hl ⊢
     by_cases e2:latF d 0 d.procs=true
     ·rw [if_pos e2] at hl;cases hl
     ·rw [if_neg e2] at hl ⊢
      by_cases e3:(ordM (graphM d o) (clks d)).length < wiresM (clks d)
      ·rw [if_pos e3] at hl;cases hl
      ·rw [if_neg e3]
   have hld:levD d=(0,rlevs (graphM d o) d.procs.length (ckL 0 d.procs) (rlevs (graphM d o) d.procs.length (ordM (graphM d o) (clks d)) (List.replicate d.procs.length 0))):=by
    unfold levD
    rw [hoo,if_neg (by simp)]
    simp only
    rw [levD_r hok hck hol hob]
   have hrd:(rD d).1=o:=by
    have:=rD_drvD hck
    rw [h1] at this
    by_cases e:(rD d).2=true
    ·rw [if_pos e] at this;injection this with h _;cases h
    ·rw [if_neg e] at this;injection this with _ h;exact h.symm
   have hor:∀ p ∈ ordM (graphM d o) (clks d),0 ≤ p∧p < d.procs.length:=by
    obtain ⟨come,hord,-⟩:=orderM_spec (graphM d o) (clks d) ((graphM d o).length + 1) (List.replicate (graphM d o).length false) [] (Ord.nil _ _) (by have:=falses_le (List.replicate (graphM d o).length false);simp at this;omega)
    intro p hp
    obtain ⟨q1,q2,-⟩:=hord.inr p hp
    rw [graphM_length] at q2
    exact ⟨q1,q2⟩
   have hoolen:(ordM (graphM d o) (clks d)).length ≤ d.procs.length:=by
    obtain ⟨come,hord,-⟩:=orderM_spec (graphM d o) (clks d) ((graphM d o).length + 1) (List.replicate (graphM d o).length false) [] (Ord.nil _ _) (by have:=falses_le (List.replicate (graphM d o).length false);simp at this;omega)
    have h9:(ordM (graphM d o) (clks d)).length ≤ (graphM d o).length:=hord.olen
    rwa [graphM_length] at h9
   have HGG:=Lib.hid (fun (p:Nat) (hp:p < d.procs.length)=>(show (onK d o d.procs.length)[p]'(by rw [onK_length];exact hp)=setB d.procs.length ((graphM d o).getD p []) by
    rw [List.getD_eq_getElem?_getD,graphM_get d o hp];simp [onK]))
   have HDV:=Lib.hid (fun W (hx:Ext w W)=>drivers_calls12 d _ W (HF.out.ext hx) HOK.out hck)
   have HHG:=Lib.hid (fun W (hx:Ext w W) lv (hl:Ints W lv o)=>Hangs_calls12 d _ lv W (HF.out.ext hx) hok hck o hl hol hob)
   rw [hrd] at HDV
   rw [hoo] at HOR
   rw [hld]
   have HCS:=Lib.hid (fun (p:Nat) (hp:p < d.procs.length)=>ckL_step d p hp)
   obtain ⟨a0,b0,o0,c0,rfl,hc1,hc2,ha,hr⟩:=hP.open
   have HA:=Lib.hid ha
   have HR:=Lib.hid hr
   generalize (rD d).2=tb at *
   generalize graphM d o=G at *
   generalize hoo2:ordM G (clks d)=oo at *
   obtain ⟨fin,hfin⟩ : ∃ fin,rlevs G d.procs.length (ckL 0 d.procs) (rlevs G d.procs.length oo (List.replicate d.procs.length 0))=fin:=⟨_,rfl⟩
   rw [hfin]
   have HFIN:=Lib.hid (show rlevs G d.procs.length (ckL 0 (d.procs.drop 0)) (rlevs G d.procs.length (oo.drop 0) (List.replicate d.procs.length 0))=fin from hfin)
   have HORR:=Lib.hid hor
   clear hl h1 h3 hoo hld hrd hol hob hck hok hS hP hC ha hr hor hfin hoo2
   go_enter Tryz.func19,Tryz.ntmps19
   go_upto_region 1 with fail
   generalize w.alloc _=w1 at *
   go_upto_region 6 with (first | ((with_reducible show wpList _ _ _ (⟨_,Op.load 26 _,_,_,_,_⟩ :: _) _ _);refine wpList_load_has rfl 26 _ rfl rfl (HB.out.has) agg_Flat rfl ?_) | (go_at_call 17;refine (HOR.out _ HX.out).mono ?_;rintro r w2 ⟨u2,rfl,hr2,hx2⟩;have HB2:=Lib.hid (HB.out.ext hx2)) | ((with_reducible show wpList _ _ _ (⟨_,Op.load 26 _,_,_,_,_⟩ :: _) _ _);refine wpList_load_has rfl 26 _ rfl rfl (HB2.out.has) agg_Flat rfl ?_) | (go_at_call 30;refine (HDV.out _ (HX.out.trans hx2)).mono ?_;rintro r w3 ⟨u3,rfl,hr3,hx3⟩;have HB3:=Lib.hid (HB2.out.ext hx3)) | ((with_reducible show wpList _ _ _ (⟨_,Op.load 26 _,_,_,_,_⟩ :: _) _ _);refine wpList_load_has rfl 26 _ rfl rfl (HB3.out.has) agg_Flat rfl ?_) | (go_at_call 35;refine (HHG.out _ ((HX.out.trans hx2).trans hx3) _ hr3.cells).mono ?_;rintro r w4 ⟨u4,rfl,hu4,hx4⟩))
   obtain ⟨ao,bo,oo',co,rfl,hq1,hq2,hao,hro⟩:=(hr2.cells.ext (hx3.trans hx4)).open
   try simp only at hq1 hao hro
   obtain ⟨ag,bg,og,cg,rfl,hg1,hg2,hag,hgr⟩:=hu4.open
   rw [onK_length] at hg1 hag ⊢
   have HAO:=Lib.hid hao
   have HRO:=Lib.hid hro
   have HAG:=Lib.hid hag
   have HGRW:=Lib.hid hgr
   have HX4:=Lib.hid ((hx2.trans hx3).trans hx4)
   have HB4:=Lib.hid (HB3.out.ext hx4)
   have y1:=HB4.out.has 1 _ rfl
   rw [Nat.zero_add] at y1
   clear hao hro hag hgr hu4 hr2 hr3 hx2 hx3 hx4 HB2 HB3
   go_wp2_with ((with_reducible show wpList _ _ _ (⟨_,Op.makeSlice _ _ _,_,_,_,_⟩ :: _) _ _);refine Hid.out ?_)
   refine Lib.hid ?_
   refine wpList_mk rfl _ _ _ rfl (n:=d.procs.length) rfl rfl Tryz.underlying29 info_int (by omega) (by omega) ?_
   rw [made_ints]
   have hrm:=made_rowI w4 d.procs.length (by omega)
   have hx5:=ext_alloc w4 (.cells (List.replicate d.procs.length (Value.int .i64 0)).toArray 3)
   generalize w4.alloc _=w5 at *
   obtain ⟨g,hg⟩ : ∃ g,w4.heap.size=g:=⟨_,rfl⟩
   rw [hg] at hrm ⊢
   have HRM:=Lib.hid hrm
   have HX5:=Lib.hid hx5
   have HG:=Lib.hid hg
   clear hrm hx5 hg y1
   go_wp2_with fail
   go_loopw [10] (fun i wr=>∃ (k:Nat) (cur:List Int),k ≤ oo.length∧i=.int .i64 k∧cur.length=d.procs.length∧(∀ x ∈ cur,0 ≤ x∧x ≤ (k:Int))∧Hid (rlevs G d.procs.length (ckL 0 (d.procs.drop 0)) (rlevs G d.procs.length (oo.drop k) cur)=fin)∧IntRow g (.slice (some ⟨g,0,Option.none⟩) d.procs.length d.procs.length) cur wr∧Ext w4 wr) (fun i _=>oo.length - (intOf i).toNat)
   case atStart=>exact ⟨0,_,Nat.zero_le _,rfl,by simp,fun x hx=>by rw [List.eq_of_mem_replicate hx];exact ⟨Int.le_refl _,Int.le_refl _⟩,HFIN,HRM.out,HX5.out⟩
   case round =>
    clear HRM HX5 HFIN
    obtain ⟨k,cur,hk,rfl,hcl,hcb,HEN,hrow,hx⟩:=hrel
    have HCL:=Lib.hid hcl
    have HCB:=Lib.hid hcb
    have HROW:=Lib.hid hrow
    have HXR:=Lib.hid hx
    clear hcl hcb hrow hx
    by_cases hlt:k < oo.length
    ·obtain rfl:=HAO.out (by omega)
     have hen:=HEN.out
     rw [List.drop_eq_getElem_cons hlt,rlevs] at hen
     have hpr:=HORR.out _ (List.getElem_mem hlt)
     have HZO:=Lib.hid (fun W (hx:Ext w4 W)=>Ints.cell (k:=k) (HRO.out.mono fun x _ b o h=>Has.ext h hx) hlt)
     generalize oo[k]=p at *
     obtain ⟨m,rfl⟩ : ∃ m:Nat,p=m:=⟨p.toNat,by omega⟩
     have hmn:m < d.procs.length:=by omega
     rw [Int.toNat_natCast] at hen
     obtain rfl:=HAG.out (by omega)
     have hpo:m < (onK d o d.procs.length).length:=by rw [onK_length];exact hmn
     obtain ⟨uu,hu1,hu2⟩:=HGRW.out.get (List.getElem?_eq_getElem hpo)
     rw [HGG.out m hmn] at hu2
     have HU1:=Lib.hid hu1
     have HAB:=Lib.hid (fun W (hx:Ext wr W)=>above_calls12 (setB d.procs.length (G.getD m [])) cur uu (.slice (some ⟨g,0,Option.none⟩) d.procs.length d.procs.length) W (hu2.mono fun x _ b o h=>Has.ext h (HXR.out.trans hx)) ((HROW.out.cells).ext hx) (by rw [setB_length];exact HCL.out) (by rw [setB_length];omega) (B:=(k:Int)) (by omega) (by omega) HCB.out)
     rw [setB_length] at HAB
     have huo:=hu2.one
     have HSB:=Lib.hid (set_bound (B:=(k:Int)) (by omega) HCB.out (setB d.procs.length (G.getD m [])) d.procs.length m)
     generalize setB d.procs.length (G.getD m [])=on at *
     generalize hav:aboveM on cur d.procs.length=av at *
     have HEN2:=Lib.hid hen
     clear hen HEN hu1 hu2 hpo hav
     go_upto_region 10 with fail
     refine wp_region_held_drew (S:=fun W=>Ext w4 W) (by kernel_rfl) (Below.drew HXR.out) (fun hHeld=>?_)
     try simp only [J]
     (refine Jt 0 (_) rfl (yif_load1 rfl fun _ _=>rfl) hHeld ?_;try simp only [J])
     (refine Jt 1 (_) rfl (yif_load1 rfl fun _ _=>rfl) hHeld ?_;try simp only [J])
     (refine Jt 2 (_) rfl (yif_load1 rfl fun _ _=>rfl) hHeld ?_;try simp only [J])
     (refine Jt 3 (.pointer (some ⟨bo,oo' + k,Option.none⟩)) rfl (yif_load1 rfl (by intro W hW;clear hW;go_simp;try (intro h;omega))) hHeld ?_;try simp only [J])
     (refine Jt 4 (.int .i64 (m:Int)) rfl (yif_load1 rfl (by intro W hW;have y:=HZO.out W hW;clear hW;go_simp)) hHeld ?_;try simp only [J])
     (refine Jt 5 (_) rfl (yif_load1 rfl fun _ _=>rfl) hHeld ?_;try simp only [J])
     (refine Jt 6 (_) rfl (yif_load1 rfl fun _ _=>rfl) hHeld ?_;try simp only [J])
     (refine Jt 7 (_) rfl (yif_load1 rfl fun _ _=>rfl) hHeld ?_;try simp only [J])
     (refine Jt 8 (.pointer (some ⟨bo,oo' + k,Option.none⟩)) rfl (yif_load1 rfl (by intro W hW;clear hW;go_simp;try (intro h;omega))) hHeld ?_;try simp only [J])
     (refine Jt 9 (.int .i64 (m:Int)) rfl (yif_load1 rfl (by intro W hW;have y:=HZO.out W hW;clear hW;go_simp)) hHeld ?_;try simp only [J])
     (refine Jt 10 (.pointer (some ⟨bg,og + m,Option.none⟩)) rfl (yif_load1 rfl (by intro W hW;clear hW;go_simp;try (intro h;omega))) hHeld ?_;try simp only [J])
     (refine Jt 11 (uu) rfl (yif_load1 rfl (by intro W hW;have y:=HU1.out.ext hW 0 _ rfl;rw [Nat.mul_one,Nat.add_zero] at y;clear hW;go_simp)) hHeld ?_;try simp only [J])
     (refine Jt 12 (_) rfl (yif_load1 rfl fun _ _=>rfl) hHeld ?_;try simp only [J])
     refine wpAnyH_ready (rs:=[13]) (by kernel_rfl) (by simp) ?_
     refine AllReadyH.cons rfl (fun K hK=>?_) AllReadyH.nil
     go_simp
     refine (HAB.out _ (Below.drew (Below.refl _ _))).mono ?_
     rintro r w6 ⟨rfl,hx6⟩
     have hX6:Ext wr w6:=(Below.drew (Below.refl _ _)).trans hx6
     have hrow6:=HROW.out.ext hX6
     refine hK.out _ _ (hHeld.trans hx6) (fun hHeld=>?_)
     clear hK K
     try simp only [J]
     (refine Jt 14 (.pointer (some ⟨g,m,Option.none⟩)) rfl (yif_load1 rfl (by intro W hW;clear hW;go_simp;try (intro h;omega))) hHeld ?_;try simp only [J])
     have hml:m < cur.length:=by rw [HCL.out];exact hmn
     obtain ⟨q1',q2'⟩:=hrow6.cellf hml
     have hset:=hrow6.set m hml av
     have hg6:=gb_set w6 g m (.int .i64 av)
     have HSET:=Lib.hid hset
     have hx7:Ext w4 (w6.setCell ⟨g,m,none⟩ (.int .i64 av)):=(HXR.out.trans hX6).grown hg6 (by rw [HG.out];exact Nat.le_refl _)
     have HX7:=Lib.hid hx7
     have HCL2:=Lib.hid (show (cur.set m av).length=d.procs.length by rw [List.length_set];exact HCL.out)
     generalize cur.set m av=cur2 at *
     generalize cur[m]'_=cm at *
     clear hrow6 hset hX6 hg6
     refine wpAnyH_ready (rs:=[15]) (by kernel_rfl) (by simp) ?_
     refine AllReadyH.cons rfl (fun K hK=>?_) AllReadyH.nil
     go_simp
     refine hK.out _ _ hx7 (fun hHeld=>?_)
     clear hK K
     try simp only [J]
     refine wpAnyH_done (by kernel_rfl) ?_ _
     clear q1' q2' hx7 hHeld hml
     go_wp2_with fail
     go_roundw
     case rel=>exact ⟨k + 1,cur2,hlt,by go_num,HCL2.out,fun x hx=>by have:=HSB.out x hx;push_cast;omega,HEN2,HSET.out,HX7.out⟩
     case measure=>simp [intOf];omega
    ·obtain rfl:k=oo.length:=by omega
     have hen:=HEN.out
     rw [List.drop_of_length_le (Nat.le_refl _),rlevs] at hen
     have HEN1:=Lib.hid hen
     clear hen HEN
     go_wp2_with fail
     go_loopw [11] (fun i wr=>∃ (k:Nat) (cur:List Int),k ≤ d.procs.length∧i=.int .i64 k∧cur.length=d.procs.length∧(∀ x ∈ cur,0 ≤ x∧x ≤ ((oo.length + k:Nat):Int))∧Hid (rlevs G d.procs.length (ckL k (d.procs.drop k)) cur=fin)∧IntRow g (.slice (some ⟨g,0,Option.none⟩) d.procs.length d.procs.length) cur wr∧Ext w4 wr) (fun i _=>d.procs.length - (intOf i).toNat)
     case atStart=>exact ⟨0,cur,Nat.zero_le _,rfl,HCL.out,fun x hx=>by have:=HCB.out x hx;simpa using this,HEN1,HROW.out,HXR.out⟩
     case round =>
      clear HEN1 HROW HXR HCL HCB
      obtain ⟨k,cur,hk,rfl,hcl,hcb,HEN,hrow,hx⟩:=hrel
      have HCL:=Lib.hid hcl
      have HCB:=Lib.hid hcb
      have HROW:=Lib.hid hrow
      have HXR:=Lib.hid hx
      have y1:=(HB4.out.ext hx).has 1 _ rfl
      rw [Nat.zero_add] at y1
      clear hcl hcb hrow hx
      by_cases hlt:k < d.procs.length
      ·obtain rfl:=HA.out (by omega)
       obtain rfl:=HAG.out (by omega)
       have hen:=HEN.out
       rw [HCS.out k hlt] at hen
       obtain ⟨t2,hhas,-⟩:=Procs.get HR.out hlt
       have yd:=(hhas.ext (HX.out.trans (HX4.out.trans HXR.out))) 0 _ rfl
       rw [Nat.add_zero] at yd
       generalize d.procs[k].clocked=cb at *
       cases cb
       ·rw [if_neg (by decide)] at hen
        have HEN2:=Lib.hid hen
        clear hen HEN hhas
        go_wp2_with fail
        go_roundw
        case rel=>exact ⟨k + 1,cur,hlt,by go_num,HCL.out,fun x hx=>by have:=HCB.out x hx;push_cast at this ⊢;omega,HEN2,HROW.out,HXR.out⟩
        case measure=>simp [intOf];omega
       ·rw [if_pos rfl,rlevs,Int.toNat_natCast] at hen
        have hpo:k < (onK d o d.procs.length).length:=by rw [onK_length];exact hlt
        obtain ⟨uu,hu1,hu2⟩:=HGRW.out.get (List.getElem?_eq_getElem hpo)
        rw [HGG.out k hlt] at hu2
        have yu:=hu1.ext HXR.out 0 _ rfl
        rw [Nat.mul_one,Nat.add_zero] at yu
        have HAB:=Lib.hid (above_calls12 (setB d.procs.length (G.getD k [])) cur uu (.slice (some ⟨g,0,Option.none⟩) d.procs.length d.procs.length) wr (hu2.mono fun x _ b o h=>Has.ext h HXR.out) HROW.out.cells (by rw [setB_length];exact HCL.out) (by rw [setB_length];omega) (B:=((oo.length + k:Nat):Int)) (by omega) (by omega) HCB.out)
        rw [setB_length] at HAB
        have huo:=hu2.one
        have HSB:=Lib.hid (set_bound (B:=((oo.length + k:Nat):Int)) (by omega) HCB.out (setB d.procs.length (G.getD k [])) d.procs.length k)
        generalize setB d.procs.length (G.getD k [])=on at *
        generalize hav:aboveM on cur d.procs.length=av at *
        have hkl:k < cur.length:=by rw [HCL.out];exact hlt
        have HCF:=Lib.hid (fun W (hx:Ext wr W)=>(HROW.out.ext hx).cellf hkl)
        have HST:=Lib.hid (fun W (hx:Ext wr W)=>(HROW.out.ext hx).set k hkl av)
        have HCL2:=Lib.hid (show (cur.set k av).length=d.procs.length by rw [List.length_set];exact HCL.out)
        generalize cur.set k av=cur2 at *
        generalize cur[k]'_=cm at *
        have HEN2:=Lib.hid hen
        clear hen HEN hu1 hu2 hpo hav hhas hkl
        go_wp2_with (first | (go_at_call 36;refine HAB.out.mono ?_;rintro r w6 ⟨rfl,hx6⟩;obtain ⟨q1',q2'⟩:=HCF.out _ hx6))
        go_roundw
        case rel=>exact ⟨k + 1,cur2,hlt,by go_num,HCL2.out,fun x hx=>by have:=HSB.out x hx;push_cast at this ⊢;omega,HEN2,HST.out _ hx6,(HXR.out.trans hx6).grown (gb_set w6 g k (.int .i64 av)) (by rw [HG.out];exact Nat.le_refl _)⟩
        case measure=>simp [intOf];omega
      ·obtain rfl:k=d.procs.length:=by omega
       have hen:=HEN.out
       rw [List.drop_of_length_le (Nat.le_refl _),ckL,rlevs] at hen
       subst hen
       clear HEN
       go_wp2_with fail
       refine bodyPost_ret (v:=.tuple #[.slice (some ⟨g,0,Option.none⟩) d.procs.length d.procs.length,.int .i64 0]) (by simp [results,Tryz.results19,go_sem]) rfl ⟨_,rfl,HROW.out.less (by rw [← HG.out];exact (HX.out.trans HX4.out).size),HX.out.trans (HX4.out.trans HXR.out)⟩
 ·obtain ⟨e,he⟩ : ∃ e,(lookM d).1=e:=⟨_,rfl⟩
  have hld:levD d=(e,[]):=by unfold levD;rw [if_pos hl,he]
  rw [he] at HOR hl
  rw [hld]
  have hb:(e != 0)=true:=by rw [bne_iff_ne];exact hl
  clear hcs hl he hld hS hP hC hok
  go_enter Tryz.func19,Tryz.ntmps19
  go_upto_region 1 with fail
  generalize w.alloc _=w1 at *
  go_wp2_with (first | ((with_reducible show wpList _ _ _ (⟨_,Op.load 26 _,_,_,_,_⟩ :: _) _ _);refine wpList_load_has rfl 26 _ rfl rfl (HB.out.has) agg_Flat rfl ?_) | (go_at_call 17;refine (HOR.out _ HX.out).mono ?_;rintro r w2 ⟨u2,rfl,hr2,hx2⟩))
  refine bodyPost_ret (v:=.tuple #[.slice Option.none 0 0,.int .i64 e]) (by simp [results,Tryz.results19,go_sem]) rfl ⟨_,rfl,IntRow.nil _ _,HX.out.trans hx2⟩
open Go.RowKit
/-! ### what is found, so that the kernel can count it -/
def insI (x:Int):List Int→List Int
 | []=>[x]
 | y :: l=>if x < y then x :: y :: l else if x=y then y :: l else y :: insI x l
def setF (l:List Int):List Int:=l.foldr insI []
theorem insI_mem (x z:Int) (l:List Int):z ∈ insI x l ↔ z=x ∨ z ∈ l:=by
 induction l with
 | nil=>simp [insI]
 | cons y l ih =>
  rw [insI]
  split
  ·simp
  ·split
   ·rename_i h;subst h;simp
   ·simp [ih]
    constructor
    ·rintro (h | h | h) <;> simp [h]
    ·rintro (h | h | h) <;> simp [h]
theorem insI_lt (x:Int) (l:List Int) (h:l.Pairwise (· < ·)):(insI x l).Pairwise (· < ·):=by
 induction l with
 | nil=>simp [insI]
 | cons y l ih =>
  obtain ⟨h1,h2⟩:=List.pairwise_cons.1 h
  rw [insI]
  split
  ·rename_i hxy
   refine List.pairwise_cons.2 ⟨fun z hz=>?_,h⟩
   rcases List.mem_cons.1 hz with e | hz
   ·omega
   ·have:=h1 z hz;omega
  ·split
   ·exact h
   ·rename_i h3 h4
    refine List.pairwise_cons.2 ⟨fun z hz=>?_,ih h2⟩
    rcases (insI_mem x z l).1 hz with e | hz
    ·omega
    ·exact h1 z hz
theorem setF_spec (l:List Int):(setF l).Pairwise (· < ·)∧∀ z,z ∈ setF l ↔ z ∈ l:=by
 induction l with
 | nil=>simp [setF]
 | cons x l ih =>
  refine ⟨insI_lt x _ ih.1,fun z=>?_⟩
  show z ∈ insI x (setF l) ↔ _
  rw [insI_mem,ih.2];simp
theorem setI_F (l:List Int):setI l=setF l:=setI_eq l _ (setF_spec l).1 fun x=>((setF_spec l).2 x).symm
def numbersF (offs:List Int) (xs:List Span):List Int:=setF (allNums offs xs)
theorem numbersM_F (offs:List Int) (xs:List Span):numbersM offs xs=numbersF offs xs:=by rw [numbersM_set,setI_F];rfl
def altF (offs:List Int):T→List Int × List Int
 | ⟨op,sig,hi,lo,_,l⟩ =>
  let r:=setF (fsts l)
  (if op=1 then numbersF offs [⟨sig,hi,lo⟩] else if op=2 ∨ op=3 then metM (snds l) else r,r)
where
 fsts:List T→List Int
  | []=>[]
  | t :: l=>(altF offs t).1 ++ fsts l
 snds:List T→List (List Int)
  | []=>[]
  | t :: l=>(altF offs t).2 :: snds l
theorem altT_F (offs:List Int) (t:T):altT offs t=altF offs t:=by
 induction t using T.ind with
 | h t ih =>
  obtain ⟨op,sig,hi,lo,e,l⟩:=t
  simp only at ih
  have h1:altT.fsts offs l=altF.fsts offs l:=by
   clear e
   induction l with
   | nil=>rfl
   | cons y l ih2 =>
    rw [altT.fsts,altF.fsts,ih y (by simp),ih2 fun z hz=>ih z (by simp [hz])]
  have h2:altT.snds offs l=altF.snds offs l:=by
   clear h1 e
   induction l with
   | nil=>rfl
   | cons y l ih2 =>
    rw [altT.snds,altF.snds,ih y (by simp),ih2 fun z hz=>ih z (by simp [hz])]
  simp only [altT,altF,h1,h2,setI_F,numbersM_F]
def writesF (d:Flat) (p:Int):List Int:=numbersF (offsD d) (spansW (procL d p))
def readsF (d:Flat) (p:Int):List Int:=numbersF (offsD d) (spansR d.signals (procL d p))
def alwaysF (d:Flat) (p:Int):List Int:=setF ((procL d p).map fun t=>(altF (offsD d) t).1).flatten
theorem writesM_F (d:Flat) (p:Int):writesM d p=writesF d p:=numbersM_F _ _
theorem readsM_F (d:Flat) (p:Int):readsM d p=readsF d p:=numbersM_F _ _
theorem alwaysM_F (d:Flat) (p:Int):alwaysM d p=alwaysF d p:=by
 unfold alwaysM alwM alwaysF alwP alt
 rw [setI_F]
 congr 2
 exact List.map_congr_left fun t _=>by rw [altT_F]
def drvF (d:Flat):Int × List Int:=if checkM d=0 then (match drvM (nBits d).toNat ((List.range d.procs.length).map fun (p:Nat)=>writesF d (p:Int)) with | none=>(120,[]) | some o=>(0,o)) else (1,[])
theorem drvD_F (d:Flat):drvD d=drvF d:=by
 unfold drvD drvF wsM
 simp only [writesM_F]
 by_cases h:checkM d=0
 ·rw [if_pos h,if_pos h]
  split <;> simp_all
 ·rw [if_neg h,if_neg h]
def graphF (d:Flat) (by':List Int):List (List Int):=hangM by' (clks d) ((List.range d.procs.length).map fun (p:Nat)=>readsF d (p:Int))
theorem graphM_F (d:Flat) (by':List Int):graphM d by'=graphF d by':=by
 unfold graphM graphF rsM
 simp only [readsM_F]
def latFF (d:Flat):Nat→List Proc→Bool
 | _,[]=>false
 | p,x :: l=>if (!x.clocked && !decide ((writesF d (p:Int)).length=(alwaysF d (p:Int)).length))=true then true else latFF d (p + 1) l
theorem latF_F (d:Flat) (l:List Proc):∀ p,latF d p l=latFF d p l:=by
 induction l with
 | nil=>intro p;rfl
 | cons x l ih=>intro p;rw [latF,latFF,ih,writesM_F,alwaysM_F]
def lookF (d:Flat):Int × List (List Int) × List Int :=
 if (drvF d).1=0 then
  if noneF d.signals (drvF d).2 0 d.signals=true then (121,[],[])
  else if latFF d 0 d.procs=true then (122,[],[])
  else if (ordM (graphF d (drvF d).2) (clks d)).length < wiresM (clks d) then (123,[],[])
  else (0,graphF d (drvF d).2,ordM (graphF d (drvF d).2) (clks d))
 else ((drvF d).1,[],[])
theorem lookM_F (d:Flat):lookM d=lookF d:=by
 unfold lookM lookF
 rw [drvD_F,latF_F,graphM_F]
 by_cases h:(drvF d).1=0
 ·rw [if_neg (by simp [h]),if_pos h]
 ·rw [if_pos h,if_neg h]
/-! ### the chapter's example -/
def sigE (s:Int):E:=⟨2,1,0,s,0,0,0,[]⟩
def setP (s:Int) (e:E):Proc:=⟨false,[⟨1,s,0,0,[e],[]⟩]⟩
def bytesOf (l:List UInt8):ByteArray:=⟨l.toArray⟩
def liveS:List Signal:=[⟨bytesOf [97],1,1,0⟩,⟨bytesOf [98],1,1,0⟩,⟨bytesOf [121],1,2,0⟩,⟨bytesOf [119],1,3,0⟩]
def liveY:Proc:=setP 2 ⟨5,1,0,0,0,0,11,[sigE 0,sigE 3]⟩
def liveD:Flat:=⟨liveS,[liveY,setP 3 (sigE 1)],[]⟩
def liveTwo:Flat:=⟨liveS,[liveY,setP 3 (sigE 1),setP 3 (sigE 2)],[]⟩
def liveLoop:Flat:=⟨liveS,[liveY,setP 3 (sigE 2)],[]⟩
def liveOne:Flat:=⟨liveS,[liveY],[]⟩
set_option maxRecDepth 100000
theorem live_look:lookM liveD=(0,[[1],[]],[1,0]):=by rw [lookM_F];decide +kernel
theorem live_lev:levD liveD=(0,[1,0]):=by unfold levD;rw [live_look];decide +kernel
theorem live_drv:drvD liveD=(0,[-1,-1,0,1]):=by rw [drvD_F];decide +kernel
theorem live_two:(lookM liveTwo).1=120:=by rw [lookM_F];decide +kernel
theorem live_loop:(lookM liveLoop).1=123:=by rw [lookM_F];decide +kernel
theorem live_one:(lookM liveOne).1=121:=by rw [lookM_F];decide +kernel
open Go.RowKit
set_option maxHeartbeats 1000000 in
theorem sig_calls (s:Int) (w:World) :
  Calls Tryz.prog 26 #[.int .i64 s] w fun r w'=>r=.returned (.agg ((sigE s).cells (.slice none 0 0)).toArray)∧Ext w w':=by
 go_enter Tryz.func26,Tryz.ntmps26
 go_upto_region 1 with fail
 have hx:=ext_alloc w (.cells ((sigE s).cells (.slice none 0 0)).toArray 48)
 have hb:=Blk.new w ((sigE s).cells (.slice none 0 0)).toArray 48
 go_wp2_with ((with_reducible show wpList _ _ _ (⟨_,Op.store 48 _ _,_,_,_,_⟩ :: _) _ _);refine wpList_store_new rfl 48 _ _ rfl rfl (by first | rfl | simp) (cs:=(sigE s).cells (.slice none 0 0)) rfl agg_E rfl rfl (by simp [one_int,Value.oneCell']) ?_)
 refine post_ret_blk rfl rfl hb.has agg_E rfl rfl ⟨rfl,hx⟩
theorem sig_VE (s:Int) (w:World):VE w ((sigE s).cells (.slice none 0 0)) (sigE s):=⟨_,rfl,Sl.nil _ _⟩
set_option maxHeartbeats 1000000 in
theorem lset_calls (N:Nat) (s:Int) (cs:List Value) (e:E) (w:World) (h:FV VE N w cs e) (hN:N ≤ w.heap.size) :
  Calls Tryz.prog 25 #[.int .i64 s,.agg cs.toArray] w fun r w'=>∃ cs',r=.returned (.agg cs'.toArray)∧cs'.length=2∧cs'.all (·.oneCell')=true∧FV VProc N w' cs' (setP s e)∧Ext w w':=by
 have HV:=Lib.hid h
 obtain ⟨sv,rfl,hes⟩:=h.here
 have hone:(e.cells sv).all (·.oneCell')=true:=by simp [hes.one,one_int]
 have hx1:=ext_alloc w (.cells (e.cells sv).toArray 48)
 have hb1:=Blk.new w (e.cells sv).toArray 48
 clear hes
 go_enter Tryz.func25,Tryz.ntmps25
 go_upto_region 1 with fail
 have hx2:=ext_alloc (w.alloc (.cells (e.cells sv).toArray 48)) (.cells #[.bool false,.slice none 0 0] 38)
 have hb2:=Blk.new (w.alloc (.cells (e.cells sv).toArray 48)) #[.bool false,.slice none 0 0] 38
 rw [show (w.alloc (.cells (e.cells sv).toArray 48)).heap.size=w.heap.size + 1 by simp] at hb2
 have hb12:=hb1.ext hx2
 have hX2:=hx1.trans hx2
 generalize (w.alloc _).alloc _=w2 at *
 go_wp2_with (first | ((with_reducible show wpList _ _ _ (⟨_,Op.load 48 _,_,_,_,_⟩ :: _) _ _);refine wpList_load_has rfl 48 _ rfl rfl (hb12.has) agg_E rfl ?_) | ((with_reducible show wpList _ _ _ (⟨_,Op.buildSlice _ _ _,_,_,_,_⟩ :: _) _ _);refine Hid.out ?_))
 refine Lib.hid ?_
 refine wpList_bs1 rfl _ _ rfl appE rfl (cs:=e.cells sv) rfl rfl (by decide) ?_
 have hx3:=ext_alloc w2 (.cells (e.cells sv).toArray 48)
 have hb3:=Blk.new w2 (e.cells sv).toArray 48
 have hX3:=hX2.trans hx3
 have hbp:=hb2.ext hx3
 have hs3:(w2.alloc (.cells (e.cells sv).toArray 48)).heap.size=w2.heap.size + 1:=by simp
 have hz2:=hb2.lt
 generalize w2.alloc _=w3 at *
 have HS3:=Lib.hid hs3
 obtain ⟨B2,hB2⟩ : ∃ B2,w2.heap.size=B2:=⟨_,rfl⟩
 rw [hB2] at hb3 hz2 ⊢
 have HB2:=Lib.hid hB2
 clear hs3 hB2
 go_wp2_with ((with_reducible show wpList _ _ _ (⟨_,Op.buildSlice _ _ _,_,_,_,_⟩ :: _) _ _);refine Hid.out ?_)
 refine Lib.hid ?_
 have hx4:=ext_alloc w3 (.cells ((⟨1,s,0,0,[e],[]⟩ : T).cells (.slice (some ⟨B2,0,none⟩) 1 1) (.slice none 0 0)).toArray 68)
 have hb4:=Blk.new w3 ((⟨1,s,0,0,[e],[]⟩ : T).cells (.slice (some ⟨B2,0,none⟩) 1 1) (.slice none 0 0)).toArray 68
 refine wpList_bs1 rfl _ _ rfl appT rfl (cs:=(⟨1,s,0,0,[e],[]⟩ : T).cells (.slice (some ⟨B2,0,none⟩) 1 1) (.slice none 0 0)) rfl rfl (by decide) ?_
 have hX4:=hX3.trans hx4
 have hbp4:=hbp.ext hx4
 have hb34:=hb3.ext hx4
 obtain ⟨B3,hB3⟩ : ∃ B3,w3.heap.size=B3:=⟨_,rfl⟩
 have hz3:w.heap.size + 1 < B3:=by have:=HS3.out;have:=HB2.out;omega
 rw [hB3] at hb4 ⊢
 generalize w3.alloc _=w4 at *
 clear hB3
 go_wp2_with ((with_reducible show wpList _ _ _ (⟨_,Op.store 38 _ _,_,_,_,_⟩ :: _) _ _);refine wpList_store_blk rfl 38 _ _ rfl hbp4 rfl (cs:=[.bool false,.slice (some ⟨B3,0,none⟩) 1 1]) rfl agg_Proc rfl rfl (by simp [one_bool,Value.oneCell']) ?_;intro w5 hb5 hg5)
 have hX5:Ext w w5:=Ext.grown hX4 hg5 (by omega)
 have hb45:=hb4.grown hg5 (by omega)
 have hb35:=hb34.grown hg5 (by omega)
 have HX5:=Lib.hid hX5
 have HB45:=Lib.hid hb45
 have HB35:=Lib.hid hb35
 have hz2':w.heap.size ≤ B2:=by omega
 have hfv:FV VProc N w5 [.bool false,.slice (some ⟨B3,0,none⟩) 1 1] (setP s e):=fun W hW=>by
  have hEs:Es W (.slice (some ⟨B2,0,none⟩) 1 1) [e]:=⟨B2,0,⟨_,1,rfl,Nat.le_refl _,by decide,fun _=>rfl⟩,VE.at (hW.blk HB35.out (by omega)).has (HV.out W ((Since.of_ext HX5.out).trans hW)),trivial⟩
  exact ⟨_,rfl,B3,0,⟨_,1,rfl,Nat.le_refl _,by decide,fun _=>rfl⟩,TAt_iff.2 ⟨_,_,(hW.blk HB45.out (by omega)).has,hEs,Sl.nil _ _⟩,trivial⟩
 refine post_ret_blk rfl rfl hb5.has agg_Proc rfl rfl ⟨_,rfl,rfl,by simp [one_bool,Value.oneCell'],hfv,hX5⟩
theorem Since.more {N B:Nat} {a b c:World} (h:Since N a b) (hg:b.grownBy c (some B)) (hB:B < N ∨ a.heap.size ≤ B):Since N a c :=
 ⟨Nat.le_trans h.1 hg.size,fun x h1 h2=>(hg.block x (Nat.lt_of_lt_of_le h2 h.1) (by intro e;injection e;omega)).trans (h.2 x h1 h2)⟩
theorem sigs_blk {W:World} {B:Nat} (h:Blk W B (liveS.map Signal.cells).flatten.toArray 42):Sigs W (.slice (some ⟨B,0,none⟩) 4 4) liveS :=
 ⟨B,0,⟨_,4,rfl,Nat.le_refl _,by decide,fun _=>rfl⟩,rows_flat (f:=Signal.cells) (fun _=>rfl) liveS 0 h.has⟩
theorem procs_blk {W:World} {B:Nat} {css:List (List Value)} {l:List Proc} (h:Blk W B css.flatten.toArray 38) (hl:css.length=l.length) (h2:∀ cs ∈ css,cs.length=2) (hn:l.length ≤ 1000) (hv:∀ i (h:i < css.length) (h':i < l.length),VProc W css[i] l[i]) :
  Procs W (.slice (some ⟨B,0,none⟩) l.length l.length) l :=
 ⟨B,0,⟨_,l.length,rfl,Nat.le_refl _,by simp only [maxLen];omega,fun _=>rfl⟩,rows_of_flat (V:=VProc) (fun _ _ _ _ _ h hv=>VProc.at h hv) l css W B 0 h.has hl h2 hv⟩
theorem sig_FV (s:Int) (N:Nat) (w:World):FV VE N w ((sigE s).cells (.slice none 0 0)) (sigE s):=fun W _=>sig_VE s W
open Go.RowKit
def MadeD (N:Nat) (w:World) (v:Value) (d:Flat):Prop:=∀ W,Since N w W→FlatV W v d
theorem madeD_of {N:Nat} {w:World} {S P:Nat} {css:List (List Value)} {l:List Proc} (hs:Blk w S (liveS.map Signal.cells).flatten.toArray 42) (hS:N ≤ S) (hp:Blk w P css.flatten.toArray 38) (hP:N ≤ P)
  (hl:css.length=l.length) (h2:∀ cs ∈ css,cs.length=2) (hn:l.length ≤ 1000) (hv:∀ i (h:i < css.length) (h':i < l.length),FV VProc N w css[i] l[i]) :
  MadeD N w (.agg #[.slice (some ⟨S,0,none⟩) 4 4,.slice (some ⟨P,0,none⟩) l.length l.length,.slice none 0 0]) ⟨liveS,l,[]⟩:=fun W hW =>
 ⟨_,_,_,rfl,sigs_blk (hW.blk hs hS),procs_blk (hW.blk hp hP) hl h2 hn (fun i h h'=>hv i h h' W hW),Sl.nil _ _⟩
theorem FV.mono' {α : Type} {V:World→List Value→α→Prop} {N M:Nat} {a b:World} {cs:List Value} {x : α} (h:FV V M a cs x) (hs:Since M a b) (hN:N ≤ M):FV V N b cs x:=fun W hW=>h W (hs.trans (hW.mono hN))
theorem has_since {N:Nat} {a b:World} {B o:Nat} {cs:List Value} (h:Has a B o cs) (hN:N ≤ B) (hs:Since N a b):Has b B o cs:=fun j u hj=>by
 have:=h j u hj
 exact (World.cell?_of_block (a:=⟨B,o + j,none⟩) (hs.2 B hN (World.block_lt_of_cell? a _ this))).trans this
theorem live_ok (l:List Proc) (hw:∀ p ∈ l,p=liveY ∨ ∃ s x:Int,p=setP s (sigE x)∧i64r s∧i64r x) (hn:mNodes ⟨liveS,l,[]⟩ ≤ 1048576) (hl:l.length ≤ 1048576):Flat.ok ⟨liveS,l,[]⟩ where
 wf:={
  signals:=by
   intro x hx
   simp [liveS] at hx
   rcases hx with rfl | rfl | rfl | rfl <;> (refine ⟨by unfold i64r;decide,by unfold i64r;decide,by unfold u64r;decide,by decide⟩)
  procs:=by
   intro p hp t ht
   rcases hw p hp with rfl | ⟨s,x,rfl,h1,h2⟩
   ·simp [liveY,setP] at ht
    subst ht
    simp [T.wf,T.wf.wfs,E.wf,E.wf.wfs,sigE,i64r,u64r]
   ·simp [setP] at ht
    subst ht
    unfold i64r at h1 h2
    simp [T.wf,T.wf.wfs,E.wf,E.wf.wfs,sigE,i64r,u64r]
    omega
  checks:=by intro c hc;cases hc }
 nodes:=hn
 signals:=by show liveS.length ≤ 1048576;decide
 procs:=hl
 checks:=Nat.zero_le _
theorem liveD_ok:liveD.ok:=live_ok _ (by intro p hp;simp at hp;rcases hp with rfl | rfl;exact .inl rfl;exact .inr ⟨3,1,rfl,by unfold i64r;decide,by unfold i64r;decide⟩) (by decide +kernel) (by decide)
theorem liveTwo_ok:liveTwo.ok:=live_ok _ (by intro p hp;simp at hp;rcases hp with rfl | rfl | rfl;exact .inl rfl;exact .inr ⟨3,1,rfl,by unfold i64r;decide,by unfold i64r;decide⟩;exact .inr ⟨3,2,rfl,by unfold i64r;decide,by unfold i64r;decide⟩) (by decide +kernel) (by decide)
theorem liveLoop_ok:liveLoop.ok:=live_ok _ (by intro p hp;simp at hp;rcases hp with rfl | rfl;exact .inl rfl;exact .inr ⟨3,2,rfl,by unfold i64r;decide,by unfold i64r;decide⟩) (by decide +kernel) (by decide)
theorem liveOne_ok:liveOne.ok:=live_ok _ (by intro p hp;simp at hp;rcases hp with rfl;exact .inl rfl) (by decide +kernel) (by decide)
theorem live_order (v:Value) (w:World) (h:FlatV w v liveD):Calls Tryz.prog 16 #[v] w fun r w'=>∃ g c,r=.returned (.tuple #[.slice (some ⟨g,0,none⟩) 2 c,.int .i64 0])∧w.heap.size ≤ g∧Has w' g 0 [.int .i64 1,.int .i64 0]∧Ext w w':=by
 refine (Order_calls liveD v w h liveD_ok).mono ?_
 rintro r w' ⟨ov,rfl,hr,hx⟩
 rw [live_look] at *
 obtain ⟨g,c,he,hg,hc⟩:=hr.open1 (by decide)
 subst he
 exact ⟨g,c,rfl,hg,fun j u hj=>by
  match j,hj with
  | 0,hj=>simp at hj;subst hj;exact hc 0 1 rfl
  | 1,hj=>simp at hj;subst hj;exact hc 1 0 rfl
  | j + 2,hj=>simp at hj,hx⟩
theorem live_levels (v:Value) (w:World) (h:FlatV w v liveD):Calls Tryz.prog 18 #[v] w fun r w'=>∃ g c,r=.returned (.tuple #[.slice (some ⟨g,0,none⟩) 2 c,.int .i64 0])∧w.heap.size ≤ g∧Has w' g 0 [.int .i64 1,.int .i64 0]∧Ext w w':=by
 refine (Levels_calls liveD v w h liveD_ok).mono ?_
 rintro r w' ⟨ov,rfl,hr,hx⟩
 rw [live_lev] at *
 obtain ⟨g,c,he,hg,hc⟩:=hr.open1 (by decide)
 subst he
 exact ⟨g,c,rfl,hg,fun j u hj=>by
  match j,hj with
  | 0,hj=>simp at hj;subst hj;exact hc 0 1 rfl
  | 1,hj=>simp at hj;subst hj;exact hc 1 0 rfl
  | j + 2,hj=>simp at hj,hx⟩
theorem live_drivers (v:Value) (w:World) (h:FlatV w v liveD):Calls Tryz.prog 11 #[v] w fun r w'=>∃ g c,r=.returned (.tuple #[.slice (some ⟨g,0,none⟩) 4 c,.int .i64 0])∧w.heap.size ≤ g∧Has w' g 0 [.int .i64 (-1),.int .i64 (-1),.int .i64 0,.int .i64 1]∧Ext w w':=by
 refine (Drivers_calls liveD v w h liveD_ok).mono ?_
 rintro r w' ⟨ov,rfl,hr,hx⟩
 rw [live_drv] at *
 obtain ⟨g,c,he,hg,hc⟩:=hr.open1 (by decide)
 subst he
 exact ⟨g,c,rfl,hg,fun j u hj=>by
  match j,hj with
  | 0,hj=>simp at hj;subst hj;exact hc 0 (-1) rfl
  | 1,hj=>simp at hj;subst hj;exact hc 1 (-1) rfl
  | 2,hj=>simp at hj;subst hj;exact hc 2 0 rfl
  | 3,hj=>simp at hj;subst hj;exact hc 3 1 rfl
  | j + 4,hj=>simp at hj,hx⟩
theorem live_c1 (v:Value) (w:World) (h:FlatV w v liveD):Calls Tryz.prog 14 #[v] w fun r w'=>r=.returned (.int .i64 0)∧Ext w w':=by
 have:=LCheck_calls liveD v w h liveD_ok;rw [live_look] at this;exact this
theorem live_c2 (v:Value) (w:World) (h:FlatV w v liveTwo):Calls Tryz.prog 14 #[v] w fun r w'=>r=.returned (.int .i64 120)∧Ext w w':=by
 have:=LCheck_calls liveTwo v w h liveTwo_ok;rw [live_two] at this;exact this
theorem live_c3 (v:Value) (w:World) (h:FlatV w v liveLoop):Calls Tryz.prog 14 #[v] w fun r w'=>r=.returned (.int .i64 123)∧Ext w w':=by
 have:=LCheck_calls liveLoop v w h liveLoop_ok;rw [live_loop] at this;exact this
theorem live_c4 (v:Value) (w:World) (h:FlatV w v liveOne):Calls Tryz.prog 14 #[v] w fun r w'=>r=.returned (.int .i64 121)∧Ext w w':=by
 have:=LCheck_calls liveOne v w h liveOne_ok;rw [live_one] at this;exact this
end Go.Proofs.YthpemngachlehaaGreat
