/- Plain: processes of wires run in whatever order, again and again (CycleAny). No program in sight. -/
import Derived.Test.YtoaamjgfhppppaaGreatY27
import Derived.Test.YtoaamjgfhppppaaGreatY16
import Derived.Test.YtoaamjgfhppppaaGreatY00
set_option maxRecDepth 100000
set_option maxHeartbeats 8000000
set_option linter.all false
namespace Go.Proofs.YtoaamjgfhppppaaGreat
open Go.RowKit
def permA (n by' k:Nat):Nat:=if by'%2=1 then n-1-(k+by')%n else (k+by')%n
theorem permA_lt {n by' k:Nat} (h:0<n):permA n by' k<n:=by
 unfold permA
 have:=Nat.mod_lt (k+by') h
 split<;>omega
theorem permA_all {n by' p:Nat} (hp:p<n):∃ k,k<n/\permA n by' k=p:=by
 have key:∀ q,q<n->∃ k,k<n/\(k+by')%n=q:=fun q hq=>by
  refine ⟨(q+(n-by'%n))%n,Nat.mod_lt _ (by omega),?_⟩
  have hm:=Nat.mod_lt by' (show 0<n by omega)
  have hd:=Nat.div_add_mod by' n
  rw [Nat.mod_add_mod,show q+(n-by'%n)+by'=q+n*(by' / n+1) by rw [Nat.mul_add];omega,Nat.add_mul_mod_self_left,Nat.mod_eq_of_lt hq]
 unfold permA
 by_cases h:by'%2=1
 ·obtain ⟨k,hk,e⟩:=key (n-1-p) (by omega)
  exact ⟨k,hk,by rw [if_pos h,e];omega⟩
 ·obtain ⟨k,hk,e⟩:=key p hp
  exact ⟨k,hk,by rw [if_neg h,e]⟩
theorem fix_up {d:Flat} {x S:List Nat} {n:Nat} (h:Ag d.signals x S (Fix d (lookM d).2.2 n)) (hn:(lookM d).2.2[n]? = none):Ag d.signals x S (Fix d (lookM d).2.2 (n+1)) :=
 h.mono fun y hy q a b c=>by have:=hy q a b c;rwa [List.take_add_one,hn,Option.toList_none,List.append_nil] at this
structure Swept (d:Flat) (v:List Nat) (by' i k:Nat) (x:List Nat):Prop where
 val:Val2 d.signals x
 ag:Ag d.signals x (settleM d v) (Fix d (lookM d).2.2 i)
 next:∀ p,(lookM d).2.2[i]? = some p->(∃ j,j<k/\(permA d.procs.length by' j:Int)=p)->Ag d.signals x (settleM d v) (Fix d (lookM d).2.2 (i+1))
theorem Swept.first {d:Flat} (hok:d.ok) (hl:(lookM d).1=0) {v:List Nat} (hv:Val2 d.signals v) (by':Nat):Swept d v by' 0 0 v:=⟨hv,fix_start hok hl hv,fun p _ ⟨j,hj,_⟩=>absurd hj (by omega)⟩
theorem Swept.skip {d:Flat} (hok:d.ok) (hl:(lookM d).1=0) {v x:List Nat} {by' i k:Nat} (h:Swept d v by' i k x) (hc:clkD d (permA d.procs.length by' k:Int)=true):Swept d v by' i (k+1) x :=
 ⟨h.val,h.ag,fun p hp ⟨j,hj,e⟩=>by
  by_cases hjk:j=k
  ·subst hjk
   have:=((look_in hok hl).2 p (List.mem_of_getElem? hp)).2
   rw [e,this] at hc
   cases hc
  ·exact h.next p hp ⟨j,by omega,e⟩⟩
theorem Swept.run {d:Flat} (hok:d.ok) (hl:(lookM d).1=0) {v x:List Nat} (hv:Val2 d.signals v) {by' i k:Nat} (h:Swept d v by' i k x) (hn:0<d.procs.length) (hc:clkD d (permA d.procs.length by' k:Int)=false) :
  Swept d v by' i (k+1) (runL d (permA d.procs.length by' k:Int) x):=by
 have hS:=settle_val hok hl hv
 have hr:=settle_rests hok hl hv
 have hp:Pin d (permA d.procs.length by' k:Int):=⟨by omega,by have:=permA_lt (n:=d.procs.length) (by':=by') (k:=k) hn;omega⟩
 obtain ⟨r1,r2,r3⟩:=fix_run hok hl hS hr h.val h.ag hp hc
 refine ⟨r1,r2,fun p hpi ⟨j,hj,e⟩=>?_⟩
 by_cases hjk:j=k
 ·subst hjk
  exact r3 (by rw [hpi,e])
 ·exact (fix_run hok hl hS hr h.val (h.next p hpi ⟨j,by omega,e⟩) hp hc).2.1
theorem Swept.done {d:Flat} (hok:d.ok) (hl:(lookM d).1=0) {v x:List Nat} {by' i:Nat} (h:Swept d v by' i d.procs.length x):Swept d v by' (i+1) 0 x:=by
 refine ⟨h.val,?_,fun p _ ⟨j,hj,_⟩=>absurd hj (by omega)⟩
 cases hp:(lookM d).2.2[i]? with
 | none=>exact fix_up h.ag hp
 | some p =>
  have hin:=((look_in hok hl).2 p (List.mem_of_getElem? hp)).1
  obtain ⟨k,hk,e⟩:=permA_all (n:=d.procs.length) (by':=by') (p:=p.toNat) (by have:=hin.1;have:=hin.2;omega)
  exact h.next p hp ⟨k,hk,by have:=hin.1;omega⟩
theorem Swept.all {d:Flat} (hok:d.ok) (hl:(lookM d).1=0) {v x:List Nat} (hv:Val2 d.signals v) {by':Nat} (h:Swept d v by' d.procs.length 0 x):x=settleM d v:=by
 obtain ⟨hck,b2,hd,-⟩:=lookM_zero hok hl
 exact fix_all hok hl hv (fix_start hok hl hv) h.val (behind hok hl hd).olen h.ag
end Go.Proofs.YtoaamjgfhppppaaGreat
