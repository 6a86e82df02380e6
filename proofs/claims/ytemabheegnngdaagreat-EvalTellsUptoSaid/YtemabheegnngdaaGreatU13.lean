/- Laws and walks that a claim of this seat leans on: Told, StmtP, Repeat, Graph, Drive, MarkL, U64, Post, Bitv1, EvalM, PopL. -/
import Derived.Test.YtemabheegnngdaaGreatU12
import Derived.Test.YtemabheegnngdaaGreatUWrites
import Derived.Test.YtemabheegnngdaaGreatUAlways
import Derived.Test.YtemabheegnngdaaGreatUReads
import Derived.Test.YtemabheegnngdaaGreatU06
import Derived.Test.YtemabheegnngdaaGreatU01
import Derived.Laws.CopyOwn
import Derived.Lib.ItoaNum
import Derived.Deep.DeepCutAuto
import Derived.Deep.CutBlock
import Derived.Deep.QuietTactic
import Derived.BigQuiet
import Derived.Test.YtemabheegnngdaaGreatU00
set_option linter.all false
namespace Go.Proofs.YtemabheegnngdaaGreat
open Go.RowKit
theorem wpList_call_fvx {P:Program} {ops:Array Oper} {rest:List Oper} {o:Oper} {a:Act} {w:World} {Q:Exit→Act→World→Prop} (hw:Region.wanted o (yielded ops a.tmps)=true)
  (x:Operand) (l:List Operand) (ats:Array TypeId) (ho:o.op=.call { callee:=.value x,args:=l.toArray,argTypes:=ats })
  {g:FuncId} {lb:Array Value} (hx:a.eval x=.func (.func g) #[] lb) (eg:Leads P g) {args:List Value} (hargs:l.map a.eval=args) {R:Value→World→Prop}
  (hc:Calls P g (args.toArray ++ lb) w fun r w'=>∃ u,r=.returned u∧R u w') (h:∀ u w',R u w'→wpList P ops Q rest (a.put o.dst u) w'):wpList P ops Q (o :: rest) a w :=
 BigFrame.wpList_want hw fun K hK=>by
  obtain ⟨dst,op,ty,pos,after,guard⟩:=o
  simp only at ho
  subst ho
  subst hargs
  rw [← List.map_toArray] at hc
  generalize l.toArray=xs at *
  have hrun:(execOp a.eval { dst,op:=.call { callee:=.value x,args:=xs,argTypes:=ats },type:=ty,pos,after,guard }).run P w=.ok (.enter g (xs.map a.eval ++ lb)) w:=by
   have h1:execOp a.eval { dst,op:=.call { callee:=.value x,args:=xs,argTypes:=ats },type:=ty,pos,after,guard } = (Deferred.ofValue (a.eval x) (xs.map a.eval) >>= fun d=>invoke d.target d.args):=rfl
   have h2:(Deferred.ofValue (.func (.func g) #[] lb) (xs.map a.eval) >>= fun d=>invoke d.target d.args)=callFunc g (#[] ++ xs.map a.eval ++ lb):=rfl
   rw [h1,hx,h2,eg,Array.empty_append]
  unfold Oper.wp
  rw [hrun]
  exact hc.mono fun r w' ⟨u,hr,hR⟩=>by subst hr;exact hK _ _ (h u w' hR)
def toldOk (d:Flat) (p:Int):Bool:=decide (checkM d=0) && decide (0 ≤ p) && decide (p < d.procs.length)
open Go.RowKit
/-! ### stmt.Writes, stmt.Reads, stmt.Always of a process -/
/-! what a shaped design gives -/
def StD (ls:List Signal):T→Prop
 | ⟨op,sig,hi,lo,e,l⟩=>(op=1→slice ls sig hi lo=true)∧(op=2 ∨ op=3→0 < l.length)∧(∀ x ∈ e,shape ls x=true)∧oks l
where oks:List T→Prop
 | []=>True
 | t :: l=>StD ls t∧oks l
theorem StD.oks_iff (ls:List Signal) (l:List T):StD.oks ls l ↔ ∀ t ∈ l,StD ls t:=by
 induction l with
 | nil=>simp [StD.oks]
 | cons e l ih=>simp [StD.oks,ih]
theorem StD_iff (ls:List Signal) (t:T):StD ls t ↔ (t.op=1→slice ls t.sig t.hi t.lo=true)∧(t.op=2 ∨ t.op=3→0 < t.l.length)∧(∀ x ∈ t.e,shape ls x=true)∧∀ x ∈ t.l,StD ls x:=by
 cases t;simp [StD,StD.oks_iff]
/-! each statement that stands in statements -/
theorem eachT_all {P:T→Prop} (hP:∀ t,P t→∀ x ∈ t.l,P x) (t:T):P t→∀ x ∈ eachT t,P x:=by
 induction t using T.ind with
 | h t ih =>
  intro ht x hx
  rw [eachT_eq,eachTs_eq] at hx
  rcases List.mem_cons.1 hx with e | hx
  ·rw [e];exact ht
  ·obtain ⟨m,hm,hx⟩:=List.mem_flatten.1 hx
   obtain ⟨y,hy,rfl⟩:=List.mem_map.1 hm
   exact ih y hy (hP t ht y hy) x hx
theorem eachTs_all {P:T→Prop} (hP:∀ t,P t→∀ x ∈ t.l,P x) (l:List T) (h:∀ t ∈ l,P t):∀ t ∈ eachT.eachTs l,P t:=by
 intro x hx
 rw [eachTs_eq] at hx
 obtain ⟨m,hm,hx⟩:=List.mem_flatten.1 hx
 obtain ⟨y,hy,rfl⟩:=List.mem_map.1 hm
 exact eachT_all hP y (h y hy) x hx
def eLen (t:T):Nat:=1 + sumBy nodes t.e
/-! the spans of a shaped design may be asked of -/
theorem sigW_64 (ls:List Signal) (hw:∀ x ∈ ls,1 ≤ x.w∧x.w ≤ 64) (sig:Int):sigW ls sig ≤ 64:=by
 unfold sigW
 cases h:ls[sig.toNat]? with
 | none=>simp
 | some s=>exact (hw s (List.mem_of_getElem? h)).2
theorem numOk_slice (ls:List Signal) (hw:∀ x ∈ ls,1 ≤ x.w∧x.w ≤ 64) {sig hi lo:Int} (h:slice ls sig hi lo=true):NumOk (offsM ls ls.length) ⟨sig,hi,lo⟩:=by
 unfold slice at h
 simp only [Bool.and_eq_true,decide_eq_true_eq] at h
 have:=sigW_64 ls hw sig
 have:=offsM_length ls ls.length
 unfold NumOk
 simp only
 omega
theorem partsE_ok (ls:List Signal) (hw:∀ x ∈ ls,1 ≤ x.w∧x.w ≤ 64) (e:E):shape ls e=true→∀ s ∈ partsE ls e,NumOk (offsM ls ls.length) s:=by
 induction e using E.ind with
 | h e ih =>
  intro he s hs
  rw [shape_eq,Bool.and_eq_true,List.all_eq_true] at he
  rw [partsE_eq,List.mem_append] at hs
  rcases hs with hs | hs
  ·unfold spans0 at hs
   split at hs
   ·rename_i h2
    have h0:=he.1
    rw [h2] at h0
    simp [shape0] at h0
    rw [List.mem_singleton.1 hs]
    exact numOk_slice ls hw h0.1.2
   ·split at hs
    ·rename_i h3
     have h0:=he.1
     rw [h3] at h0
     simp [shape0] at h0
     rw [List.mem_singleton.1 hs]
     have:=sigW_64 ls hw e.sig
     have:=offsM_length ls ls.length
     unfold NumOk
     simp only
     omega
    ·cases hs
  ·obtain ⟨m,hm,hs⟩:=List.mem_flatten.1 hs
   obtain ⟨y,hy,rfl⟩:=List.mem_map.1 hm
   exact ih y hy (he.2 y hy) s hs
/-! the models -/
def procL (d:Flat) (p:Int):List T:=match d.procs[p.toNat]? with | some x=>x.l | none=>[]
def offsD (d:Flat):List Int:=offsM d.signals d.signals.length
def spansW (l:List T):List Span:=wS (eachT.eachTs l) (eachT.eachTs l).length
def spansR (ls:List Signal) (l:List T):List Span:=rS ls (eachT.eachTs l) (eachT.eachTs l).length
def writesM (d:Flat) (p:Int):List Int:=numbersM (offsD d) (spansW (procL d p))
def readsM (d:Flat) (p:Int):List Int:=numbersM (offsD d) (spansR d.signals (procL d p))
def alwaysM (d:Flat) (p:Int):List Int:=alwM (offsD d) (procL d p)
structure ProcD (d:Flat) (l:List T):Prop where
 ow:∀ x ∈ d.signals,1 ≤ x.w∧x.w ≤ 64
 st:∀ t ∈ l,StD d.signals t
 nodes:sumBy nodesT l ≤ 1048576
 sigs:d.signals.length ≤ 1048576
theorem ProcD.each {d:Flat} {l:List T} (h:ProcD d l):∀ t ∈ eachT.eachTs l,StD d.signals t :=
 eachTs_all (fun t ht=>((StD_iff _ _).1 ht).2.2.2) l h.st
theorem ProcD.w {d:Flat} {l:List T} (h:ProcD d l):∀ s ∈ spansW l,NumOk (offsM d.signals d.signals.length) s:=by
 intro s hs
 unfold spansW wS at hs
 obtain ⟨t,ht,rfl⟩:=List.mem_map.1 hs
 obtain ⟨ht,ho⟩:=List.mem_filter.1 ht
 exact numOk_slice _ h.ow (((StD_iff _ _).1 (h.each t (List.mem_of_mem_take ht))).1 (by simpa using ho))
theorem ProcD.r {d:Flat} {l:List T} (h:ProcD d l):∀ s ∈ spansR d.signals l,NumOk (offsM d.signals d.signals.length) s:=by
 intro s hs
 unfold spansR rS at hs
 obtain ⟨m,hm,hs⟩:=List.mem_flatten.1 hs
 obtain ⟨t,ht,rfl⟩:=List.mem_map.1 hm
 obtain ⟨m,hm,hs⟩:=List.mem_flatten.1 hs
 obtain ⟨e,he,rfl⟩:=List.mem_map.1 hm
 exact partsE_ok _ h.ow e (((StD_iff _ _).1 (h.each t (List.mem_of_mem_take ht))).2.2.1 e he) s hs
open Go.RowKit
/-! ### slices.Repeat, of one number -/
/-! ### who drives each bit -/
def drv1 (p:Int):List Int→List Int→Option (List Int)
 | [],out=>some out
 | b :: l,out=>if 0 ≤ out.getD b.toNat 0 then none else drv1 p l (out.set b.toNat p)
def drvs:Nat→List (List Int)→List Int→Option (List Int)
 | _,[],out=>some out
 | p,l :: ws,out=>match drv1 p l out with
  | none=>none
  | some o=>drvs (p + 1) ws o
def drvM (n:Nat) (ws:List (List Int)):Option (List Int):=drvs 0 ws (List.replicate n (-1))
/-! ### on whom each process hangs -/
def hang1 (by':List Int) (clk:List Bool):List Int→List Int→List Int
 | [],g=>g
 | b :: r,g =>
  let q:=by'.getD b.toNat 0
  if (decide (0 ≤ q) && !clk.getD q.toNat false && !g.contains q)=true then hang1 by' clk r (g ++ [q]) else hang1 by' clk r g
def hangM (by':List Int) (clk:List Bool) (rs:List (List Int)):List (List Int):=rs.map fun r=>hang1 by' clk r []
/-! ### in which order -/
def ready (g:List (List Int)) (clk come:List Bool) (p:Nat):Bool :=
 !come.getD p false && !clk.getD p false && (g.getD p []).all fun q=>come.getD q.toNat false
def nextFrom (g:List (List Int)) (clk come:List Bool):Nat→Nat→Int
 | 0,_=>-1
 | n + 1,p=>if ready g clk come p=true then p else nextFrom g clk come n (p + 1)
def nextM (g:List (List Int)) (clk come:List Bool):Int:=nextFrom g clk come g.length 0
def orderM (g:List (List Int)) (clk:List Bool):Nat→List Bool→List Int→List Int
 | 0,_,out=>out
 | n + 1,come,out =>
  let p:=nextM g clk come
  if 0 ≤ p then orderM g clk n (come.set p.toNat true) (out ++ [p]) else out
/-! ### how deep -/
def lev1 (p:Nat):List Int→List Int→List Int
 | [],out=>out
 | q :: l,out=>lev1 p l (out.set p (max (out.getD p 0) (out.getD q.toNat 0 + 1)))
def levs (g:List (List Int)):List Int→List Int→List Int
 | [],out=>out
 | p :: o,out=>levs g o (lev1 p.toNat (g.getD p.toNat []) out)
/-! ### laws: drivers -/
/-! ### laws: whom a process hangs on -/
/-! ### laws: the order -/
theorem ready_iff (g:List (List Int)) (clk come:List Bool) (p:Nat):ready g clk come p=true ↔ come.getD p false=false∧clk.getD p false=false∧∀ q ∈ g.getD p [],come.getD q.toNat false=true:=by
 simp [ready,and_assoc]
structure Ord (g:List (List Int)) (clk come:List Bool) (out:List Int):Prop where
 len:come.length=g.length
 came:∀ p:Nat,come.getD p false=true ↔ (p:Int) ∈ out
 inr:∀ p ∈ out,0 ≤ p∧p < g.length∧clk.getD p.toNat false=false
 nodup:out.Nodup
 behind:∀ (i:Nat) (p:Int),out[i]? = some p→∀ q ∈ g.getD p.toNat [],((q.toNat:Nat):Int) ∈ out.take i
theorem Ord.nil (g:List (List Int)) (clk:List Bool):Ord g clk (List.replicate g.length false) [] where
 len:=by simp
 came:=by
  intro p
  simp [List.getD_eq_getElem?_getD,List.getElem?_replicate]
  split <;> simp
 inr:=by intro p h;cases h
 nodup:=List.nodup_nil
 behind:=by intro i p h;simp at h
theorem Ord.snoc {g:List (List Int)} {clk come:List Bool} {out:List Int} (h:Ord g clk come out) {k:Nat} (hk:k < g.length) (hr:ready g clk come k=true) :
  Ord g clk (come.set k true) (out ++ [(k:Int)]):=by
 obtain ⟨r1,r2,r3⟩:=(ready_iff _ _ _ _).1 hr
 have hkc:k < come.length:=by rw [h.len];exact hk
 have hnot:(k:Int) ∉ out:=fun hm=>by rw [(h.came k).2 hm] at r1;cases r1
 refine ⟨by rw [List.length_set,h.len],?_,?_,?_,?_⟩
 ·intro p
  by_cases e:k=p
  ·subst e
   simp [List.getD_eq_getElem?_getD,List.getElem?_set_self hkc]
  ·rw [List.getD_eq_getElem?_getD,List.getElem?_set_ne e,← List.getD_eq_getElem?_getD,h.came]
   simp
   omega
 ·intro p hp
  rcases List.mem_append.1 hp with hp | hp
  ·exact h.inr p hp
  ·simp at hp;subst hp
   exact ⟨by omega,by omega,by simpa using r2⟩
 ·rw [List.nodup_append]
  refine ⟨h.nodup,by simp,?_⟩
  intro a ha b hb
  simp at hb
  subst hb
  intro e;subst e;exact hnot ha
 ·intro i p hp q hq
  by_cases hi:i < out.length
  ·rw [List.getElem?_append_left hi] at hp
   have:=h.behind i p hp q hq
   rw [List.take_append_of_le_length (by omega)]
   exact this
  ·rw [List.getElem?_append_right (by omega)] at hp
   have hi2:i - out.length=0:=by
    have:=(List.getElem?_eq_some_iff.1 hp).1
    simp at this;omega
   rw [hi2] at hp
   simp at hp
   subst hp
   rw [Int.toNat_natCast] at hq
   have:=r3 q hq
   have hm:=(h.came _).1 this
   rw [show i=out.length by omega,List.take_left']
   ·exact hm
   ·rfl
def falses (l:List Bool):Nat:=l.countP fun b=>!b
/-! ### laws: how deep -/
/-! ### laws: the order has all processes of wires just if there is a rank -/
def wiresM (clk:List Bool):Nat:=clk.countP fun b=>!b
open Go.RowKit
/-! ### plain: the bits that processes write and read are the design's -/
def SpanD (ls:List Signal) (s:Span):Prop:=0 ≤ s.sig∧s.sig < ls.length∧0 ≤ s.lo∧s.hi < sigW ls s.sig
theorem slice_span {ls:List Signal} {sig hi lo:Int} (h:slice ls sig hi lo=true):SpanD ls ⟨sig,hi,lo⟩:=by
 unfold slice at h
 simp only [Bool.and_eq_true,decide_eq_true_eq] at h
 unfold SpanD
 simp only
 omega
theorem ProcD.spansW {d:Flat} {l:List T} (h:ProcD d l):∀ s ∈ spansW l,SpanD d.signals s:=by
 intro s hs
 unfold Go.Proofs.YtemabheegnngdaaGreat.spansW wS at hs
 obtain ⟨t,ht,rfl⟩:=List.mem_map.1 hs
 obtain ⟨ht,ho⟩:=List.mem_filter.1 ht
 exact slice_span (((StD_iff _ _).1 (h.each t (List.mem_of_mem_take ht))).1 (by simpa using ho))
theorem partsE_span (ls:List Signal) (e:E):shape ls e=true→∀ s ∈ partsE ls e,SpanD ls s:=by
 induction e using E.ind with
 | h e ih =>
  intro he s hs
  rw [shape_eq,Bool.and_eq_true,List.all_eq_true] at he
  rw [partsE_eq,List.mem_append] at hs
  rcases hs with hs | hs
  ·unfold spans0 at hs
   split at hs
   ·rename_i h2
    have h0:=he.1
    rw [h2] at h0
    simp [shape0] at h0
    rw [List.mem_singleton.1 hs]
    exact slice_span h0.1.2
   ·split at hs
    ·rename_i h3
     have h0:=he.1
     rw [h3] at h0
     simp [shape0] at h0
     rw [List.mem_singleton.1 hs]
     unfold SpanD
     simp only
     omega
    ·cases hs
  ·obtain ⟨m,hm,hs⟩:=List.mem_flatten.1 hs
   obtain ⟨y,hy,rfl⟩:=List.mem_map.1 hm
   exact ih y hy (he.2 y hy) s hs
theorem ProcD.spansR {d:Flat} {l:List T} (h:ProcD d l):∀ s ∈ spansR d.signals l,SpanD d.signals s:=by
 intro s hs
 unfold Go.Proofs.YtemabheegnngdaaGreat.spansR rS at hs
 obtain ⟨m,hm,hs⟩:=List.mem_flatten.1 hs
 obtain ⟨t,ht,rfl⟩:=List.mem_map.1 hm
 obtain ⟨m,hm,hs⟩:=List.mem_flatten.1 hs
 obtain ⟨e,he,rfl⟩:=List.mem_map.1 hm
 exact partsE_span _ e (((StD_iff _ _).1 (h.each t (List.mem_of_mem_take ht))).2.2.1 e he) s hs
def nBits (d:Flat):Int:=sumW d.signals d.signals.length
def wsM (d:Flat):List (List Int):=(List.range d.procs.length).map fun (p:Nat)=>writesM d (p:Int)
def drvD (d:Flat):Int × List Int:=if checkM d=0 then (match drvM (nBits d).toNat (wsM d) with | none=>(120,[]) | some o=>(0,o)) else (1,[])
def drvEnd:Option (List Int)→Int × List Int
 | none=>(120,[])
 | some o=>(0,o)
theorem IntRow.ofBlk {N g:Nat} {l:List Int} {w:World} (h:Blk w g (l.map (Value.int .i64)).toArray 3) (hN:N ≤ g) (hm:l.length ≤ 9223372036854775807):IntRow N (.slice (some ⟨g,0,none⟩) l.length l.length) l w :=
 ⟨by simp,.inr ⟨g,l.length,_,rfl,hN,h,Nat.le_refl _,by simpa [maxLen] using hm,by simp,by rw [Nat.mul_one];exact List.take_of_length_le (by simp)⟩⟩
open Go.RowKit
/-! ### marks: of the numbers below n those that a list has -/
def setB (n:Nat) (S:List Int):List Bool:=(List.range n).map fun (i:Nat)=>decide ((i:Int) ∈ S)
theorem setB_length (n:Nat) (S:List Int):(setB n S).length=n:=by simp [setB]
theorem setB_get {n:Nat} (S:List Int) {i:Nat} (h:i < n):(setB n S)[i]? = some (decide ((i:Int) ∈ S)):=by simp [setB,h]
theorem setB_getElem {n:Nat} (S:List Int) {i:Nat} (h:i < (setB n S).length):(setB n S)[i]=decide ((i:Int) ∈ S):=by simp [setB]
theorem setB_nil (n:Nat):setB n []=List.replicate n false:=by
 refine List.ext_getElem (by simp [setB]) fun i h1 h2=>by simp [setB]
theorem setB_ext {n:Nat} {S S':List Int} (h:∀ x,x ∈ S ↔ x ∈ S'):setB n S=setB n S':=by
 unfold setB
 refine List.map_congr_left fun i _=>?_
 simp [h]
theorem setB_set (n:Nat) (S:List Int) (j:Int) (h:0 ≤ j):(setB n S).set j.toNat true=setB n (S ++ [j]):=by
 refine List.ext_getElem (by simp [setB]) fun i h1 h2=>?_
 rw [List.getElem_set,setB_getElem,setB_getElem]
 by_cases e:j.toNat=i
 ·rw [if_pos e]
  have:(i:Int)=j:=by omega
  rw [this];simp
 ·rw [if_neg e]
  have : ¬ (i:Int)=j:=by omega
  simp [this]
theorem setB_or (n:Nat) (S S':List Int):List.zipWith (fun a b=>a || b) (setB n S) (setB n S')=setB n (S ++ S'):=by
 refine List.ext_getElem (by simp [setB]) fun i h1 h2=>?_
 simp [setB]
theorem setB_and (n:Nat) (S S':List Int):List.zipWith (fun a b=>a && b) (setB n S) (setB n S')=setB n (S.filter fun x=>S'.contains x):=by
 refine List.ext_getElem (by simp [setB]) fun i h1 h2=>?_
 simp [setB,List.mem_filter]
def markedK (bl:List Bool) (k:Nat):List Int:=((List.range k).filter fun i=>bl.getD i false).map fun (i:Nat)=>(i:Int)
theorem markedK_succ (bl:List Bool) (k:Nat):markedK bl (k + 1)=markedK bl k ++ if bl.getD k false=true then [(k:Int)] else []:=by
 unfold markedK
 rw [List.range_succ,List.filter_append,List.map_append]
 congr 1
 by_cases h:bl.getD k false=true
 ·rw [if_pos h];simp only [List.filter_cons,h,if_true,List.filter_nil,List.map_cons,List.map_nil]
 ·rw [if_neg h];simp only [List.filter_cons,h,List.filter_nil];rfl
theorem markedK_length (bl:List Bool) (k:Nat):(markedK bl k).length ≤ k:=by
 unfold markedK
 rw [List.length_map]
 exact Nat.le_trans (List.length_filter_le _ _) (by simp)
theorem markedK_lt (bl:List Bool) (k:Nat):(markedK bl k).Pairwise (· < ·):=by
 unfold markedK
 refine List.Pairwise.map _ (fun a b (h:a < b)=>by omega) (List.Pairwise.filter _ List.pairwise_lt_range)
theorem markedK_mem (bl:List Bool) (k:Nat) (x:Int):x ∈ markedK bl k ↔ ∃ i:Nat,i < k∧bl.getD i false=true∧x=i:=by
 unfold markedK
 simp only [List.mem_map,List.mem_filter,List.mem_range]
 constructor
 ·rintro ⟨i,⟨h1,h2⟩,rfl⟩;exact ⟨i,h1,h2,rfl⟩
 ·rintro ⟨i,h1,h2,rfl⟩;exact ⟨i,⟨h1,h2⟩,rfl⟩
theorem marked_set {n:Nat} {S:List Int} (h:∀ x ∈ S,0 ≤ x∧x < n):markedK (setB n S) n=setI S:=by
 refine (setI_eq S _ (markedK_lt _ _) fun x=>?_).symm
 rw [markedK_mem]
 constructor
 ·intro hx
  have:=h x hx
  refine ⟨x.toNat,by omega,?_,by omega⟩
  rw [List.getD_eq_getElem?_getD,setB_get _ (by omega)]
  simp only [Option.getD_some,decide_eq_true_eq]
  rw [show ((x.toNat:Nat):Int)=x by omega];exact hx
 ·rintro ⟨i,h1,h2,rfl⟩
  rw [List.getD_eq_getElem?_getD,setB_get _ h1] at h2
  simpa using h2
/-! ### what a span marks, number by number -/
def numsK (offs:List Int) (s:Span) (k:Nat):List Int:=(List.range k).map fun (j:Nat)=>offs.getD s.sig.toNat 0 + (s.lo + (j:Int))
theorem numsK_succ (offs:List Int) (s:Span) (k:Nat):numsK offs s (k + 1)=numsK offs s k ++ [offs.getD s.sig.toNat 0 + (s.lo + (k:Int))]:=by
 unfold numsK;rw [List.range_succ,List.map_append];rfl
theorem numsK_full (offs:List Int) (s:Span):numsK offs s (s.hi - s.lo + 1).toNat=numsOf offs s:=rfl
/-! ### all that is marked stands in the design -/
theorem allNums_append (offs:List Int) (xs ys:List Span):allNums offs (xs ++ ys)=allNums offs xs ++ allNums offs ys:=by
 unfold allNums;rw [List.map_append,List.flatten_append]
theorem allNums_range (ls:List Signal) {xs:List Span} (h:∀ s ∈ xs,SpanD ls s) (hw:∀ x ∈ ls,1 ≤ x.w∧x.w ≤ 64):∀ x ∈ allNums (offsM ls ls.length) xs,0 ≤ x∧x < sumW ls ls.length:=by
 intro x hx
 obtain ⟨l,hl,hxl⟩:=List.mem_flatten.1 hx
 obtain ⟨s,hs,rfl⟩:=List.mem_map.1 hl
 obtain ⟨j,h1,h2,rfl⟩:=(mem_numsOf _ _ _).1 hxl
 have hd:=h s hs
 unfold SpanD at hd
 have hk:s.sig.toNat < ls.length:=by omega
 rw [offsM_getD ls _ _ (by omega)]
 have hsg:sigW ls s.sig=ls[s.sig.toNat].w:=by unfold sigW;rw [List.getElem?_eq_getElem hk]
 have h3:=sumW_succ ls s.sig.toNat hk
 have h4:=sumW_mono ls hw (s.sig.toNat + 1) ls.length (by omega) (Nat.le_refl _)
 have h5:=(sumW_le ls hw s.sig.toNat (by omega)).1
 omega
open Go.RowKit
abbrev U (x:BitVec 64):Value:=.int .u64 (x.toNat:Int)
theorem u_of (x:BitVec 64):BitVec.ofInt 64 (x.toNat:Int)=x:=by
 rw [BitVec.ofInt_natCast,BitVec.ofNat_toNat,BitVec.setWidth_eq]
theorem u_wrap (x:BitVec 64):IntKind.u64.wrap (x.toNat:Int)=x.toNat:=by
 rw [IntKind.wrap_u64];have:=x.isLt;omega
theorem u_shl (x:BitVec 64) (n:Nat):IntKind.u64.wrap ((x.toNat:Int) * 2 ^ n)=(x <<< n).toNat:=by
 rw [IntKind.wrap_u64,BitVec.toNat_shiftLeft,Nat.shiftLeft_eq];simp
theorem u_nat {n:Nat} (h:n < 18446744073709551616):∃ x:BitVec 64,x.toNat=n:=⟨BitVec.ofNat 64 n,by rw [BitVec.toNat_ofNat];omega⟩
theorem u_and (x y:BitVec 64):bits .and .u64 (x.toNat:Int) (y.toNat:Int)=((x &&& y).toNat:Int):=by
 unfold bits;simp only [IntKind.bits];rw [u_of,u_of];exact u_wrap _
theorem u_or (x y:BitVec 64):bits .or .u64 (x.toNat:Int) (y.toNat:Int)=((x ||| y).toNat:Int):=by
 unfold bits;simp only [IntKind.bits];rw [u_of,u_of];exact u_wrap _
theorem u_xor (x y:BitVec 64):bits .xor .u64 (x.toNat:Int) (y.toNat:Int)=((x ^^^ y).toNat:Int):=by
 unfold bits;simp only [IntKind.bits];rw [u_of,u_of];exact u_wrap _
theorem u_andNot (x y:BitVec 64):bits .andNot .u64 (x.toNat:Int) (y.toNat:Int)=((x &&& ~~~y).toNat:Int):=by
 unfold bits;simp only [IntKind.bits];rw [u_of,u_of];exact u_wrap _
theorem U_and (x y:BitVec 64):U (x &&& y)=.int .u64 (bits .and .u64 (x.toNat:Int) (y.toNat:Int)):=by rw [u_and]
theorem u_max:IntKind.u64.max=((18446744073709551615#64).toNat:Int):=by decide
theorem u_not (x:BitVec 64):bits .xor .u64 IntKind.u64.max (x.toNat:Int)=((~~~x).toNat:Int):=by
 rw [u_max,u_xor,show 18446744073709551615#64=BitVec.allOnes 64 by decide,BitVec.allOnes_xor]
theorem n_not {v:Nat} (hv:v < 18446744073709551616):bits .xor .u64 IntKind.u64.max (v:Int)=((18446744073709551615 - v:Nat):Int):=by
 obtain ⟨x,rfl⟩:=u_nat hv
 rw [u_not,BitVec.toNat_not]
theorem n_or' {a b:Nat} (ha:a < 18446744073709551616) (hb:b < 18446744073709551616):bits .or .u64 (a:Int) (b:Int)=((a ||| b:Nat):Int):=by
 obtain ⟨x,rfl⟩:=u_nat ha
 obtain ⟨y,rfl⟩:=u_nat hb
 rw [u_or,BitVec.toNat_or]
theorem n_xor {a b:Nat} (ha:a < 18446744073709551616) (hb:b < 18446744073709551616):bits .xor .u64 (a:Int) (b:Int)=((a ^^^ b:Nat):Int):=by
 obtain ⟨x,rfl⟩:=u_nat ha
 obtain ⟨y,rfl⟩:=u_nat hb
 rw [u_xor,BitVec.toNat_xor]
open Go.RowKit
theorem post_ret_blk2' {P:Program} {fn:Func} {R:Ending→World→Prop} {a:Act} {w:World} {p q:Tmp} {ty:TypeId} {B:Nat} {cs:List Value} {v:Value} {n:Nat} (hf:fn.results = #[.cell p ty,.tmp q])
  (hp:a.tmps.getD p undef=.pointer (some ⟨B,0,none⟩)) (hq:a.tmps.getD q undef=v) (hb:Has w B 0 cs) (hu:Agg P ty n) (hn:cs.length=n) (hd:a.defers=[]) (h:R (.returned (.tuple #[.agg cs.toArray,v])) w):bodyPost P fn R .ret a w:=by
 subst hn
 subst hq
 refine bodyPost_ret ?_ hd h
 have hp':a.tmps[p]?.getD undef=.pointer (some ⟨B,0,none⟩):=by simpa using hp
 simp [results,hf,hp',asAddr,run_loadVar_has w B 0 ty cs hb hu]
open Go.RowKit
structure Bt where
 w:Int
 v:Nat
abbrev Bt.cells (x:Bt):List Value:=[.int .i64 x.w,.int .u64 (x.v:Int)]
def Bt.ok (x:Bt):Prop:=1 ≤ x.w∧x.w ≤ 64∧x.v < 2 ^ x.w.toNat
theorem agg_Bits:Agg Tryz.prog 60 2:=by unfold Agg;exact ⟨by kernel_rfl,by kernel_rfl⟩
def maskB (w:Int):BitVec 64:=if w ≤ 0 then 0#64 else if w < 64 then ~~~(18446744073709551615#64 <<< w.toNat) else 18446744073709551615#64
theorem maskB_nat (w:Int) (h:0 ≤ w) (h2:w ≤ 64):(maskB w).toNat=2 ^ w.toNat - 1:=by
 obtain ⟨k,rfl⟩:=Int.eq_ofNat_of_zero_le h
 have hk:k ≤ 64:=by omega
 clear h h2
 revert k
 decide +kernel
theorem and_maskB (x:BitVec 64) (w:Int) (h:0 ≤ w) (h2:w ≤ 64):(x &&& maskB w).toNat=x.toNat % 2 ^ w.toNat:=by
 rw [BitVec.toNat_and,maskB_nat w h h2,Nat.and_two_pow_sub_one_eq_mod]
theorem may_maskB (x:BitVec 64) (w:Int) (h:0 ≤ w) (h2:w ≤ 64) (hx:x.toNat < 2 ^ w.toNat):x &&& ~~~maskB w=0#64:=by
 have h1:x &&& maskB w=x:=BitVec.eq_of_toNat_eq (by rw [and_maskB x w h h2,Nat.mod_eq_of_lt hx])
 rw [← h1,BitVec.and_assoc]
 simp
set_option maxHeartbeats 400000 in
theorem Mask_calls (wd:Int) (w:World):Calls Tryz.prog 53 #[.int .i64 wd] w fun r w'=>r=.returned (U (maskB wd))∧w'=w:=by
 go_enter Tryz.func53,Tryz.ntmps53
 by_cases h1:wd ≤ 0
 ·go_wp2_with fail
  all_goals go_ret
  all_goals exact ⟨by unfold maskB;rw [if_pos h1];rfl,rfl⟩
 ·by_cases h2:wd < 64
  ·go_wp2_with fail
   all_goals go_ret
   all_goals refine ⟨?_,rfl⟩
   all_goals unfold maskB
   all_goals rw [if_neg (by omega),if_pos h2]
   all_goals exact congrArg (fun n=>Ending.returned (.int .u64 n)) (by rw [show (18446744073709551615:Int)=((18446744073709551615#64).toNat:Int) from rfl,u_shl,u_not])
  ·go_wp2_with fail
   all_goals go_ret
   all_goals exact ⟨by unfold maskB;rw [if_neg (by omega),if_neg (by omega)];rfl,rfl⟩
theorem Bt.bv {a:Bt} (h:a.ok):∃ x:BitVec 64,a.v=x.toNat∧x &&& ~~~maskB a.w=0#64:=by
 obtain ⟨h1,h2,h3⟩:=h
 have h4:a.v < 2 ^ 64:=Nat.lt_of_lt_of_le h3 (Nat.pow_le_pow_right (by decide) (by omega))
 obtain ⟨x,hx⟩:=u_nat (show a.v < 18446744073709551616 from h4)
 exact ⟨x,hx.symm,may_maskB x a.w (by omega) h2 (by rw [hx];exact h3)⟩
theorem Ext.drewNB {w w':World} (h:Ext w w') (n:Nat):Ext w (w'.drewN n):=⟨h.os,h.tape,h.output,h.size,h.block⟩
theorem Blk.drewN {w:World} {B:Nat} {cs:Array Value} {T:TypeId} (h:Blk w B cs T) (n:Nat):Blk (w.drewN n) B cs T:=h
theorem Has.drewN {w:World} {b o:Nat} {cs:List Value} (h:Has w b o cs) (n:Nat):Has (w.drewN n) b o cs:=h
set_option maxHeartbeats 400000 in
theorem may_calls (a:Bt) (ha:a.ok) (w:World):Calls Tryz.prog 144 #[.agg a.cells.toArray] w fun r w'=>r=.returned (.bool true)∧Ext w w':=by
 obtain ⟨x,hx,h0⟩:=Bt.bv ha
 obtain ⟨h1,h2,-⟩:=ha
 obtain ⟨wd,v⟩:=a
 simp only at hx h0 h1 h2
 subst hx
 have HX:=ext_alloc w (.cells (Bt.cells ⟨wd,x.toNat⟩).toArray 60)
 have hb:=Blk.new w (Bt.cells ⟨wd,x.toNat⟩).toArray 60
 have H0:=Lib.hid h0
 clear h0
 go_enter Tryz.func144,Tryz.ntmps144
 go_upto_region 1 with fail
 generalize w.alloc _=w0 at *
 have g0:=hb.has 0 _ rfl
 have g1:=hb.has 1 _ rfl
 have b1:(decide (0 < wd))=true:=by simp;omega
 have b2:(decide (wd ≤ 64))=true:=by simp;omega
 have hm:=fun W=>Mask_calls wd W
 have HM:=Lib.hid hm
 clear hm
 go_quiet (first | (go_at_call 53;refine Calls.quiet_of_same (HM.out _)))
 go_wp2_with fail
 go_ret
 exact ⟨congrArg (fun b=>Ending.returned (.bool b)) (by rw [u_andNot,H0.out];rfl),HX.drewNB nq⟩
set_option maxHeartbeats 400000 in
theorem made_calls (wd:Int) (x:BitVec 64) (w:World):Calls Tryz.prog 143 #[.bool true,.int .i64 wd,U x] w fun r w' =>
  r=.returned (.tuple #[.agg #[.int .i64 wd,U (x &&& maskB wd)],.int .i64 0])∧Ext w w':=by
 have HX:=ext_alloc w (.cells #[.int .i64 0,.int .u64 0] 60)
 have hb:=Blk.new w #[.int .i64 0,.int .u64 0] 60
 go_enter Tryz.func143,Tryz.ntmps143
 go_upto_region 1 with fail
 generalize w.alloc _=w0 at *
 go_wp2_with (first | (go_at_call 53;refine (Mask_calls _ _).mono ?_;rintro r w1 ⟨rfl,rfl⟩) | ((with_reducible show wpList _ _ _ (⟨_,Op.store 60 _ _,_,_,_,_⟩ :: _) _ _);refine wpList_store_blk rfl 60 _ _ rfl (hb) rfl (cs:=[.int .i64 wd,U (x &&& maskB wd)]) (by (rw [U_and];rfl)) agg_Bits (rfl) rfl (rfl) ?_;intro w4 hb4 hg4))
 refine post_ret_blk2' rfl rfl rfl hb4.has agg_Bits rfl rfl ⟨rfl,HX.grown hg4 (by omega)⟩
set_option maxHeartbeats 400000 in
theorem one_calls (b:Bool) (w:World):Calls Tryz.prog 145 #[.bool b] w fun r w'=>r=.returned (.int .u64 (if b=true then 1 else 0))∧w'=w:=by
 go_enter Tryz.func145,Tryz.ntmps145
 cases b
 ·go_wp2_with fail
  go_ret
  exact ⟨rfl,rfl⟩
 ·go_wp2_with fail
  go_ret
  exact ⟨rfl,rfl⟩
open Go.RowKit
def b2n (b:Bool):Nat:=if b=true then 1 else 0
def popN (v:Nat):Nat:=((List.range 64).filter fun i=>v.testBit i).length
def unM (op:Int) (w v:Nat):Nat :=
 if op=1 then 2 ^ w - 1 - v
 else if op=2 then (2 ^ w - v) % 2 ^ w
 else if op=3 then b2n (decide (v=2 ^ w - 1))
 else if op=4 then b2n (decide (v ≠ 0))
 else if op=5 then popN v % 2
 else b2n (decide (v=0))
def binM (op:Int) (w a b:Nat):Nat :=
 if op=11 ∨ op=25 then a &&& b
 else if op=12 ∨ op=26 then a ||| b
 else if op=13 then a ^^^ b
 else if op=14 then (a + b) % 2 ^ w
 else if op=15 then (a + 2 ^ w - b) % 2 ^ w
 else if op=16 then a * b % 2 ^ w
 else if op=17 then a * 2 ^ b % 2 ^ w
 else if op=18 then a / 2 ^ b
 else if op=19 then b2n (decide (a=b))
 else if op=20 then b2n (decide (a ≠ b))
 else if op=21 then b2n (decide (a < b))
 else if op=22 then b2n (decide (a ≤ b))
 else if op=23 then b2n (decide (b < a))
 else b2n (decide (b ≤ a))
def extN (op:Int) (w wa a:Nat):Nat :=
 if op=32∧2 ^ (wa - 1) ≤ a then a + (2 ^ w - 2 ^ wa) else if op=33 then a % 2 ^ w else a
def catM:List (Int × Nat)→Nat→Nat
 | [],acc=>acc
 | p :: l,acc=>catM l (acc * 2 ^ p.1.toNat + p.2)
def evNode (vs:List Nat) (op w v sig hi lo n:Int) (ws:List Int) (xs:List Nat):Nat :=
 if op=1 then v.toNat
 else if op=2 then vs.getD sig.toNat 0 / 2 ^ lo.toNat % 2 ^ (hi - lo + 1).toNat
 else if op=3 then vs.getD sig.toNat 0 / 2 ^ xs.getD 0 0 % 2
 else if op=4 then unM n (ws.getD 0 0).toNat (xs.getD 0 0)
 else if op=5 then binM n (ws.getD 0 0).toNat (xs.getD 0 0) (xs.getD 1 0)
 else if op=6 then if xs.getD 0 0=1 then xs.getD 1 0 else xs.getD 2 0
 else if op=7 then catM (ws.zip xs) 0
 else extN n w.toNat (ws.getD 0 0).toNat (xs.getD 0 0)
def evM (vs:List Nat):E→Nat
 | ⟨op,w,v,sig,hi,lo,n,l⟩=>evNode vs op w v sig hi lo n (l.map (·.w)) (evs l)
where evs:List E→List Nat
 | []=>[]
 | e :: l=>evM vs e :: evs l
theorem evM_eq (vs:List Nat) (e:E):evM vs e=evNode vs e.op e.w e.v e.sig e.hi e.lo e.n (e.l.map (·.w)) (e.l.map (evM vs)):=by
 have h:∀ l,evM.evs vs l=l.map (evM vs):=by
  intro l
  induction l with
  | nil=>rfl
  | cons x l ih=>rw [evM.evs,ih];rfl
 cases e
 rw [evM,h]
theorem b2n_lt (b:Bool):b2n b < 2:=by cases b <;> decide
theorem unM_lt {op:Int} {w v:Nat} (hv:v < 2 ^ w) (h:op ≠ 1→op ≠ 2→1 ≤ w):unM op w v < 2 ^ w:=by
 have h0:=Nat.two_pow_pos w
 have h2:op ≠ 1→op ≠ 2→2 ≤ 2 ^ w:=fun ho hp=>Nat.le_trans (by decide:2 ≤ 2 ^ 1) (Nat.pow_le_pow_right (by decide) (h ho hp))
 unfold unM
 by_cases o1:op=1
 ·rw [if_pos o1];omega
 ·rw [if_neg o1]
  by_cases o2:op=2
  ·rw [if_pos o2];exact Nat.mod_lt _ h0
  ·rw [if_neg o2]
   have:=h2 o1 o2
   repeat' split
   all_goals first | (have:=b2n_lt (decide (v=2 ^ w - 1));omega) | (have:=b2n_lt (decide (v ≠ 0));omega) | (have:=Nat.mod_lt (popN v) (by decide:0 < 2);omega) | (have:=b2n_lt (decide (v=0));omega)
theorem binM_lt {op:Int} {w a b:Nat} (ha:a < 2 ^ w) (hb:op ≠ 17→op ≠ 18→b < 2 ^ w) (hw:1 ≤ w):binM op w a b < 2 ^ w:=by
 have h0:=Nat.two_pow_pos w
 have h2:2 ≤ 2 ^ w:=Nat.le_trans (by decide:2 ≤ 2 ^ 1) (Nat.pow_le_pow_right (by decide) hw)
 have hc:∀ c:Bool,b2n c < 2 ^ w:=fun c=>Nat.lt_of_lt_of_le (b2n_lt c) h2
 unfold binM
 by_cases c0:op=11 ∨ op=25
 ·rw [if_pos c0];exact Nat.and_lt_two_pow _ (hb (by omega) (by omega))
 rw [if_neg c0]
 by_cases c1:op=12 ∨ op=26
 ·rw [if_pos c1];exact Nat.or_lt_two_pow ha (hb (by omega) (by omega))
 rw [if_neg c1]
 by_cases c2:op=13
 ·rw [if_pos c2];exact Nat.xor_lt_two_pow ha (hb (by omega) (by omega))
 rw [if_neg c2]
 by_cases c3:op=14
 ·rw [if_pos c3];exact Nat.mod_lt _ h0
 rw [if_neg c3]
 by_cases c4:op=15
 ·rw [if_pos c4];exact Nat.mod_lt _ h0
 rw [if_neg c4]
 by_cases c5:op=16
 ·rw [if_pos c5];exact Nat.mod_lt _ h0
 rw [if_neg c5]
 by_cases c6:op=17
 ·rw [if_pos c6];exact Nat.mod_lt _ h0
 rw [if_neg c6]
 by_cases c7:op=18
 ·rw [if_pos c7];exact Nat.lt_of_le_of_lt (Nat.div_le_self _ _) ha
 rw [if_neg c7]
 by_cases c8:op=19
 ·rw [if_pos c8];exact hc _
 rw [if_neg c8]
 by_cases c9:op=20
 ·rw [if_pos c9];exact hc _
 rw [if_neg c9]
 by_cases c10:op=21
 ·rw [if_pos c10];exact hc _
 rw [if_neg c10]
 by_cases c11:op=22
 ·rw [if_pos c11];exact hc _
 rw [if_neg c11]
 by_cases c12:op=23
 ·rw [if_pos c12];exact hc _
 rw [if_neg c12]
 exact hc _
theorem extN_lt {op:Int} {w wa a:Nat} (ha:a < 2 ^ wa) (h0:1 ≤ wa) (h:op ≠ 33→wa ≤ w):extN op w wa a < 2 ^ w:=by
 unfold extN
 by_cases c0:op=32∧2 ^ (wa - 1) ≤ a
 ·rw [if_pos c0]
  have:=Nat.pow_le_pow_right (n:=2) (by decide) (h (by omega))
  omega
 rw [if_neg c0]
 by_cases c1:op=33
 ·rw [if_pos c1];exact Nat.mod_lt _ (Nat.two_pow_pos w)
 rw [if_neg c1]
 exact Nat.lt_of_lt_of_le ha (Nat.pow_le_pow_right (by decide) (h c1))
theorem catM_lt (l:List (Int × Nat)):∀ acc k,acc < 2 ^ k→(∀ p ∈ l,p.2 < 2 ^ p.1.toNat)→catM l acc < 2 ^ (k + (l.map fun p=>p.1.toNat).sum):=by
 induction l with
 | nil=>intro acc k h _;simpa [catM] using h
 | cons p l ih =>
  intro acc k h hp
  rw [catM]
  have h1:=hp p (by simp)
  have h2:acc * 2 ^ p.1.toNat + p.2 < 2 ^ (k + p.1.toNat):=by
   rw [Nat.pow_add]
   have:(acc + 1) * 2 ^ p.1.toNat ≤ 2 ^ k * 2 ^ p.1.toNat:=Nat.mul_le_mul_right _ h
   rw [Nat.add_mul] at this
   omega
  have:=ih _ _ h2 (fun q hq=>hp q (by simp [hq]))
  rw [List.map_cons,List.sum_cons,← Nat.add_assoc]
  exact this
open Go.RowKit
def pop:Nat→Nat→Nat
 | 0,_=>0
 | k + 1,v=>v % 2 + pop k (v / 2)
theorem pop_add (j k v:Nat):pop (j + k) v=pop j v + pop k (v / 2 ^ j):=by
 induction j generalizing v with
 | zero=>simp [pop]
 | succ j ih =>
  rw [show j + 1 + k=(j + k) + 1 by omega,pop,pop,ih,Nat.div_div_eq_div_mul,show 2 * 2 ^ j=2 ^ (j + 1) by rw [Nat.pow_succ];omega]
  omega
theorem pop_mod (k v:Nat):pop k (v % 2 ^ k)=pop k v:=by
 induction k generalizing v with
 | zero=>rfl
 | succ k ih =>
  rw [pop,pop]
  have h1:v % 2 ^ (k + 1) % 2=v % 2:=by
   rw [Nat.pow_succ,Nat.mul_comm];exact Nat.mod_mul_right_mod v 2 (2 ^ k)
  have h2:v % 2 ^ (k + 1) / 2=v / 2 % 2 ^ k:=by
   rw [Nat.pow_succ,Nat.mul_comm];exact Nat.mod_mul_right_div_self v 2 (2 ^ k)
  rw [h1,h2,ih]
theorem pop_le (k v:Nat):pop k v ≤ k:=by
 induction k generalizing v with
 | zero=>simp [pop]
 | succ k ih=>rw [pop];have:=ih (v / 2);omega
theorem popN_pop (v:Nat):popN v=pop 64 v:=by
 have h:∀ k v,((List.range k).filter fun i=>v.testBit i).length=pop k v:=by
  intro k
  induction k with
  | zero=>intro v;rfl
  | succ k ih =>
   intro v
   rw [List.range_succ_eq_map,List.filter_cons,pop,← ih]
   have e:((List.map Nat.succ (List.range k)).filter fun i=>v.testBit i).length=((List.range k).filter fun i=>(v / 2).testBit i).length:=by
    rw [List.filter_map,List.length_map]
    congr 1
    apply List.filter_congr
    intro i _
    simp [Nat.testBit_succ]
   by_cases h0:v.testBit 0=true
   ·rw [if_pos h0,List.length_cons,e]
    have:v % 2=1:=by simpa [Nat.testBit_zero] using h0
    omega
   ·rw [if_neg h0,e]
    have:v % 2=0:=by
     have : ¬ v % 2=1:=by simpa [Nat.testBit_zero] using h0
     omega
    omega
 exact h 64 v
/-! ### eight bytes at once -/
def Mk (m:Nat):Nat→Nat
 | 0=>0
 | n + 1=>m + 256 * Mk m n
theorem and_byte (x m M:Nat) (hm:m < 256):x &&& (m + 256 * M)=(x % 256 &&& m) + 256 * (x / 256 &&& M):=by
 have hlt:(x % 256 &&& m) < 2 ^ 8:=Nat.and_lt_two_pow _ hm
 refine Nat.eq_of_testBit_eq fun i=>?_
 have hx:x=x % 2 ^ 8 + 2 ^ 8 * (x / 2 ^ 8):=(Nat.mod_add_div x (2 ^ 8)).symm
 rw [Nat.testBit_and,show m + 256 * M=2 ^ 8 * M + m by omega,show (x % 256 &&& m) + 256 * (x / 256 &&& M)=2 ^ 8 * (x / 256 &&& M) + (x % 256 &&& m) by omega,
  Nat.testBit_two_pow_mul_add _ hm,Nat.testBit_two_pow_mul_add _ hlt]
 by_cases hi:i < 8
 ·rw [if_pos hi,if_pos hi,Nat.testBit_and,show (256:Nat)=2 ^ 8 from rfl,Nat.testBit_mod_two_pow]
  simp [hi]
 ·rw [if_neg hi,if_neg hi,Nat.testBit_and,show (256:Nat)=2 ^ 8 from rfl,Nat.testBit_div_two_pow]
  rw [show i - 8 + 8=i by omega]
def p1 (n v:Nat):Nat:=(v / 2 &&& Mk 85 n) + (v &&& Mk 85 n)
def p2 (n v:Nat):Nat:=(p1 n v / 4 &&& Mk 51 n) + (p1 n v &&& Mk 51 n)
def p3 (n v:Nat):Nat:=(p2 n v / 16 + p2 n v) &&& Mk 15 n
def q1 (b:Nat):Nat:=(b / 2 &&& 85) + (b &&& 85)
def q2 (b:Nat):Nat:=(q1 b / 4 &&& 51) + (q1 b &&& 51)
theorem bytes:∀ b,b < 256→q1 b < 256∧q2 b < 256∧q2 b % 16 ≤ 4∧q2 b / 16 ≤ 4∧q2 b % 16 + q2 b / 16=pop 8 b∧((b / 2 + 128) &&& 85)=(b / 2 &&& 85) ∧
  (∀ r,r < 4→((q1 b / 4 + 64 * r) &&& 51)=(q1 b / 4 &&& 51)):=by decide +kernel
theorem p1_step (n b y:Nat) (hb:b < 256):p1 (n + 1) (b + 256 * y)=q1 b + 256 * p1 n y:=by
 obtain ⟨-,-,-,-,-,h,-⟩:=bytes b hb
 unfold p1 q1
 rw [Mk,and_byte _ _ _ (by decide),and_byte _ _ _ (by decide)]
 rw [show (b + 256 * y) / 256=y by omega,show (b + 256 * y) % 256=b by omega,show (b + 256 * y) / 2 / 256=y / 2 by omega]
 have:(b + 256 * y) / 2 % 256=b / 2 ∨ (b + 256 * y) / 2 % 256=b / 2 + 128:=by omega
 rcases this with e | e <;> rw [e]
 ·omega
 ·rw [h];omega
theorem p2_step (n b y:Nat) (hb:b < 256):p2 (n + 1) (b + 256 * y)=q2 b + 256 * p2 n y:=by
 obtain ⟨h1,-,-,-,-,-,h⟩:=bytes b hb
 unfold p2
 rw [p1_step n b y hb,Mk,and_byte _ _ _ (by decide),and_byte _ _ _ (by decide)]
 generalize p1 n y=s
 unfold q2
 generalize q1 b=q at *
 rw [show (q + 256 * s) / 256=s by omega,show (q + 256 * s) % 256=q by omega,show (q + 256 * s) / 4 / 256=s / 4 by omega,
  show (q + 256 * s) / 4 % 256=q / 4 + 64 * (s % 4) by omega,h _ (by omega)]
 omega
theorem p2_low (n v:Nat) (hv:v < 256 ^ n):p2 n v % 16 ≤ 4:=by
 cases n with
 | zero=>simp [p2,p1,Mk]
 | succ n =>
  have hb:v % 256 < 256:=Nat.mod_lt _ (by decide)
  rw [show v=v % 256 + 256 * (v / 256) by omega,p2_step n _ _ hb]
  have:=(bytes _ hb).2.2.1
  omega
theorem p3_step (n b y:Nat) (hb:b < 256) (hy:y < 256 ^ n):p3 (n + 1) (b + 256 * y)=pop 8 b + 256 * p3 n y:=by
 obtain ⟨-,h1,h2,h3,h4,-⟩:=bytes b hb
 have h5:=p2_low n y hy
 unfold p3
 rw [p2_step n b y hb,Mk,and_byte _ _ _ (by decide)]
 generalize p2 n y=s at *
 generalize q2 b=q at *
 rw [show ((q + 256 * s) / 16 + (q + 256 * s)) / 256=s / 16 + s by omega]
 congr 1
 rw [show (15:Nat)=2 ^ 4 - 1 from rfl,Nat.and_two_pow_sub_one_eq_mod]
 omega
theorem p3_bytes (v:Nat) (hv:v < 2 ^ 64):∃ c0 c1 c2 c3 c4 c5 c6 c7,p3 8 v=c0 + 256 * (c1 + 256 * (c2 + 256 * (c3 + 256 * (c4 + 256 * (c5 + 256 * (c6 + 256 * c7)))))) ∧
  c0 ≤ 8∧c1 ≤ 8∧c2 ≤ 8∧c3 ≤ 8∧c4 ≤ 8∧c5 ≤ 8∧c6 ≤ 8∧c7 ≤ 8∧c0 + c1 + c2 + c3 + c4 + c5 + c6 + c7=pop 64 v:=by
 have hs:∀ n v,v < 256 ^ (n + 1)→p3 (n + 1) v=pop 8 (v % 256) + 256 * p3 n (v / 256):=by
  intro n v h
  have hy:v / 256 < 256 ^ n:=by rw [Nat.pow_succ] at h;omega
  have:=p3_step n (v % 256) (v / 256) (Nat.mod_lt _ (by decide)) hy
  rwa [Nat.mod_add_div] at this
 have hp:∀ k v,pop (8 + k) v=pop 8 (v % 256) + pop k (v / 256):=by
  intro k v
  rw [pop_add,show (256:Nat)=2 ^ 8 from rfl,pop_mod]
 have h0:p3 0 (v / 256 / 256 / 256 / 256 / 256 / 256 / 256 / 256)=0:=by simp [p3,p2,p1,Mk]
 refine ⟨pop 8 (v % 256),pop 8 (v / 256 % 256),pop 8 (v / 256 / 256 % 256),pop 8 (v / 256 / 256 / 256 % 256),pop 8 (v / 256 / 256 / 256 / 256 % 256),pop 8 (v / 256 / 256 / 256 / 256 / 256 % 256),
  pop 8 (v / 256 / 256 / 256 / 256 / 256 / 256 % 256),pop 8 (v / 256 / 256 / 256 / 256 / 256 / 256 / 256 % 256),?_,pop_le _ _,pop_le _ _,pop_le _ _,pop_le _ _,pop_le _ _,pop_le _ _,pop_le _ _,pop_le _ _,?_⟩
 ·rw [hs 7 v (by omega),hs 6 _ (by omega),hs 5 _ (by omega),hs 4 _ (by omega),hs 3 _ (by omega),hs 2 _ (by omega),hs 1 _ (by omega),hs 0 _ (by omega),h0]
  omega
 ·rw [show (64:Nat)=8 + (8 + (8 + (8 + (8 + (8 + (8 + (8 + 0))))))) from rfl,hp,hp,hp,hp,hp,hp,hp,hp]
  simp only [pop]
  omega
def cnt (v:Nat):Nat :=
 let s:=p3 8 v
 let t:=s + s / 256
 let u:=t + t / 65536
 u + u / 4294967296
set_option maxHeartbeats 2000000 in
theorem cnt_pop (v:Nat) (hv:v < 2 ^ 64):cnt v % 128=pop 64 v∧cnt v < 2 ^ 63∧p3 8 v + p3 8 v / 256 < 2 ^ 64∧(p3 8 v + p3 8 v / 256) + (p3 8 v + p3 8 v / 256) / 65536 < 2 ^ 64:=by
 obtain ⟨c0,c1,c2,c3,c4,c5,c6,c7,h,h0,h1,h2,h3,h4,h5,h6,h7,hs⟩:=p3_bytes v hv
 unfold cnt
 rw [h,← hs]
 simp only
 clear h hs
 generalize hs:c0 + 256 * (c1 + 256 * (c2 + 256 * (c3 + 256 * (c4 + 256 * (c5 + 256 * (c6 + 256 * c7))))))=s
 have e1:s / 256=c1 + 256 * (c2 + 256 * (c3 + 256 * (c4 + 256 * (c5 + 256 * (c6 + 256 * c7))))):=by omega
 generalize ht:s + s / 256=t
 have e2:t=(c0 + c1) + 256 * ((c1 + c2) + 256 * ((c2 + c3) + 256 * ((c3 + c4) + 256 * ((c4 + c5) + 256 * ((c5 + c6) + 256 * ((c6 + c7) + 256 * c7)))))):=by omega
 have e3:t / 65536=(c2 + c3) + 256 * ((c3 + c4) + 256 * ((c4 + c5) + 256 * ((c5 + c6) + 256 * ((c6 + c7) + 256 * c7)))):=by clear ht e1 hs;omega
 generalize hu:t + t / 65536=u
 have e4:u=(c0 + c1 + c2 + c3) + 256 * ((c1 + c2 + c3 + c4) + 256 * ((c2 + c3 + c4 + c5) + 256 * ((c3 + c4 + c5 + c6) + 256 * ((c4 + c5 + c6 + c7) + 256 * ((c5 + c6 + c7) + 256 * ((c6 + c7) + 256 * c7)))))):=by clear ht e1 hs;omega
 have e5:u / 4294967296=(c4 + c5 + c6 + c7) + 256 * ((c5 + c6 + c7) + 256 * ((c6 + c7) + 256 * c7)):=by clear hu e3 e2 ht e1 hs;omega
 have e6:u + u / 4294967296=(c0 + c1 + c2 + c3 + c4 + c5 + c6 + c7) + 256 * ((c1 + c2 + c3 + c4 + c5 + c6 + c7) + 256 * ((c2 + c3 + c4 + c5 + c6 + c7) + 256 * ((c3 + c4 + c5 + c6 + c7) + 256 * ((c4 + c5 + c6 + c7) + 256 * ((c5 + c6 + c7) + 256 * ((c6 + c7) + 256 * c7)))))):=by clear hu e3 e2 ht e1 hs;omega
 refine ⟨?_,?_,?_,?_⟩
 ·rw [e6];clear e6 e5 e4 hu e3 e2 ht e1 hs;omega
 ·rw [e6];clear e6 e5 e4 hu e3 e2 ht e1 hs;omega
 ·rw [e2];clear e6 e5 e4 hu e3 e2 ht e1 hs;omega
 ·rw [e4];clear e6 e5 e4 hu e3 e2 ht e1 hs;omega
theorem masks:Mk 85 8=6148914691236517205∧Mk 51 8=3689348814741910323∧Mk 15 8=1085102592571150095:=by decide +kernel
end Go.Proofs.YtemabheegnngdaaGreat
