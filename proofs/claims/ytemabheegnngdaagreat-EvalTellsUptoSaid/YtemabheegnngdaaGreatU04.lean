/- Laws and walks that a claim of this seat leans on: RangeV, Each, HeldIn. -/
import Derived.Test.YtemabheegnngdaaGreatU03
import Derived.Test.YtemabheegnngdaaGreatUWant
import Derived.Deep.DeepCutAuto
import Derived.Deep.CutBlock
import Derived.Laws.EntriesVeiled
import Derived.Test.YtemabheegnngdaaGreatU00
set_option linter.all false
namespace Go.Proofs.YtemabheegnngdaaGreat
open Go.RowKit
/-! ### a range over an iterator whose rounds all run to their end -/
def softV (t:TypeId):Bool:=t == 3 || t == 31
structure HardV (n0:Nat) (W W':World):Prop where
 below:Below n0 W W'
 hard:∀ (b:Nat) (c:Array Value) (t:TypeId) (f:Nat × Nat),W.heap[b]? = some (Obj.cells c t f)→softV t=false→W'.heap[b]? = some (Obj.cells c t f)
theorem HardV.refl (n0:Nat) (W:World):HardV n0 W W:=⟨Below.refl _ _,fun _ _ _ _ h _=>h⟩
theorem HardV.trans {n0:Nat} {a b c:World} (h:HardV n0 a b) (k:HardV n0 b c):HardV n0 a c:=⟨h.below.trans k.below,fun x y t f h1 h2=>k.hard x y t f (h.hard x y t f h1 h2) h2⟩
theorem HardV.of_ext {n0:Nat} {a b:World} (h:Ext a b) (hn:n0 ≤ a.heap.size):HardV n0 a b :=
 ⟨Below.mono h hn,fun x _ _ _ h1 _=>(h.block x (Array.getElem?_eq_some_iff.1 h1).1).trans h1⟩
theorem HardV.drew {n0:Nat} (a:World):HardV n0 a a.drew:=⟨⟨rfl,rfl,rfl,Nat.le_refl _,fun _ _=>rfl⟩,fun _ _ _ _ h _=>h⟩
theorem HardV.of_gb {n0:Nat} {a b:World} {R:Option Nat} (h:a.grownBy b R) (hn:n0 ≤ a.heap.size) (hR:∀ k,R=some k→n0 ≤ k∧∀ (c:Array Value) (t:TypeId) (f:Nat × Nat),a.heap[k]? = some (Obj.cells c t f)→softV t=true):HardV n0 a b :=
 ⟨⟨h.os,h.tape,h.output,h.size,fun k hk=>h.block k (by omega) (by intro e;have:=(hR k e.symm).1;omega)⟩,fun x c t f h1 h2=>(h.block x (Array.getElem?_eq_some_iff.1 h1).1 (by
  intro e
  have:=(hR x e.symm).2 c t f h1
  rw [h2] at this;cases this)).trans h1⟩
theorem HardV.putObj {n0:Nat} {a:World} {l:Nat} {o:Obj} (o':Obj) (hl:a.heap[l]? = some o) (ho:o.isCells=false) (hn:n0 ≤ l):HardV n0 a (a.putObj l o') :=
 ⟨⟨rfl,rfl,rfl,by simp,fun k hk=>World.putObj_heap_other (by omega)⟩,fun x c t f h1 _=>(World.putObj_heap_other (by rintro rfl;rw [hl] at h1;cases h1;cases ho)).trans h1⟩
theorem HardV.blk {n0:Nat} {a b:World} {B:Nat} {cs:Array Value} {T:TypeId} (h:HardV n0 a b) (hb:Blk a B cs T) (ht:softV T=false):Blk b B cs T:=h.hard B cs T (0,0) hb ht
theorem HardV.ext {n0:Nat} {w a b:World} (h:HardV n0 a b) (hx:Ext w a) (hn:w.heap.size ≤ n0):Ext w b:=Below.trans hx (Below.mono h.below hn)
def SeqV (P:Program) (n0:Nat) (g:FuncId) (lb:Array Value) (xs:List Value) (w:World):Prop :=
 ∀ (l:Nat) (J:List Value→World→Prop) (W:World),HardV n0 w W→n0 ≤ W.heap.size→l < W.heap.size→OwnFrom W.heap.size J →
  (∀ pre x W1,J pre W1→(∃ post,xs=pre ++ x :: post)→W.heap.size ≤ W1.heap.size →
   Yields P l #[x] W1 fun e W'=>e=.returned (.bool true)∧J (pre ++ [x]) W'∧HardV n0 W1 W'∧KeepsFrom W.heap.size W1 W') →
  J [] W→Calls P g (#[.func (.yield l) #[] #[]] ++ lb) W fun e W'=>(∃ v,e=.returned v)∧J xs W'∧HardV n0 W W'
def roundEndV (I:List Value→World→Prop) (n0 B:Nat) (pre:List Value) (W:World):Exit→Act→World→Prop
 | .normal,_,W'=>KeepsFrom B W W'∧HardV n0 W W'∧I pre W'
 | _,_,_=>False
theorem wp_rangeV {P:Program} {g:Operand} {ps:Array Tmp} {assign body:Code} {Q:Exit→Act→World→Prop} {a:Act} {w:World} {n0:Nat} {gf:FuncId} {lb:Array Value}
  (hg:a.eval g=.func (.func gf) #[] lb) (eg:Leads P gf) {xs:List Value} (hseq:SeqV P n0 gf lb xs w) (hps:ps.size=1) (hn0:n0 ≤ w.heap.size)
  (I:List Value→World→Prop) (hI:OwnFrom w.heap.size I) (h0:I [] w) (Mid:List Value→Value→Act→World→Prop) (hMid:∀ pre x a',OwnFrom w.heap.size (fun (_:Unit) W=>Mid pre x a' W))
  (hassign:∀ (l m:Nat) (pre:List Value) (x:Value) (W:World),I pre W→(∃ post,xs=pre ++ x :: post)→w.heap.size ≤ W.heap.size →
   assign.wpIn (Fence.wide.inRound l) m P (Exit.then (fun a' W'=>KeepsFrom w.heap.size W W'∧HardV n0 W W'∧Mid pre x a' W') (fun _ _ _=>False)) { tmps:=(ps.zip #[x]).foldl (fun t (p,v)=>t.setIfInBounds p v) a.tmps,defers:=[] } W)
  (hbody:∀ (l m:Nat) (pre:List Value) (x:Value) (a':Act) (W:World),Mid pre x a' W→(∃ post,xs=pre ++ x :: post)→w.heap.size ≤ W.heap.size →
   body.wpIn (Fence.wide.inRound l) m P (roundEndV I n0 w.heap.size (pre ++ [x]) W) a' W)
  (hdone:∀ (D:Nat) (W:World),w.heap.size ≤ D→I xs W→HardV n0 w W→W.heap[D]? = some (.deferred (some []))→Q .normal { a with defers:=markOf D :: a.defers } W) :
  (Code.rangeFunc g ps assign body).wp P Q a w:=by
 rw [← wpIn_wide (n:=1)]
 refine wpIn_rangeFunc ?_
 intro fn _
 obtain ⟨rec,hrec⟩ : ∃ rec:LoopState→Option Code→Loop,rec=fun st pe=>{ state:=st,pending:=pe,fn,tmps:=a.tmps,params:=ps,assign,body,defers:=w.heap.size }:=⟨_,rfl⟩
 obtain ⟨W1,hW1⟩ : ∃ W1,(w.alloc (.deferred (some []))).alloc (.loop (rec .ready none))=W1:=⟨_,rfl⟩
 have hx1:Ext w W1:=by rw [← hW1];exact (ext_alloc _ _).alloc _
 have hsz:W1.heap.size=w.heap.size + 1 + 1:=by rw [← hW1];simp
 have hL1:W1.heap[w.heap.size + 1]? = some (.loop (rec .ready none)):=by
  rw [← hW1];have:=World.alloc_heap_new (w.alloc (.deferred (some []))) (.loop (rec .ready none));rwa [World.size_alloc] at this
 have hK1:W1.heap[w.heap.size]? = some (.deferred (some [])):=by
  rw [← hW1];exact (Below.heap_alloc _ _ _ (by simp)).trans (World.alloc_heap_new w _)
 have hI1:I [] W1:=by rw [← hW1];exact hI.alloc _ (hI.alloc _ h0)
 refine ⟨w.heap.size + 1,[markOf w.heap.size],W1,{ target:=.fn (.func gf) lb,args:=#[.func (.yield (w.heap.size + 1)) #[] #[]] },W1,gf,
  #[.func (.yield (w.heap.size + 1)) #[] #[]] ++ lb,W1,?_,?_,fun _ _=>trivial,?_,fun h=>by simp [Fence.wide] at h,?_⟩
 ·rw [← hW1,hrec];exact run_enterLoop_outer _ _ _ _ _
 ·simp only [resolve,hg]
  simp [go_sem]
 ·have h2:(invoke (.fn (.func gf) lb) #[.func (.yield (w.heap.size + 1)) #[] #[]]).run P W1=(callFunc gf (#[.func (.yield (w.heap.size + 1)) #[] #[]] ++ lb)).run P W1:=rfl
  rw [h2,eg]
 ·rw [callsIn_wide]
  have hdrop:∀ {s:List Value} {A B:World} {row:Option Nat} {k:Nat} {o:Obj},k < W1.heap.size→A.heap[k]? = some o→A.grownBy B row→(∀ r,row=some r→W1.heap.size ≤ r∧∃ o:Obj,A.heap[r]? = some o∧o.isCells=false)→B.heap[k]? = some o :=
   fun {s A B row k o} hk ho hgb hr=>(hgb.block k (Array.getElem?_eq_some_iff.1 ho).1 (by intro e;have:=(hr k e.symm).1;omega)).trans ho
  refine (hseq (w.heap.size + 1)
   (fun pre W=>I pre W∧W.heap[w.heap.size + 1]? = some (.loop (rec .ready none))∧W.heap[w.heap.size]? = some (.deferred (some [])))
   W1 (HardV.of_ext hx1 hn0) (by omega) (by omega)
   (fun s A B row hs hgb hr=>⟨(ownFrom_up hI (by omega)) s A B row hs.1 hgb hr,hdrop (s:=s) (by omega) hs.2.1 hgb hr,hdrop (s:=s) (by omega) hs.2.2 hgb hr⟩)
   ?_ ⟨hI1,hL1,hK1⟩).mono ?_
  ·rintro pre x W ⟨hi,hl,hk⟩ hpost hsW m
   have hlt:w.heap.size + 1 < W.heap.size:=by omega
   have hy:=run_yield (P:=P) (args:=#[x]) hl (by rw [hrec];simp [hps])
   rw [hrec] at hy
   refine ⟨fn,_,assign,body,hy,roundIn_of_wpIn trivial (wpIn_mono (hassign _ m pre x W hi hpost (by omega)) ?_)⟩
   rintro e a1 Wa he
   cases e with
   | normal =>
    obtain ⟨hka,hha,hmid⟩:=he
    have hla:=hka.same _ _ (by omega) hl rfl
    have hda:=hka.same _ _ (Nat.le_refl _) hk rfl
    have hlta:w.heap.size + 1 < Wa.heap.size:=(Array.getElem?_eq_some_iff.1 hla).1
    refine ⟨_,run_beginRound hla (by rw [hrec]),?_⟩
    have hl2:(Wa.putObj (w.heap.size + 1) (.loop { rec .ready none with state:=.busy })).heap[w.heap.size + 1]? = some (.loop { rec .ready none with state:=.busy }):=World.putObj_heap_same hlta
    have hk2:(Wa.putObj (w.heap.size + 1) (.loop { rec .ready none with state:=.busy })).heap[w.heap.size]? = some (.deferred (some [])):=(World.putObj_heap_other (by omega)).trans hda
    have hm2:Mid pre x a1 (Wa.putObj (w.heap.size + 1) (.loop { rec .ready none with state:=.busy })):=(hMid pre x a1).putObj (s:=()) _ hmid (by omega) hla rfl
    refine wpIn_mono (hbody _ m pre x a1 _ hm2 hpost (by simp;omega)) ?_
    rintro e a3 W3 hp
    cases e with
    | normal =>
     obtain ⟨hk3,hh3,hi3⟩:=hp
     have hl3:=hk3.same _ _ (by omega) hl2 rfl
     have hd3:=hk3.same _ _ (Nat.le_refl _) hk2 rfl
     have hr:=run_endRound (P:=P) none hl3
     refine ⟨_,_,hr,rfl,⟨hI.putObj _ hi3 (by omega) hl3 rfl,?_,(World.putObj_heap_other (by omega)).trans hd3⟩,?_,?_⟩
     ·rw [World.putObj_heap_same (Array.getElem?_eq_some_iff.1 hl3).1,hrec];rfl
     ·exact (hha.trans (HardV.putObj _ hla rfl (by omega))).trans (hh3.trans (HardV.putObj _ hl3 rfl (by omega)))
     ·exact ((keepsFrom_up hka (by omega)).trans (keepsFrom_put _ (by omega))).trans ((keepsFrom_up hk3 (by omega)).trans (keepsFrom_put _ (by omega)))
    | ret=>exact hp.elim
    | exit id=>exact hp.elim
    | goto t=>exact hp.elim
    | panic ch=>exact hp.elim
    | outgrown=>exact hp.elim
   | ret=>exact he.elim
   | exit id=>exact he.elim
   | goto t=>exact he.elim
   | panic ch=>exact he.elim
   | outgrown=>exact he.elim
  ·rintro e W2 ⟨⟨v,rfl⟩,⟨hi,hl,hk⟩,hh⟩
   have hr:=run_endLoop (P:=P) hl (by rw [hrec];simp)
   refine ⟨none,_,by rw [hrec] at hr;exact hr,hdone _ _ (Nat.le_refl _) (hI.putObj _ hi (by omega) hl rfl) ?_ ((World.putObj_heap_other (by omega)).trans hk)⟩
   exact ((HardV.of_ext hx1 hn0).trans hh).trans (HardV.putObj _ hl rfl (by omega))
theorem own_hardV {W A B:World} {M n0:Nat} {row:Option Nat} (h:HardV n0 W A) (hn:n0 ≤ M) (hn':n0 ≤ A.heap.size) (hg:A.grownBy B row) (hr:∀ r,row=some r→M ≤ r∧∃ o:Obj,A.heap[r]? = some o∧o.isCells=false):HardV n0 W B :=
 h.trans (HardV.of_gb hg hn' fun r e=>⟨Nat.le_trans hn (hr r e).1,fun c t f hc=>by
  obtain ⟨_,o,ho,hno⟩:=hr r e
  rw [ho] at hc;cases hc;cases hno⟩)
theorem own_ext {β : Type} {B:Nat} {I : β→World→Prop} (h:OwnFrom B I) {s : β} {W W':World} (hi:I s W) (hx:Ext W W'):I s W' :=
 h s W W' none hi ⟨hx.os,hx.tape,hx.output,hx.size,fun k hk _=>hx.block k hk⟩ fun r e=>by cases e
open Go.RowKit
/-! ### statements, and those that stand in them -/
def eachT:T→List T
 | ⟨op,sig,hi,lo,e,l⟩=>⟨op,sig,hi,lo,e,l⟩ :: eachTs l
where eachTs:List T→List T
 | []=>[]
 | t :: l=>eachT t ++ eachTs l
theorem eachT_eq (t:T):eachT t=t :: eachT.eachTs t.l:=by cases t;rw [eachT]
theorem eachTs_eq (l:List T):eachT.eachTs l=(l.map eachT).flatten:=by
 induction l with
 | nil=>rfl
 | cons x l ih=>simp [eachT.eachTs,ih]
def Eaches (wb:World):List T→List (List Value)→Prop
 | [],[]=>True
 | t :: ts,x :: xs=>VT wb x t∧Eaches wb ts xs
 | _,_=>False
theorem Eaches.append {wb:World} {ts ts':List T} {xs xs':List (List Value)} (h:Eaches wb ts xs) (h':Eaches wb ts' xs'):Eaches wb (ts ++ ts') (xs ++ xs'):=by
 induction ts generalizing xs with
 | nil=>cases xs with
  | nil=>exact h'
  | cons _ _=>exact h.elim
 | cons t ts ih=>cases xs with
  | nil=>exact h.elim
  | cons x xs=>exact ⟨h.1,ih h.2⟩
def EachOk (L:List T):Prop:=∀ (wb:World) (s:Value),Ts wb s L→∃ xs,Eaches wb (eachT.eachTs L) xs ∧
 ∀ (n0:Nat) (w:World) (B:Nat),wb.heap.size ≤ n0→Ext wb w→Blk w B #[s] 37→n0 ≤ w.heap.size→Seq Tryz.prog n0 134 #[.pointer (some ⟨B,0,none⟩)] xs w
open Go.RowKit
/-! ### a region that draws its order and calls yield: loads that hold in every world of the walk are taken first -/
section
variable {m:Nat} {P:Program} {ops:Array Oper} {Q:Exit→Act→World→Prop} {md:Region.Mode} {S:World→Prop}
theorem held_wpOpIn {i:Nat} {o:Oper} {v:Value} {a:Act} (hi:ops[i]? = some o) (hy:YieldsIf P ops S o v a) {K:Act→World→Prop} {w:World} (hS:S w) (h:K (a.put o.dst v) w) :
  wpOpIn Fence.wide m P ops Q i K a w:=by
 unfold Go.wpOpIn
 rw [hi]
 rcases hy with ⟨hw,hv⟩ | ⟨hw,rfl⟩
 ·simp only [hw,if_true,Oper.wpIn,show Fence.wide.round=none from rfl,Oper.semAt_none,hv w hS,Oper.uponIn]
  exact ⟨fun _ _=>trivial,h⟩
 ·simp only [hw,Bool.false_eq_true,if_false]
  exact ⟨fun _ _=>trivial,h⟩
theorem held_put {j:Nat} {oi oj:Oper} {v:Value} (hj:ops[j]? = some oj) (hap:oi.apart ops oj=true) (hsi:∀ cs b,oi.op ≠ .select cs b) (hsj:∀ cs b,oj.op ≠ .select cs b)
  (hQ:∀ c a w,Q (.panic c) (a.put oi.dst v) w→Q (.panic c) a w) {K:Act→World→Prop} {a:Act} {w:World} (hy:YieldsIf P ops S oi v a) (h:wpOpIn Fence.wide m P ops Q j K (a.put oi.dst v) w) :
  wpOpIn Fence.wide m P ops Q j (fun a' w'=>YieldsIf P ops S oi v a'∧K (a'.put oi.dst v) w') a w:=by
 obtain ⟨h1,h2,h3⟩:=Oper.apart_spec hap
 have keep:∀ (b:Act),YieldsIf P ops S oi v b→∀ u,YieldsIf P ops S oi v (b.put oj.dst u):=fun b hy u=>hy.of_same (execOp_put oi hsi b oj.dst u h3) (wanted_put oi b oj.dst u h3)
 have hback:∀ u (b:Act) W,K ((b.put oi.dst v).put oj.dst u) W→K ((b.put oj.dst u).put oi.dst v) W:=fun u b W hk=>by rw [← Act.put_comm b v u h2];exact hk
 unfold wpOpIn at h ⊢
 rw [hj] at h ⊢
 simp only [wanted_put oj a oi.dst v h1] at h ⊢
 by_cases hw:Region.wanted oj (yielded ops a.tmps)=true
 ·rw [if_pos hw] at h ⊢
  unfold Oper.wpIn at h ⊢
  rw [show Fence.wide.round=none from rfl,Oper.semAt_none] at h ⊢
  rw [execOp_put oj hsj a oi.dst v h1] at h
  refine ⟨fun _ _=>trivial,?_⟩
  have h:=h.2
  generalize (execOp a.eval oj).run P w=r at h ⊢
  cases r with
  | halt x w'=>cases x <;> simp only [Oper.uponIn] at h ⊢ <;> exact hQ _ _ _ h
  | ok x w' =>
   cases x <;> simp only [Oper.uponIn] at h ⊢
   case value u=>exact ⟨keep a hy u,hback _ _ _ h⟩
   case skip=>exact ⟨keep a hy _,hback _ _ _ h⟩
   case defer d=>exact ⟨keep { a with defers:=d :: a.defers } (hy.of_same rfl rfl) _,hback _ { a with defers:=d :: a.defers } _ (by rw [← Act.put_defers];exact h)⟩
   case row row args=>exact ⟨h.1,RowsIn.mono h.2 fun u w'' he=>⟨keep a hy u,hback _ _ _ he⟩⟩
   case enter f args =>
    refine ⟨h.1,CallsIn.mono h.2 fun e w'' he=>?_⟩
    cases e with
    | returned u=>exact ⟨keep a hy u,hback _ _ _ he⟩
    | panicked c=>exact hQ _ _ _ he
    | outgrown=>exact he
   case round l f tmps assign body =>
    refine ⟨h.1,RoundIn.mono h.2 fun e w'' he=>?_⟩
    cases e with
    | returned u=>exact ⟨keep a hy u,hback _ _ _ he⟩
    | panicked c=>exact hQ _ _ _ he
    | outgrown=>exact he
 ·rw [if_neg hw] at h ⊢
  exact ⟨fun _ _=>trivial,keep a hy _,hback _ _ _ h.2⟩
theorem opIn_yield {r:Option Nat} {o:Oper} {K:Act→World→Prop} {a:Act} {w:World} (x y:Operand) (ts:Array TypeId) (ho:o.op=.call { callee:=.value x,args:=#[y],argTypes:=ts }) {l:Nat}
  (hx:a.eval x=.func (.yield l) #[] #[]) {v:Value} (hy:a.eval y=v) {R:World→Prop} (hY:Go.Proofs.YtemabheegnngdaaGreat.Yields P l #[v] w fun e W'=>e=.returned (.bool true)∧R W') (h:∀ W',R W'→K (a.put o.dst (.bool true)) W'):Oper.wpIn (FW r) m P o a w K Q:=by
 unfold Oper.wpIn
 refine ⟨fun _ _=>trivial,?_⟩
 rw [show (FW r).round=r from rfl,semAt_fw (by rw [ho];rfl)]
 obtain ⟨fn,tmps,assign,body,hrun,hR⟩:=hY (m - 1)
 have hex:(execOp a.eval o).run P w=.ok (.round l fn tmps assign body) w:=by
  obtain ⟨dst,op,ty,pos,after,guard⟩:=o
  simp only at ho
  subst ho
  have h1:execOp a.eval { dst,op:=.call { callee:=.value x,args:=#[y],argTypes:=ts },type:=ty,pos,after,guard } = (Deferred.ofValue (a.eval x) (#[y].map a.eval) >>= fun d=>invoke d.target d.args):=rfl
  have h2:(Deferred.ofValue (.func (.yield l) #[] #[]) #[v] >>= fun d=>invoke d.target d.args)=Instr.yield l #[v]:=rfl
  rw [h1,hx]
  simp only [List.map_toArray,List.map_cons,List.map_nil,hy]
  rw [h2];exact hrun
 rw [hex,Oper.uponIn_round]
 refine ⟨fun h=>by simp [Fence.wide] at h,?_⟩
 have hR2:RoundIn (FW r) (m - 1) P l fn tmps assign body w _:=hR
 refine hR2.mono ?_
 rintro e W' ⟨rfl,hS⟩
 exact h W' hS
def AnyS (m:Nat) (P:Program) (md:Region.Mode) (ops:Array Oper) (Q:Exit→Act→World→Prop) (S:World→Prop):Nat→Array Bool→Act→World→Prop
 | 0,listed,a,w=>Region.ready md ops listed=[]∧Q .normal a w
 | k + 1,listed,a,w=>(Region.ready md ops listed=[]→Q .normal a w)∧∀ i ∈ Region.ready md ops listed,wpOpIn Fence.wide m P ops Q i (fun a' w'=>S w'∧AnyS m P md ops Q S k (listed.setIfInBounds i true) a' w') a w
theorem AnyS.any:∀ (k:Nat) (listed:Array Bool) (a:Act) (w:World),AnyS m P md ops Q S k listed a w→wpAnyIn Fence.wide m P md ops Q k listed a w
 | 0,_,_,_,h=>h
 | k + 1,_,_,_,h=>⟨h.1,fun i hi=>wpOpIn_mono (fun a' w' h'=>AnyS.any k _ a' w' h'.2) (h.2 i hi)⟩
theorem AnyS.first {i:Nat} {oi:Oper} {v:Value} (hi:ops[i]? = some oi) (hsel:∀ (j:Nat) (o:Oper) cs b,ops[j]? = some o→o.op ≠ .select cs b) (hQ:∀ c a w,Q (.panic c) (a.put oi.dst v) w→Q (.panic c) a w) :
  ∀ (k:Nat) (listed:Array Bool) (a:Act) (w:World),(∀ j oj,ops[j]? = some oj→j ≠ i→listed.getD j true=false→(∀ e ∈ oj.after,Region.binds md e=true→e.on ≠ i)→oi.apart ops oj=true) →
   i ∈ Region.ready md ops listed→YieldsIf P ops S oi v a→S w→AnyS m P md ops Q S k (listed.setIfInBounds i true) (a.put oi.dst v) w→AnyS m P md ops Q S (k + 1) listed a w:=by
 intro k
 induction k with
 | zero =>
  intro listed a w _ hr hy hS H
  refine ⟨fun h=>absurd hr (by rw [h];simp),fun j hj=>?_⟩
  by_cases hji:j=i
  ·exact hji ▸ held_wpOpIn hi hy hS ⟨hS,H⟩
  ·have:=ready_mono hj hji
   rw [H.1] at this
   cases this
 | succ k ih =>
  intro listed a w hfree hr hy hS H
  refine ⟨fun h=>absurd hr (by rw [h];simp),fun j hj=>?_⟩
  by_cases hji:j=i
  ·exact hji ▸ held_wpOpIn hi hy hS ⟨hS,H⟩
  obtain ⟨hjun,oj,hoj,hall⟩:=mem_ready.1 hj
  have hnot:∀ e ∈ oj.after,Region.binds md e=true→e.on ≠ i:=by
   rintro e he hb rfl
   have h1:=hall e he hb
   have h0:=(mem_ready.1 hr).1
   by_cases hlt:e.on < listed.size
   ·simp [hlt] at h0 h1;rw [h0] at h1;cases h1
   ·simp [Array.getElem?_eq_none (Nat.le_of_not_lt hlt)] at h1
  refine wpOpIn_mono (fun a' w' h3=>⟨h3.2.1,ih (listed.setIfInBounds j true) a' w' (fun k ok hk hki hun hno=>hfree k ok hk hki ?_ hno) (ready_mono hr (Ne.symm hji)) h3.1 h3.2.1 ?_⟩)
   (held_put hoj (hfree j oj hoj hji hjun hnot) (fun cs b=>hsel i oi cs b hi) (fun cs b=>hsel j oj cs b hoj) hQ hy (H.2 j (ready_mono hj hji)))
  ·by_cases hjk:j=k
   ·exact hjk ▸ hjun
   ·rwa [getD_set_ne true hjk] at hun
  ·rw [Array.setIfInBounds_comm _ _ hji];exact h3.2.2
theorem AnyS.take {i:Nat} {oi:Oper} {v:Value} {k:Nat} {listed:Array Bool} {a:Act} {w:World} (hi:ops[i]? = some oi) (hs:Region.noSelect ops=true) (hf:Region.free md ops listed i=true) (hr:(Region.ready md ops listed).contains i=true)
  (hQ:∀ c a w,Q (.panic c) (a.put oi.dst v) w→Q (.panic c) a w) (hy:YieldsIf P ops S oi v a) (hS:S w) (h:AnyS m P md ops Q S k (listed.setIfInBounds i true) (a.put oi.dst v) w):AnyS m P md ops Q S (k + 1) listed a w :=
 AnyS.first hi (Region.noSelect_spec hs) hQ k listed a w (Region.free_spec hi hf) (by simpa using hr) hy hS h
theorem AnyS.done {listed:Array Bool} {a:Act} {w:World} (hr:Region.ready md ops listed=[]) (h:Q .normal a w):∀ k,AnyS m P md ops Q S k listed a w
 | 0=>⟨hr,h⟩
 | _ + 1=>⟨fun _=>h,by rw [hr];simp⟩
theorem AnyS.yield {i:Nat} {o:Oper} {k:Nat} {listed:Array Bool} {a:Act} {w:World} (hr:Region.ready md ops listed=[i]) (hi:ops[i]? = some o) (hw:Region.wanted o (yielded ops a.tmps)=true)
  (x y:Operand) (ts:Array TypeId) (ho:o.op=.call { callee:=.value x,args:=#[y],argTypes:=ts }) {l:Nat} (hx:a.eval x=.func (.yield l) #[] #[]) {v:Value} (hy:a.eval y=v) {R:World→Prop}
  (hY:Go.Proofs.YtemabheegnngdaaGreat.Yields P l #[v] w fun e W'=>e=.returned (.bool true)∧R W') (h:∀ W',R W'→S W'∧AnyS m P md ops Q S k (listed.setIfInBounds i true) (a.put o.dst (.bool true)) W'):AnyS m P md ops Q S (k + 1) listed a w:=by
 refine ⟨fun h0=>absurd (hr.symm.trans h0) (by simp),?_⟩
 intro j hj
 rw [hr] at hj
 obtain rfl:j=i:=by simpa using hj
 unfold wpOpIn
 rw [hi]
 simp only [hw,if_true]
 exact opIn_yield (r:=none) x y ts ho hx hy hY h
def onlyNormal (K:Act→World→Prop):Exit→Act→World→Prop
 | .normal,a,w=>K a w
 | _,_,_=>False
end
end Go.Proofs.YtemabheegnngdaaGreat
