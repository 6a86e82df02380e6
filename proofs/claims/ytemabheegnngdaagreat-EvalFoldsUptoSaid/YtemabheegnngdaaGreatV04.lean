/- Laws and walks that a claim of this seat leans on: RangeV, Each, HeldIn. -/
import Derived.Test.YtemabheegnngdaaGreatV03
import Derived.Test.YtemabheegnngdaaGreatVWant
import Derived.Deep.DeepCutAuto
import Derived.Deep.CutBlock
import Derived.Laws.EntriesVeiled
import Derived.Test.YtemabheegnngdaaGreatV00
set_option linter.all false
namespace Go.Proofs.YtemabheegnngdaaGreat
open Go.RowKit
/-! ### a range over an iterator whose rounds all run to their end -/
def softV (t:TypeId):Bool:=t == 3 || t == 31
structure HardV (n0:Nat) (W W':World):Prop where
 below:Below n0 W W'
 hard:∀ (b:Nat) (c:Array Value) (t:TypeId) (f:Nat × Nat),W.heap[b]? = some (Obj.cells c t f)→softV t=false→W'.heap[b]? = some (Obj.cells c t f)
theorem HardV.refl (n0:Nat) (W:World):HardV n0 W W:=⟨Below.refl _ _,fun _ _ _ _ h _=>h⟩
theorem HardV.trans {n0:Nat} {a b c:World} (h:HardV n0 a b) (k:HardV n0 b c):HardV n0 a c:=⟨h.below.trans k.below,fun x y t f h1 h2=>k.hard x y t f (h.hard x y t f h1 h2) h2⟩
theorem HardV.of_ext {n0:Nat} {a b:World} (h:Ext a b) (hn:n0 ≤ a.heap.size):HardV n0 a b :=
 ⟨Below.mono h hn,fun x _ _ _ h1 _=>(h.block x (Array.getElem?_eq_some_iff.1 h1).1).trans h1⟩
theorem HardV.of_gb {n0:Nat} {a b:World} {R:Option Nat} (h:a.grownBy b R) (hn:n0 ≤ a.heap.size) (hR:∀ k,R=some k→n0 ≤ k∧∀ (c:Array Value) (t:TypeId) (f:Nat × Nat),a.heap[k]? = some (Obj.cells c t f)→softV t=true):HardV n0 a b :=
 ⟨⟨h.os,h.tape,h.output,h.size,fun k hk=>h.block k (by omega) (by intro e;have:=(hR k e.symm).1;omega)⟩,fun x c t f h1 h2=>(h.block x (Array.getElem?_eq_some_iff.1 h1).1 (by
  intro e
  have:=(hR x e.symm).2 c t f h1
  rw [h2] at this;cases this)).trans h1⟩
theorem HardV.putObj {n0:Nat} {a:World} {l:Nat} {o:Obj} (o':Obj) (hl:a.heap[l]? = some o) (ho:o.isCells=false) (hn:n0 ≤ l):HardV n0 a (a.putObj l o') :=
 ⟨⟨rfl,rfl,rfl,by simp,fun k hk=>World.putObj_heap_other (by omega)⟩,fun x c t f h1 _=>(World.putObj_heap_other (by rintro rfl;rw [hl] at h1;cases h1;cases ho)).trans h1⟩
theorem HardV.blk {n0:Nat} {a b:World} {B:Nat} {cs:Array Value} {T:TypeId} (h:HardV n0 a b) (hb:Blk a B cs T) (ht:softV T=false):Blk b B cs T:=h.hard B cs T (0,0) hb ht
theorem HardV.ext {n0:Nat} {w a b:World} (h:HardV n0 a b) (hx:Ext w a) (hn:w.heap.size ≤ n0):Ext w b:=Below.trans hx (Below.mono h.below hn)
def SeqV (P:Program) (n0:Nat) (g:FuncId) (lb:Array Value) (xs:List Value) (w:World):Prop :=
 ∀ (l:Nat) (J:List Value→World→Prop) (W:World),HardV n0 w W→n0 ≤ W.heap.size→l < W.heap.size→OwnFrom W.heap.size J →
  (∀ pre x W1,J pre W1→(∃ post,xs=pre ++ x :: post)→W.heap.size ≤ W1.heap.size →
   Yields P l #[x] W1 fun e W'=>e=.returned (.bool true)∧J (pre ++ [x]) W'∧HardV n0 W1 W'∧KeepsFrom W.heap.size W1 W') →
  J [] W→Calls P g (#[.func (.yield l) #[] #[]] ++ lb) W fun e W'=>(∃ v,e=.returned v)∧J xs W'∧HardV n0 W W'
def roundEndV (I:List Value→World→Prop) (n0 B:Nat) (pre:List Value) (W:World):Exit→Act→World→Prop
 | .normal,_,W'=>KeepsFrom B W W'∧HardV n0 W W'∧I pre W'
 | _,_,_=>False
theorem wp_rangeV {P:Program} {g:Operand} {ps:Array Tmp} {assign body:Code} {Q:Exit→Act→World→Prop} {a:Act} {w:World} {n0:Nat} {gf:FuncId} {lb:Array Value}
  (hg:a.eval g=.func (.func gf) #[] lb) (eg:Leads P gf) {xs:List Value} (hseq:SeqV P n0 gf lb xs w) (hps:ps.size=1) (hn0:n0 ≤ w.heap.size)
  (I:List Value→World→Prop) (hI:OwnFrom w.heap.size I) (h0:I [] w) (Mid:List Value→Value→Act→World→Prop) (hMid:∀ pre x a',OwnFrom w.heap.size (fun (_:Unit) W=>Mid pre x a' W))
  (hassign:∀ (l m:Nat) (pre:List Value) (x:Value) (W:World),I pre W→(∃ post,xs=pre ++ x :: post)→w.heap.size ≤ W.heap.size →
   assign.wpIn (Fence.wide.inRound l) m P (Exit.then (fun a' W'=>KeepsFrom w.heap.size W W'∧HardV n0 W W'∧Mid pre x a' W') (fun _ _ _=>False)) { tmps:=(ps.zip #[x]).foldl (fun t (p,v)=>t.setIfInBounds p v) a.tmps,defers:=[] } W)
  (hbody:∀ (l m:Nat) (pre:List Value) (x:Value) (a':Act) (W:World),Mid pre x a' W→(∃ post,xs=pre ++ x :: post)→w.heap.size ≤ W.heap.size →
   body.wpIn (Fence.wide.inRound l) m P (roundEndV I n0 w.heap.size (pre ++ [x]) W) a' W)
  (hdone:∀ (D:Nat) (W:World),w.heap.size ≤ D→I xs W→HardV n0 w W→W.heap[D]? = some (.deferred (some []))→Q .normal { a with defers:=markOf D :: a.defers } W) :
  (Code.rangeFunc g ps assign body).wp P Q a w:=by
 rw [← wpIn_wide (n:=1)]
 refine wpIn_rangeFunc ?_
 intro fn _
 obtain ⟨rec,hrec⟩ : ∃ rec:LoopState→Option Code→Loop,rec=fun st pe=>{ state:=st,pending:=pe,fn,tmps:=a.tmps,params:=ps,assign,body,defers:=w.heap.size }:=⟨_,rfl⟩
 obtain ⟨W1,hW1⟩ : ∃ W1,(w.alloc (.deferred (some []))).alloc (.loop (rec .ready none))=W1:=⟨_,rfl⟩
 have hx1:Ext w W1:=by rw [← hW1];exact (ext_alloc _ _).alloc _
 have hsz:W1.heap.size=w.heap.size + 1 + 1:=by rw [← hW1];simp
 have hL1:W1.heap[w.heap.size + 1]? = some (.loop (rec .ready none)):=by
  rw [← hW1];have:=World.alloc_heap_new (w.alloc (.deferred (some []))) (.loop (rec .ready none));rwa [World.size_alloc] at this
 have hK1:W1.heap[w.heap.size]? = some (.deferred (some [])):=by
  rw [← hW1];exact (Below.heap_alloc _ _ _ (by simp)).trans (World.alloc_heap_new w _)
 have hI1:I [] W1:=by rw [← hW1];exact hI.alloc _ (hI.alloc _ h0)
 refine ⟨w.heap.size + 1,[markOf w.heap.size],W1,{ target:=.fn (.func gf) lb,args:=#[.func (.yield (w.heap.size + 1)) #[] #[]] },W1,gf,
  #[.func (.yield (w.heap.size + 1)) #[] #[]] ++ lb,W1,?_,?_,fun _ _=>trivial,?_,fun h=>by simp [Fence.wide] at h,?_⟩
 ·rw [← hW1,hrec];exact run_enterLoop_outer _ _ _ _ _
 ·simp only [resolve,hg]
  simp [go_sem]
 ·have h2:(invoke (.fn (.func gf) lb) #[.func (.yield (w.heap.size + 1)) #[] #[]]).run P W1=(callFunc gf (#[.func (.yield (w.heap.size + 1)) #[] #[]] ++ lb)).run P W1:=rfl
  rw [h2,eg]
 ·rw [callsIn_wide]
  have hdrop:∀ {s:List Value} {A B:World} {row:Option Nat} {k:Nat} {o:Obj},k < W1.heap.size→A.heap[k]? = some o→A.grownBy B row→(∀ r,row=some r→W1.heap.size ≤ r∧∃ o:Obj,A.heap[r]? = some o∧o.isCells=false)→B.heap[k]? = some o :=
   fun {s A B row k o} hk ho hgb hr=>(hgb.block k (Array.getElem?_eq_some_iff.1 ho).1 (by intro e;have:=(hr k e.symm).1;omega)).trans ho
  refine (hseq (w.heap.size + 1)
   (fun pre W=>I pre W∧W.heap[w.heap.size + 1]? = some (.loop (rec .ready none))∧W.heap[w.heap.size]? = some (.deferred (some [])))
   W1 (HardV.of_ext hx1 hn0) (by omega) (by omega)
   (fun s A B row hs hgb hr=>⟨(ownFrom_up hI (by omega)) s A B row hs.1 hgb hr,hdrop (s:=s) (by omega) hs.2.1 hgb hr,hdrop (s:=s) (by omega) hs.2.2 hgb hr⟩)
   ?_ ⟨hI1,hL1,hK1⟩).mono ?_
  ·rintro pre x W ⟨hi,hl,hk⟩ hpost hsW m
   have hlt:w.heap.size + 1 < W.heap.size:=by omega
   have hy:=run_yield (P:=P) (args:=#[x]) hl (by rw [hrec];simp [hps])
   rw [hrec] at hy
   refine ⟨fn,_,assign,body,hy,roundIn_of_wpIn trivial (wpIn_mono (hassign _ m pre x W hi hpost (by omega)) ?_)⟩
   rintro e a1 Wa he
   cases e with
   | normal =>
    obtain ⟨hka,hha,hmid⟩:=he
    have hla:=hka.same _ _ (by omega) hl rfl
    have hda:=hka.same _ _ (Nat.le_refl _) hk rfl
    have hlta:w.heap.size + 1 < Wa.heap.size:=(Array.getElem?_eq_some_iff.1 hla).1
    refine ⟨_,run_beginRound hla (by rw [hrec]),?_⟩
    have hl2:(Wa.putObj (w.heap.size + 1) (.loop { rec .ready none with state:=.busy })).heap[w.heap.size + 1]? = some (.loop { rec .ready none with state:=.busy }):=World.putObj_heap_same hlta
    have hk2:(Wa.putObj (w.heap.size + 1) (.loop { rec .ready none with state:=.busy })).heap[w.heap.size]? = some (.deferred (some [])):=(World.putObj_heap_other (by omega)).trans hda
    have hm2:Mid pre x a1 (Wa.putObj (w.heap.size + 1) (.loop { rec .ready none with state:=.busy })):=(hMid pre x a1).putObj (s:=()) _ hmid (by omega) hla rfl
    refine wpIn_mono (hbody _ m pre x a1 _ hm2 hpost (by simp;omega)) ?_
    rintro e a3 W3 hp
    cases e with
    | normal =>
     obtain ⟨hk3,hh3,hi3⟩:=hp
     have hl3:=hk3.same _ _ (by omega) hl2 rfl
     have hd3:=hk3.same _ _ (Nat.le_refl _) hk2 rfl
     have hr:=run_endRound (P:=P) none hl3
     refine ⟨_,_,hr,rfl,⟨hI.putObj _ hi3 (by omega) hl3 rfl,?_,(World.putObj_heap_other (by omega)).trans hd3⟩,?_,?_⟩
     ·rw [World.putObj_heap_same (Array.getElem?_eq_some_iff.1 hl3).1,hrec];rfl
     ·exact (hha.trans (HardV.putObj _ hla rfl (by omega))).trans (hh3.trans (HardV.putObj _ hl3 rfl (by omega)))
     ·exact ((keepsFrom_up hka (by omega)).trans (keepsFrom_put _ (by omega))).trans ((keepsFrom_up hk3 (by omega)).trans (keepsFrom_put _ (by omega)))
    | ret=>exact hp.elim
    | exit id=>exact hp.elim
    | goto t=>exact hp.elim
    | panic ch=>exact hp.elim
    | outgrown=>exact hp.elim
   | ret=>exact he.elim
   | exit id=>exact he.elim
   | goto t=>exact he.elim
   | panic ch=>exact he.elim
   | outgrown=>exact he.elim
  ·rintro e W2 ⟨⟨v,rfl⟩,⟨hi,hl,hk⟩,hh⟩
   have hr:=run_endLoop (P:=P) hl (by rw [hrec];simp)
   refine ⟨none,_,by rw [hrec] at hr;exact hr,hdone _ _ (Nat.le_refl _) (hI.putObj _ hi (by omega) hl rfl) ?_ ((World.putObj_heap_other (by omega)).trans hk)⟩
   exact ((HardV.of_ext hx1 hn0).trans hh).trans (HardV.putObj _ hl rfl (by omega))
theorem own_hardV {W A B:World} {M n0:Nat} {row:Option Nat} (h:HardV n0 W A) (hn:n0 ≤ M) (hn':n0 ≤ A.heap.size) (hg:A.grownBy B row) (hr:∀ r,row=some r→M ≤ r∧∃ o:Obj,A.heap[r]? = some o∧o.isCells=false):HardV n0 W B :=
 h.trans (HardV.of_gb hg hn' fun r e=>⟨Nat.le_trans hn (hr r e).1,fun c t f hc=>by
  obtain ⟨_,o,ho,hno⟩:=hr r e
  rw [ho] at hc;cases hc;cases hno⟩)
theorem own_ext {β : Type} {B:Nat} {I : β→World→Prop} (h:OwnFrom B I) {s : β} {W W':World} (hi:I s W) (hx:Ext W W'):I s W' :=
 h s W W' none hi ⟨hx.os,hx.tape,hx.output,hx.size,fun k hk _=>hx.block k hk⟩ fun r e=>by cases e
open Go.RowKit
/-! ### statements, and those that stand in them -/
open Go.RowKit
/-! ### a region that draws its order and calls yield: loads that hold in every world of the walk are taken first -/
section
variable {m:Nat} {P:Program} {ops:Array Oper} {Q:Exit→Act→World→Prop} {md:Region.Mode} {S:World→Prop}
end
end Go.Proofs.YtemabheegnngdaaGreat
