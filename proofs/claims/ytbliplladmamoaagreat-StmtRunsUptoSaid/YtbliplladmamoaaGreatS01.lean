/- Laws and walks that a claim of this seat leans on: Base, Data, Make, Lists, Model, Meas. -/
import Derived.WalkKit
import Derived.Handy
import Derived.Lib.Hide
import Derived.Deep.WholeRow
import Derived.Test.YtbliplladmamoaaGreatProg
import Derived.Laws.MakeOwn
import Derived.Lib.ItoaNum
import Derived.Test.YtbliplladmamoaaGreatS00
set_option maxRecDepth 100000
set_option maxHeartbeats 8000000
set_option linter.all false
namespace Go.Proofs.YtbliplladmamoaaGreat
open Go.RowKit
/-! ### the world grows: nothing that was there has turned -/
abbrev Ext (w w':World):Prop:=Below w.heap.size w w'
theorem Ext.trans {w w' j:World} (h:Ext w w') (k:Ext w' j):Ext w j:=Below.trans h (Below.mono k h.size)
theorem Ab (w:World) (o:Obj):Ext w (w.alloc o):=(Below.refl _ _).alloc (Nat.le_refl _) o
theorem Ext.alloc {w w':World} (h:Ext w w') (o:Obj):Ext w (w'.alloc o):=h.trans (Ab w' o)
theorem Ext.drew {w w':World} (h:Ext w w'):Ext w w'.drew:=Below.drew h
def Has (w:World) (b o:Nat) (cs:List Value):Prop:=∀ j u,cs[j]? = some u->w.cell? ⟨b,o+j,none⟩=some u
theorem Has.ext {w w':World} {b o:Nat} {cs:List Value} (h:Has w b o cs) (hx:Ext w w'):Has w' b o cs:=by
 intro j u hj
 have:=h j u hj
 exact (hx.cell (p:=⟨b,o+j,none⟩) (World.block_lt_of_cell? w _ this)).trans this
theorem Has.alloc (w:World) (cs:List Value) (t:TypeId):Has (w.alloc (.cells cs.toArray t)) w.heap.size 0 cs:=by
 intro j u hj
 rw [cell_of_row _ w.heap.size _ cs.toArray t (0,0) (heap_alloc_new w _)]
 simpa using hj
def Hd (s:Value) (n b o:Nat):Prop:=∃ a cap,s=.slice a n cap/\n<=cap/\cap<=maxLen/\(0<n->a=some ⟨b,o,none⟩)
/-! ### one block may be written: all others stay -/
theorem Has.grown {w w':World} {B b o:Nat} {cs:List Value} (h:Has w b o cs) (hg:w.grownBy w' (some B)) (aa:b≠B):Has w' b o cs :=
 fun j u hj=>hg.cell (h j u hj) (by simpa using aa)
theorem Ext.grown {w0 w w':World} {B:Nat} (h:Ext w0 w) (hg:w.grownBy w' (some B)) (hB:w0.heap.size<=B):Ext w0 w' :=
 Below.grown h hg h.size (fun k hk=>by cases hk;exact hB)
theorem Af {a b:Bool} (h:a=b):Ending.returned (.bool a)=.returned (.bool b):=by rw [h]
theorem Bv {k:IntKind} {a b:Int} (h:a=b):Ending.returned (.int k a)=.returned (.int k b):=by rw [h]
def Blk (w:World) (B:Nat) (cs:Array Value) (T:TypeId):Prop:=w.heap[B]? = some (.cells cs T (0,0))
theorem Blk.lt {w:World} {B:Nat} {cs:Array Value} {T:TypeId} (h:Blk w B cs T):B<w.heap.size:=(Array.getElem?_eq_some_iff.1 h).1
theorem Blk.cell {w:World} {B:Nat} {cs:Array Value} {T:TypeId} (h:Blk w B cs T) (j:Nat):w.cell? ⟨B,j,none⟩=cs[j]?:=cell_of_row w B j _ _ _ h
theorem Blk.frozen {w:World} {B:Nat} {cs:Array Value} {T:TypeId} (h:Blk w B cs T) (j:Nat):w.frozen? ⟨B,j,none⟩=false:=by
 unfold Blk at h;simp [World.frozen?,h]
theorem Blk.ext {w w':World} {B:Nat} {cs:Array Value} {T:TypeId} (h:Blk w B cs T) (hx:Ext w w'):Blk w' B cs T:=(hx.block B h.lt).trans h
theorem Blk.grown {w w':World} {B B':Nat} {cs:Array Value} {T:TypeId} (h:Blk w B cs T) (hg:w.grownBy w' (some B')) (j:B≠B'):Blk w' B cs T :=
 (hg.block B h.lt (by simpa using j)).trans h
theorem Blk.new (w:World) (cs:Array Value) (T:TypeId):Blk (w.alloc (.cells cs T)) w.heap.size cs T:=heap_alloc_new w _
theorem Blk.alloc {w:World} {B:Nat} {cs:Array Value} {T:TypeId} (h:Blk w B cs T) (o:Obj):Blk (w.alloc o) B cs T:=h.ext (Ab w o)
theorem Blk.drew {w:World} {B:Nat} {cs:Array Value} {T:TypeId} (h:Blk w B cs T):Blk w.drew B cs T:=h
theorem Blk.set {w:World} {B:Nat} {cs:Array Value} {T:TypeId} (h:Blk w B cs T) (j:Nat) (v:Value):Blk (w.setCell ⟨B,j,none⟩ v) B (cs.setIfInBounds j v) T:=by
 unfold Blk at *
 simp [World.setCell,Array.getElem?_modify,h]
theorem Blk.has {w:World} {B:Nat} {cs:List Value} {T:TypeId} (h:Blk w B cs.toArray T):Has w B 0 cs:=by
 intro j u hj
 rw [h.cell];simpa using hj
theorem Cr (w:World) (B:Nat):w.grownBy w (some B):=⟨rfl,rfl,rfl,Nat.le_refl _,fun _ _ _=>rfl⟩
theorem A5 {a b c:World} {B:Nat} (h:a.grownBy b (some B)) (k:b.grownBy c (some B)):a.grownBy c (some B) :=
 ⟨k.os.trans h.os,k.tape.trans h.tape,k.output.trans h.output,Nat.le_trans h.size k.size,fun j hj u=>(k.block j (Nat.lt_of_lt_of_le hj h.size) u).trans (h.block j hj u)⟩
theorem Ay (w:World) (B j:Nat) (v:Value):w.grownBy (w.setCell ⟨B,j,none⟩ v) (some B) :=
 ⟨rfl,rfl,rfl,by simp [World.setCell],fun k hk u=>Below.heap_setCell _ _ _ _ (by intro e;subst e;simp at u)⟩
theorem It {w w':World} (h:Ext w w') (B:Nat):w.grownBy w' (some B):=⟨h.os,h.tape,h.output,h.size,fun k hk _=>h.block k hk⟩
theorem Yf {a w:World} {B:Nat} (h:a.grownBy w (some B)) (o:Obj):a.grownBy (w.alloc o) (some B):=A5 h (It (Ab w o) B)
theorem Hm {a w:World} {B:Nat} (h:a.grownBy w (some B)):a.grownBy w.drew (some B):=⟨h.os,h.tape,h.output,h.size,h.block⟩
def Rows {α:Type} (size:Nat) (R:α->Nat->Nat->Prop):List α->Nat->Nat->Prop
 | [],_,_=>True
 | x::l,b,o=>R x b o/\Rows size R l b (o+size)
theorem Rows.get {α:Type} {size:Nat} {R:α->Nat->Nat->Prop} {l:List α}:∀ {b o:Nat},Rows size R l b o->∀ {k:Nat} {x:α},l[k]? = some x->R x b (o+k*size):=by
 induction l with
 | nil=>intro b o _ k x h;simp at h
 | cons y l ih =>
  intro b o h k x hk
  cases k with
  | zero=>simp at hk;subst hk;simpa using h.1
  | succ k =>
   have:=ih h.2 (k:=k) (x:=x) (by simpa using hk)
   rw [show o+(k+1)*size=o+size+k*size by rw [Nat.add_mul];omega];exact this
theorem Rows.mono {α:Type} {size:Nat} {R R':α->Nat->Nat->Prop} {l:List α} (hr:∀ x∈l,∀ b o,R x b o->R' x b o):∀ {b o:Nat},Rows size R l b o->Rows size R' l b o:=by
 induction l with
 | nil=>intro b o _;trivial
 | cons y l ih=>intro b o h;exact ⟨hr y (by simp) _ _ h.1,ih (fun x hx=>hr x (by simp [hx])) h.2⟩
def Sl {α:Type} (size:Nat) (R:α->Nat->Nat->Prop) (s:Value) (l:List α):Prop:=∃ b o,Hd s l.length b o/\Rows size R l b o
theorem Sl.mono {α:Type} {size:Nat} {R R':α->Nat->Nat->Prop} {s:Value} {l:List α} (h:Sl size R s l) (hr:∀ x∈l,∀ b o,R x b o->R' x b o):Sl size R' s l:=by
 obtain ⟨b,o,h1,h2⟩:=h
 exact ⟨b,o,h1,h2.mono hr⟩
theorem Sl.open {α:Type} {size:Nat} {R:α->Nat->Nat->Prop} {s:Value} {l:List α} (h:Sl size R s l) :
  ∃ a b o cap,s=.slice a l.length cap/\l.length<=cap/\cap<=9223372036854775807/\(0<l.length->a=some ⟨b,o,none⟩)/\Rows size R l b o:=by
 obtain ⟨b,o,⟨a,cap,h1,h2,h3,h4⟩,h5⟩:=h
 exact ⟨a,b,o,cap,h1,h2,by simpa [maxLen] using h3,h4,h5⟩
theorem Sl.nil {α:Type} (size:Nat) (R:α->Nat->Nat->Prop):Sl size R (.slice none 0 0) ([]:List α):=⟨0,0,⟨none,0,by simp,by simp,by simp [maxLen],by simp⟩,trivial⟩
/-! ### a struct is read whole -/
def Ah0:TypeDesc->Bool
 | .struct _ | .array _ _=>true
 | _=>false
def Agg (P:Program) (ty:TypeId) (n:Nat):Prop:=(P.underlying ty).map Ah0=some true/\(P.info? ty).map (·.size)=some n
theorem Dj {P:Program} (w:World) (b o:Nat) (ty:TypeId) (cs:List Value) (h:Has w b o cs) (hu:Agg P ty cs.length) :
  (loadVar ty ⟨b,o,none⟩).run P w=.ok (.agg cs.toArray) w:=by
 obtain ⟨hd,hi⟩:=hu
 have hl:(loadCells ⟨b,o,none⟩ cs.length).run P w=.ok cs.toArray w :=
  run_loadCells_list (P:=P) w ⟨b,o,none⟩ cs (fun j v hv=>by
   have u:(⟨b,o,none⟩:Addr).add j=⟨b,o+j,none⟩:=by unfold Addr.add;split<;>simp_all
   rw [u];exact h j v hv)
 cases hq:P.info? ty with
 | none=>simp [hq] at hi
 | some i =>
  have hs:i.size=cs.length:=by simpa [hq] using hi
  have aa:(isAgg ty).run P w=.ok true w:=by
   cases hu:P.underlying ty with
   | none=>simp [hu] at hd
   | some d =>
    unfold isAgg
    rw [Sem.run_bind,run_underlying hu w]
    rw [hu] at hd
    cases d<;>simp_all [Ah0]
  simp [loadVar,Sem.run_bind,aa,sizeOf,typeInfo,hq,hs,hl]
theorem Aa {P:Program} {j:Array Oper} {rest:List Oper} {o:Oper} {a:Act} {w:World} {Q:Exit->Act->World->Prop} (hw:Region.wanted o (yielded j a.tmps)=true) (ty:TypeId) (x:Operand) (ho:o.op=.load ty x)
  {b off:Nat} (hx:a.eval x=.pointer (some ⟨b,off,none⟩)) {cs:List Value} {n:Nat} (hg:Has w b off cs) (hu:Agg P ty n) (hn:cs.length=n)
  (h:wpList P j Q rest (a.put o.dst (.agg cs.toArray)) w):wpList P j Q (o::rest) a w :=
 BigFrame.wpList_want hw fun _ hK=>by
  subst hn
  unfold Oper.wp execOp
  simp only [ho,hx,Instr.loadAt,Instr.sureAddr,Sem.run_bind,Sem.run_pure,Result.andThen_ok,Dj w b off ty cs hg hu]
  exact hK _ _ h
def Bj (P:Program) (g:FuncId):Prop:=∀ (args:Array Value) (w:World),(callFunc g args).run P w=.ok (.enter g args) w
theorem A9 {P : Program} {f : FuncId} {fn : Func} {c : Code} (hf : P.funcs[f]? = some fn) (j : (fn.name == "runtime.NumGoroutine") = false) (hb : fn.body = some c) : Bj P f :=
 fun args w=>by
  have h1 : fn.name ≠ "runtime.NumGoroutine" := by simpa using j
  simp [callFunc,hf,h1,hb,mark]
theorem As {P:Program} {aa:Array Oper} {rest:List Oper} {o:Oper} {a:Act} {w:World} {Q:Exit->Act->World->Prop} (hw:Region.wanted o (yielded aa a.tmps)=true)
  (x:Operand) (l:List Operand) (j:Array TypeId) (ho:o.op=.call { callee:=.value x,args:=l.toArray,argTypes:=j })
  {g:FuncId} {lb:Array Value} (hx:a.eval x=.func (.func g) #[] lb) (eg:Bj P g) {args:List Value} (u:l.map a.eval=args) {v:Value} {R:World->Prop}
  (hc:Calls P g (args.toArray++lb) w fun r w'=>r=.returned v/\R w') (h:∀ w',R w'->wpList P aa Q rest (a.put o.dst v) w'):wpList P aa Q (o::rest) a w :=
 BigFrame.wpList_want hw fun K hK=>by
  obtain ⟨dst,op,ty,pos,after,guard⟩:=o
  simp only at ho
  subst ho
  subst u
  rw [<-List.map_toArray] at hc
  generalize l.toArray=xs at *
  have ab:(execOp a.eval { dst,op:=.call { callee:=.value x,args:=xs,argTypes:=j },type:=ty,pos,after,guard }).run P w=.ok (.enter g (xs.map a.eval++lb)) w:=by
   have h1:execOp a.eval { dst,op:=.call { callee:=.value x,args:=xs,argTypes:=j },type:=ty,pos,after,guard } = (Deferred.ofValue (a.eval x) (xs.map a.eval) >>= fun d=>invoke d.target d.args):=rfl
   have h2:(Deferred.ofValue (.func (.func g) #[] lb) (xs.map a.eval) >>= fun d=>invoke d.target d.args)=callFunc g (#[]++xs.map a.eval++lb):=rfl
   rw [h1,hx,h2,eg,Array.empty_append]
  unfold Oper.wp
  rw [ab]
  exact hc.mono fun r w' ⟨hr,hR⟩=>by subst hr;exact hK _ _ (h w' hR)
theorem Ad {P:Program} {j:Array Oper} {rest:List Oper} {o:Oper} {a:Act} {w:World} {Q:Exit->Act->World->Prop} (hw:Region.wanted o (yielded j a.tmps)=true)
  (ty:TypeId) (x y:Operand) (ho:o.op=.store ty x y) {c:Array Value} {B:Nat} (hx:a.eval x=.pointer (some ⟨B,0,none⟩)) (hB:w.heap.size=B) {cs:List Value} (hy:a.eval y=.agg cs.toArray) {n:Nat}
  (hu:Agg P ty n) (hn:cs.length=n) (hc:c.size=n) (h1:cs.all (·.oneCell')=true)
  (h:wpList P j Q rest (a.put o.dst undef) (w.alloc (.cells cs.toArray ty))):wpList P j Q (o::rest) a (w.alloc (.cells c ty)) :=
 BigFrame.wpList_want hw fun _ hK=>by
  subst hB
  unfold Oper.wp execOp
  simp only [ho,hx,hy]
  have:=run_storeAt_new (P:=P) w ty c cs.toArray (by rw [hu.2];simp [hn]) (by simp [hn,hc]) (by simpa using h1)
  simp only [Sem.run_bind,this,Result.andThen_ok,Sem.run_pure]
  exact hK _ _ h
theorem Kw {w:World} {B:Nat} {c cs:Array Value} {T:TypeId} (h:Blk w B c T):Blk (w.setRow B cs) B cs T:=by
 unfold Blk at *
 simp [World.setRow,Array.getElem?_modify,h]
theorem Ml (w:World) (B:Nat) (cs:Array Value):w.grownBy (w.setRow B cs) (some B) :=
 ⟨rfl,rfl,rfl,by simp [World.setRow],fun k hk j=>by
  simp only [World.setRow,Array.getElem?_modify]
  rw [if_neg (by intro e;subst e;simp at j)]⟩
theorem Ac {P:Program} {j:Array Oper} {rest:List Oper} {o:Oper} {a:Act} {w:World} {Q:Exit->Act->World->Prop} (hw:Region.wanted o (yielded j a.tmps)=true)
  (ty:TypeId) (x y:Operand) (ho:o.op=.store ty x y) {c:Array Value} {B:Nat} (hb:Blk w B c ty) (hx:a.eval x=.pointer (some ⟨B,0,none⟩)) {cs:List Value} (hy:a.eval y=.agg cs.toArray) {n:Nat}
  (hu:Agg P ty n) (hn:cs.length=n) (hc:c.size=n) (h1:cs.all (·.oneCell')=true)
  (h:∀ w',Blk w' B cs.toArray ty->w.grownBy w' (some B)->wpList P j Q rest (a.put o.dst undef) w'):wpList P j Q (o::rest) a w :=
 BigFrame.wpList_want hw fun _ hK=>by
  unfold Oper.wp execOp
  simp only [ho,hx,hy]
  have:=run_storeVar_row (P:=P) w B ty ty c cs.toArray hb (by rw [hu.2];simp [hn]) (by simp [hn,hc]) (by simpa using h1)
  simp only [Instr.storeAt,Instr.sureAddr,Sem.run_bind,Sem.run_pure,Result.andThen_ok,this]
  exact hK _ _ (h _ (Kw hb) (Ml w B _))
theorem Av {P:Program} {fn:Func} {R:Ending->World->Prop} {a:Act} {w:World} {p:Tmp} {ty:TypeId} {B:Nat} {cs:List Value} {n:Nat} (hf:fn.results = #[.cell p ty])
  (hp:a.tmps.getD p undef=.pointer (some ⟨B,0,none⟩)) (hb:Has w B 0 cs) (hu:Agg P ty n) (hn:cs.length=n) (hd:a.defers=[]) (h:R (.returned (.agg cs.toArray)) w):bodyPost P fn R .ret a w:=by
 subst hn
 refine bodyPost_ret ?_ hd h
 have j:a.tmps[p]?.getD undef=.pointer (some ⟨B,0,none⟩):=by simpa using hp
 simp [results,hf,j,asAddr,Dj w B 0 ty cs hb hu]
theorem Jg {P:Program} {j:Array Oper} {Q:Exit->Act->World->Prop} (w0:World) {id:Nat} {a:Act} (h:Ext w0 w0.drew->wpAnyH P .any j Q (fun W=>Ext w0 W) j.size (Array.replicate j.size false) a w0.drew) (hm:P.follows .mixedOrders=true:=by kernel_rfl):(Code.region id j true).wp P Q a w0:=wp_region_held_drew (S:=fun W=>Ext w0 W) hm (Below.drew (Below.refl _ _)) h
theorem Jm {P:Program} {j:Array Oper} {rest:List Oper} {o:Oper} {a:Act} {w:World} {Q:Exit->Act->World->Prop} (ty:TypeId) {x:Operand} {b off:Nat} {cs:List Value} {n:Nat} (hg:Has w b off cs) (hu:Agg P ty n) (hn:cs.length=n)
  (h:wpList P j Q rest (a.put o.dst (.agg cs.toArray)) w) (hw:Region.wanted o (yielded j a.tmps)=true:=by rfl) (ho:o.op=.load ty x:=by rfl) (hx:a.eval x=.pointer (some ⟨b,off,none⟩):=by rfl):wpList P j Q (o::rest) a w:=Aa hw ty x ho hx hg hu hn h
/-! ### a design, as data -/
structure E where
 op:Int
 w:Int
 v:Int
 sig:Int
 hi:Int
 lo:Int
 n:Int
 l:List E
structure T where
 op:Int
 sig:Int
 hi:Int
 lo:Int
 e:List E
 l:List T
structure Ai where
 name:ByteArray
 w:Int
 kind:Int
 init:Int
structure C0 where
 clocked:Bool
 l:List T
structure Chk where
 name:ByteArray
 e:E
structure Bb where
 signals:List Ai
 procs:List C0
 checks:List Chk
theorem E.ind {P:E->Prop} (h:∀ e,(∀ x∈e.l,P x)->P e) (e:E):P e:=by
 refine E.rec (motive_1:=P) (motive_2:=fun l=>∀ x∈l,P x) ?_ ?_ ?_ e
 ·exact fun op w v sig hi lo n l ih=>h _ ih
 ·intro x hx;cases hx
 ·intro x l h1 h2 y hy
  cases hy with
  | head=>exact h1
  | tail _ hy=>exact h2 y hy
theorem T.ind {P:T->Prop} (h:∀ t,(∀ x∈t.l,P x)->P t) (t:T):P t:=by
 refine T.rec (motive_1:=P) (motive_2:=fun l=>∀ x∈l,P x) ?_ ?_ ?_ t
 ·exact fun op sig hi lo e l ih=>h _ ih
 ·intro x hx;cases hx
 ·intro x l h1 h2 y hy
  cases hy with
  | head=>exact h1
  | tail _ hy=>exact h2 y hy
/-! ### its cells -/
abbrev E.cells (e:E) (s:Value):List Value :=
 [.int .i64 e.op,.int .i64 e.w,.int .u64 e.v,.int .i64 e.sig,.int .i64 e.hi,.int .i64 e.lo,.int .i64 e.n,s]
abbrev T.cells (t:T) (s s':Value):List Value:=[.int .i64 t.op,.int .i64 t.sig,.int .i64 t.hi,.int .i64 t.lo,s,s']
abbrev Ai.cells (x:Ai):List Value:=[.string x.name,.int .i64 x.w,.int .i64 x.kind,.int .u64 x.init]
abbrev C0.cells (p:C0) (s:Value):List Value:=[.bool p.clocked,s]
abbrev Chk.cells (c:Chk) (s:Value):List Value:=.string c.name::c.e.cells s
/-! ### how it lies in memory -/
def EAt (w:World):E->Nat->Nat->Prop
 | ⟨op,wd,v,sig,hi,lo,n,l⟩,b,o=>∃ s b' o',Has w b o [.int .i64 op,.int .i64 wd,.int .u64 v,.int .i64 sig,.int .i64 hi,.int .i64 lo,.int .i64 n,s]/\Hd s l.length b' o'/\rows l b' o'
where rows:List E->Nat->Nat->Prop
 | [],_,_=>True
 | e::l,b,o=>EAt w e b o/\rows l b (o+8)
theorem EAt.rows_iff {w:World} (l:List E):∀ b o,EAt.rows w l b o↔Rows 8 (EAt w) l b o:=by
 induction l with
 | nil=>intro b o;simp [EAt.rows,Rows]
 | cons e l ih=>intro b o;simp [EAt.rows,Rows,ih]
abbrev Es (w:World) (s:Value) (l:List E):Prop:=Sl 8 (EAt w) s l
theorem Kf {w:World} {e:E} {b o:Nat}:EAt w e b o↔∃ s,Has w b o (e.cells s)/\Es w s e.l:=by
 obtain ⟨op,wd,v,sig,hi,lo,n,l⟩:=e
 constructor
 ·rintro ⟨s,b',o',h1,h2,h3⟩
  exact ⟨s,h1,b',o',h2,(EAt.rows_iff l b' o').1 h3⟩
 ·rintro ⟨s,h1,b',o',h2,h3⟩
  exact ⟨s,b',o',h1,h2,(EAt.rows_iff l b' o').2 h3⟩
def TAt (w:World):T->Nat->Nat->Prop
 | ⟨op,sig,hi,lo,e,l⟩,b,o=>∃ s s' b' o',Has w b o [.int .i64 op,.int .i64 sig,.int .i64 hi,.int .i64 lo,s,s']/\Es w s e/\Hd s' l.length b' o'/\rows l b' o'
where rows:List T->Nat->Nat->Prop
 | [],_,_=>True
 | e::l,b,o=>TAt w e b o/\rows l b (o+6)
theorem TAt.rows_iff {w:World} (l:List T):∀ b o,TAt.rows w l b o↔Rows 6 (TAt w) l b o:=by
 induction l with
 | nil=>intro b o;simp [TAt.rows,Rows]
 | cons e l ih=>intro b o;simp [TAt.rows,Rows,ih]
abbrev Ts (w:World) (s:Value) (l:List T):Prop:=Sl 6 (TAt w) s l
theorem Mf {w:World} {t:T} {b o:Nat}:TAt w t b o↔∃ s s',Has w b o (t.cells s s')/\Es w s t.e/\Ts w s' t.l:=by
 obtain ⟨op,sig,hi,lo,e,l⟩:=t
 constructor
 ·rintro ⟨s,s',b',o',h1,h0,h2,h3⟩
  exact ⟨s,s',h1,h0,b',o',h2,(TAt.rows_iff l b' o').1 h3⟩
 ·rintro ⟨s,s',h1,h0,b',o',h2,h3⟩
  exact ⟨s,s',b',o',h1,h0,h2,(TAt.rows_iff l b' o').2 h3⟩
abbrev C6 (w:World) (x:Ai) (b o:Nat):Prop:=Has w b o x.cells
abbrev Cq (w:World) (s:Value) (l:List Ai):Prop:=Sl 4 (C6 w) s l
def Cy (w:World) (p:C0) (b o:Nat):Prop:=∃ s,Has w b o (p.cells s)/\Ts w s p.l
abbrev Hg (w:World) (s:Value) (l:List C0):Prop:=Sl 2 (Cy w) s l
def Dr (w:World) (c:Chk) (b o:Nat):Prop:=∃ s,Has w b o (c.cells s)/\Es w s c.e.l
abbrev Nx (w:World) (s:Value) (l:List Chk):Prop:=Sl 9 (Dr w) s l
def Ck (w:World) (v:Value) (d:Bb):Prop:=∃ s p c,v=.agg #[s,p,c]/\Cq w s d.signals/\Hg w p d.procs/\Nx w c d.checks
/-! ### the world may grow -/
theorem EAt.ext {w w':World} (hx:Ext w w') (e:E):∀ b o,EAt w e b o->EAt w' e b o:=by
 induction e using E.ind with
 | h e ih =>
  intro b o h
  obtain ⟨s,h1,h2⟩:=Kf.1 h
  exact Kf.2 ⟨s,h1.ext hx,h2.mono ih⟩
theorem Es.ext {w w':World} {s:Value} {l:List E} (h:Es w s l) (hx:Ext w w'):Es w' s l:=h.mono fun _ _ _ _=>EAt.ext hx _ _ _
theorem TAt.ext {w w':World} (hx:Ext w w') (t:T):∀ b o,TAt w t b o->TAt w' t b o:=by
 induction t using T.ind with
 | h t ih =>
  intro b o h
  obtain ⟨s,s',h1,h2,h3⟩:=Mf.1 h
  exact Mf.2 ⟨s,s',h1.ext hx,h2.ext hx,h3.mono ih⟩
theorem Ts.ext {w w':World} {s:Value} {l:List T} (h:Ts w s l) (hx:Ext w w'):Ts w' s l:=h.mono fun _ _ _ _=>TAt.ext hx _ _ _
theorem Cq.ext {w w':World} {s:Value} {l:List Ai} (h:Cq w s l) (hx:Ext w w'):Cq w' s l:=h.mono fun _ _ _ _ h=>Has.ext h hx
theorem Cy.ext {w w':World} {p:C0} {b o:Nat} (h:Cy w p b o) (hx:Ext w w'):Cy w' p b o:=by
 obtain ⟨s,h1,h2⟩:=h
 exact ⟨s,h1.ext hx,h2.ext hx⟩
theorem Hg.ext {w w':World} {s:Value} {l:List C0} (h:Hg w s l) (hx:Ext w w'):Hg w' s l:=h.mono fun _ _ _ _ h=>Cy.ext h hx
theorem Dr.ext {w w':World} {p:Chk} {b o:Nat} (h:Dr w p b o) (hx:Ext w w'):Dr w' p b o:=by
 obtain ⟨s,h1,h2⟩:=h
 exact ⟨s,h1.ext hx,h2.ext hx⟩
theorem Nx.ext {w w':World} {s:Value} {l:List Chk} (h:Nx w s l) (hx:Ext w w'):Nx w' s l:=h.mono fun _ _ _ _ h=>Dr.ext h hx
theorem Ck.ext {w w':World} {v:Value} {d:Bb} (h:Ck w v d) (hx:Ext w w'):Ck w' v d:=by
 obtain ⟨s,p,c,h0,h1,h2,h3⟩:=h
 exact ⟨s,p,c,h0,h1.ext hx,h2.ext hx,h3.ext hx⟩
theorem Es.get {w:World} {l:List E} {b o k:Nat} (h:Rows 8 (EAt w) l b o) (hk:k<l.length):∃ s,Has w b (o+k*8) (l[k].cells s)/\Es w s l[k].l :=
 Kf.1 (h.get (List.getElem?_eq_getElem hk))
theorem Ts.get {w:World} {l:List T} {b o k:Nat} (h:Rows 6 (TAt w) l b o) (hk:k<l.length):∃ s s',Has w b (o+k*6) (l[k].cells s s')/\Es w s l[k].e/\Ts w s' l[k].l :=
 Mf.1 (h.get (List.getElem?_eq_getElem hk))
/-! ### the types of the translation -/
theorem Ah:Agg Tryz.prog 40 8:=by unfold Agg;exact ⟨by kernel_rfl,by kernel_rfl⟩
theorem Aw:Agg Tryz.prog 44 6:=by unfold Agg;exact ⟨by kernel_rfl,by kernel_rfl⟩
theorem Br:Agg Tryz.prog 37 4:=by unfold Agg;exact ⟨by kernel_rfl,by kernel_rfl⟩
theorem Cz:Agg Tryz.prog 48 2:=by unfold Agg;exact ⟨by kernel_rfl,by kernel_rfl⟩
theorem Co:Agg Tryz.prog 96 9:=by unfold Agg;exact ⟨by kernel_rfl,by kernel_rfl⟩
theorem Aj:Agg Tryz.prog 26 3:=by unfold Agg;exact ⟨by kernel_rfl,by kernel_rfl⟩
theorem M1 (z:Value) (n:Nat):madeCells #[z] n=(List.replicate n z).toArray:=by
 apply Array.ext_getElem?
 intro i
 simp only [madeCells,Array.getElem?_map,Array.getElem?_range]
 by_cases h:i<n
 ·simp [h,Nat.mod_one,List.getElem?_replicate]
 ·simp [h,List.getElem?_replicate]
theorem Um {P:Program} {j:Array Oper} {rest:List Oper} {o:Oper} {a:Act} {w:World} {Q:Exit->Act->World->Prop} (hw:Region.wanted o (yielded j a.tmps)=true)
  (T:TypeId) (x y:Operand) (ho:o.op=.makeSlice T x y) {n:Nat} (hx:a.eval x=.int .i64 (n:Int)) (hy:a.eval y=.int .i64 (n:Int)) {e:TypeId} {z:Value} {size bytes:Nat}
  (ht:P.underlying T=some (.slice e)) (hi:(P.info? e).map (fun i=>(i.zero,i.size,i.bytes))=some (some z,size,bytes)) (hb:(bytes:Int)*(n:Int)<=281474976710656) (u:(n:Int)<=9223372036854775807)
  (h:wpList P j Q rest (a.put o.dst (.slice (some ⟨w.heap.size,0,none⟩) n n)) (w.alloc (.cells (madeCells z.cells (n*size)) e))):wpList P j Q (o::rest) a w :=
 BigFrame.wpList_want hw fun _ hK=>by
  cases hq:P.info? e with
  | none=>simp [hq] at hi
  | some i =>
   simp only [hq,Option.map_some,Option.some.injEq,Prod.mk.injEq] at hi
   obtain ⟨hz,hs,aa⟩:=hi
   subst hs
   subst aa
   have:=run_make (P:=P) w T e i z ht hq hz .i64 .i64 n n (by omega) (by omega) hb u
   unfold Oper.wp execOp
   simp only [Int.toNat_natCast] at this
   simp only [ho,hx,hy,Sem.run_bind,this,Result.andThen_ok,Sem.run_pure]
   exact hK _ _ h
theorem Yh:(Tryz.prog.info? 3).map (fun i=>(i.zero,i.size,i.bytes))=some (some (.int .i64 0),1,8):=by kernel_rfl
theorem Ahf:(Tryz.prog.info? 40).map (fun i=>(i.zero,i.size,i.bytes))=some (some (.agg #[.int .i64 0,.int .i64 0,.int .u64 0,.int .i64 0,.int .i64 0,.int .i64 0,.int .i64 0,.slice none 0 0]),8,80):=by kernel_rfl
/-! ### slices of ints -/
abbrev ints (l:List Int):List Value:=l.map (Value.int .i64)
def Mu (w:World) (x:Int) (b o:Nat):Prop:=w.cell? ⟨b,o,none⟩=some (.int .i64 x)
abbrev Is (w:World) (s:Value) (l:List Int):Prop:=Sl 1 (Mu w) s l
theorem Mu.ext {w w':World} {x:Int} {b o:Nat} (h:Mu w x b o) (hx:Ext w w'):Mu w' x b o :=
 (hx.cell (p:=⟨b,o,none⟩) (World.block_lt_of_cell? w _ h)).trans h
theorem Is.ext {w w':World} {s:Value} {l:List Int} (h:Is w s l) (hx:Ext w w'):Is w' s l:=h.mono fun _ _ _ _ h=>Mu.ext h hx
theorem Is.get {w:World} {l:List Int} {b o k:Nat} (h:Rows 1 (Mu w) l b o) (hk:k<l.length):w.cell? ⟨b,o+k,none⟩=some (.int .i64 l[k]):=by
 have:=h.get (List.getElem?_eq_getElem hk)
 simpa [Mu] using this
theorem Ack {w:World} {b:Nat} (l:List Int):∀ (o:Nat),(∀ k (hk:k<l.length),w.cell? ⟨b,o+k,none⟩=some (.int .i64 l[k]))->Rows 1 (Mu w) l b o:=by
 induction l with
 | nil=>intro o _;trivial
 | cons x l ih =>
  intro o h
  refine ⟨by have:=h 0 (by simp);simpa [Mu] using this,ih _ fun k hk=>?_⟩
  have:=h (k+1) (by simpa using hk)
  rw [show o+1+k=o+(k+1) by omega]
  simpa using this
theorem Blk.ints {w:World} {B:Nat} {l:List Int} {T:TypeId} (h:Blk w B (ints l).toArray T) (cap:Nat) (hc:l.length<=cap) (hm:cap<=maxLen):Is w (.slice (some ⟨B,0,none⟩) l.length cap) l :=
 ⟨B,0,⟨_,cap,rfl,hc,hm,fun _=>rfl⟩,Ack l 0 fun k hk=>by rw [h.cell];simp [hk]⟩
def Ap {α:Type} (f:α->Nat):List α->Nat
 | []=>0
 | x::l=>f x+Ap f l
def A6 {α:Type} (f:α->Nat):List α->Nat
 | []=>0
 | x::l=>max (f x) (A6 f l)
theorem Aau {α:Type} (f:α->Nat) (l:List α) (x:α):Ap f (l++[x])=Ap f l+f x:=by
 induction l with
 | nil=>simp [Ap]
 | cons y l ih=>simp [Ap,ih];omega
theorem Aab {α:Type} (f:α->Nat) (l:List α) (x:α):A6 f (l++[x])=max (A6 f l) (f x):=by
 induction l with
 | nil=>simp [A6]
 | cons y l ih=>rw [List.cons_append,A6,A6,ih];omega
theorem Ba {α:Type} (l:List α) (k:Nat) (h:k<l.length):l.take (k+1)=l.take k++[l[k]]:=by
 rw [List.take_succ_eq_append_getElem h]
theorem Ct {α:Type} (f:α->Nat) (l:List α) (k:Nat) (h:k<l.length):Ap f (l.take (k+1))=Ap f (l.take k)+f l[k]:=by
 rw [Ba l k h,Aau]
theorem Df {α:Type} (f:α->Nat) (l:List α) (k:Nat) (h:k<l.length):A6 f (l.take (k+1))=max (A6 f (l.take k)) (f l[k]):=by
 rw [Ba l k h,Aab]
theorem Kx {α:Type} (f:α->Nat) (l r:List α):Ap f (l++r)=Ap f l+Ap f r:=by
 induction l with
 | nil=>simp [Ap]
 | cons y l ih=>simp [Ap,ih];omega
theorem Bz {α:Type} (f:α->Nat) (l:List α) (k:Nat):Ap f (l.take k)<=Ap f l:=by
 have:=Kx f (l.take k) (l.drop k)
 rw [List.take_append_drop] at this
 omega
theorem Vi {α:Type} (f:α->Nat) (l r:List α):A6 f (l++r)=max (A6 f l) (A6 f r):=by
 induction l with
 | nil=>simp [A6]
 | cons y l ih=>rw [List.cons_append,A6,A6,ih];omega
theorem Ce {α:Type} (f:α->Nat) (l:List α) (k:Nat):A6 f (l.take k)<=A6 f l:=by
 have:=Vi f (l.take k) (l.drop k)
 rw [List.take_append_drop] at this
 omega
theorem Bf {α:Type} (f:α->Nat) (l:List α) (x:α) (h:x∈l):f x<=Ap f l:=by
 induction l with
 | nil=>cases h
 | cons y l ih =>
  simp only [Ap]
  cases h with
  | head=>omega
  | tail _ h=>have:=ih h;omega
theorem Dz {α:Type} (f g:α->Nat) (l:List α) (h:∀ x∈l,f x<=g x):A6 f l<=Ap g l:=by
 induction l with
 | nil=>simp [A6]
 | cons y l ih =>
  have h1:=h y (by simp)
  have h2:=ih (fun x hx=>h x (by simp [hx]))
  simp only [A6,Ap]
  omega
theorem A8 {α:Type} (f:α->Nat) (l:List α) (h:∀ x∈l,1<=f x):l.length<=Ap f l:=by
 induction l with
 | nil=>simp
 | cons y l ih =>
  have h1:=h y (by simp)
  have h2:=ih (fun x hx=>h x (by simp [hx]))
  simp only [Ap,List.length_cons]
  omega
/-! ### nodes, and how Cu they stand -/
def nodes:E->Nat
 | ⟨_,_,_,_,_,_,_,l⟩=>1+sum l
where sum:List E->Nat
 | []=>0
 | e::l=>nodes e+sum l
def Cu:E->Nat
 | ⟨_,_,_,_,_,_,_,l⟩=>mx l+1
where mx:List E->Nat
 | []=>0
 | e::l=>max (Cu e) (mx l)
theorem C7 (e:E):nodes e=1+Ap nodes e.l:=by
 have h:∀ l,nodes.sum l=Ap nodes l:=by
  intro l;induction l with
  | nil=>rfl
  | cons x l ih=>simp [nodes.sum,Ap,ih]
 cases e;simp [nodes,h]
theorem N8 (e:E):Cu e=A6 Cu e.l+1:=by
 have h:∀ l,Cu.mx l=A6 Cu l:=by
  intro l;induction l with
  | nil=>rfl
  | cons x l ih=>simp [Cu.mx,A6,ih]
 cases e;simp [Cu,h]
theorem Gh (e:E):1<=nodes e:=by rw [C7];omega
theorem G6 (e:E):Cu e<=nodes e:=by
 induction e using E.ind with
 | h e ih=>rw [C7,N8];have:=Dz Cu nodes e.l ih;omega
def Aq:T->Nat
 | ⟨_,_,_,_,e,l⟩=>1+sum l+Ap nodes e
where sum:List T->Nat
 | []=>0
 | e::l=>Aq e+sum l
def Cc:T->Nat
 | ⟨_,_,_,_,e,l⟩=>1+max (mx l) (A6 Cu e)
where mx:List T->Nat
 | []=>0
 | e::l=>max (Cc e) (mx l)
theorem Ca (t:T):Aq t=1+Ap Aq t.l+Ap nodes t.e:=by
 have h:∀ l,Aq.sum l=Ap Aq l:=by
  intro l;induction l with
  | nil=>rfl
  | cons x l ih=>simp [Aq.sum,Ap,ih]
 cases t;simp [Aq,h]
theorem I6 (t:T):Cc t=1+max (A6 Cc t.l) (A6 Cu t.e):=by
 have h:∀ l,Cc.mx l=A6 Cc l:=by
  intro l;induction l with
  | nil=>rfl
  | cons x l ih=>simp [Cc.mx,A6,ih]
 cases t;simp [Cc,h]
theorem F9 (t:T):1<=Aq t:=by rw [Ca];omega
theorem K9 (t:T):Cc t<=Aq t:=by
 induction t using T.ind with
 | h t ih =>
  rw [Ca,I6]
  have h1:=Dz Cc Aq t.l ih
  have h2:=Dz Cu nodes t.e (fun e _=>G6 e)
  omega
/-! ### ranges of numbers -/
def Fp (n:Int):Prop:=-9223372036854775808<=n/\n<=9223372036854775807
def St (n:Int):Prop:=0<=n/\n<=18446744073709551615
def E.wf:E->Prop
 | ⟨op,w,v,sig,hi,lo,n,l⟩=>Fp op/\Fp w/\St v/\Fp sig/\Fp hi/\Fp lo/\Fp n/\wfs l
where wfs:List E->Prop
 | []=>True
 | e::l=>E.wf e/\wfs l
theorem E.wfs_iff (l:List E):E.wf.wfs l↔∀ e∈l,e.wf:=by
 induction l with
 | nil=>simp [E.wf.wfs]
 | cons e l ih=>simp [E.wf.wfs,ih]
theorem E.wf_iff (e:E):e.wf↔Fp e.op/\Fp e.w/\St e.v/\Fp e.sig/\Fp e.hi/\Fp e.lo/\Fp e.n/\∀ x∈e.l,x.wf:=by
 cases e;simp [E.wf,E.wfs_iff]
def T.wf:T->Prop
 | ⟨op,sig,hi,lo,e,l⟩=>Fp op/\Fp sig/\Fp hi/\Fp lo/\(∀ x∈e,x.wf)/\wfs l
where wfs:List T->Prop
 | []=>True
 | e::l=>T.wf e/\wfs l
theorem T.wfs_iff (l:List T):T.wf.wfs l↔∀ e∈l,e.wf:=by
 induction l with
 | nil=>simp [T.wf.wfs]
 | cons e l ih=>simp [T.wf.wfs,ih]
theorem T.wf_iff (t:T):t.wf↔Fp t.op/\Fp t.sig/\Fp t.hi/\Fp t.lo/\(∀ x∈t.e,x.wf)/\∀ x∈t.l,x.wf:=by
 cases t;simp [T.wf,T.wfs_iff]
def Ai.wf (x:Ai):Prop:=Fp x.w/\Fp x.kind/\St x.init/\x.name.size<=9223372036854775807
structure Bb.wf (d:Bb):Prop where
 signals:∀ x∈d.signals,x.wf
 procs:∀ p∈d.procs,∀ t∈p.l,t.wf
 checks:∀ c∈d.checks,c.e.wf
/-! ### shapes -/
def holds (w v:Int):Bool:=decide ((Lib.bitLen v.toNat:Int)<=w)
def Dn (ls:List Ai) (sig:Int):Int:=match ls[sig.toNat]? with | some s=>s.w | none=>0
def slice (ls:List Ai) (sig hi lo:Int):Bool :=
 decide (0<=sig)&&decide (sig<ls.length)&&decide (0<=lo)&&decide (lo<=hi)&&decide (hi<Dn ls sig)
def Bl (ls:List Ai) (op w v sig hi lo n:Int) (len:Nat):Bool :=
 if op=1 then decide (len=0)&&decide (0<=w)&&decide (w<=64)&&(decide (w=0)||holds w v)&&(decide (sig=0)&&decide (hi=0)&&decide (lo=0)&&decide (n=0))
 else if op=2 then decide (len=0)&&slice ls sig hi lo&&(decide (v=0)&&decide (n=0))
 else if op=3 then decide (len=1)&&decide (0<=sig)&&decide (sig<ls.length)&&(decide (v=0)&&decide (hi=0)&&decide (lo=0)&&decide (n=0))
 else if op=4 then decide (len=1)&&decide (1<=n)&&decide (n<=6)&&(decide (v=0)&&decide (sig=0)&&decide (hi=0)&&decide (lo=0))
 else if op=5 then decide (len=2)&&decide (11<=n)&&decide (n<=26)&&(decide (v=0)&&decide (sig=0)&&decide (hi=0)&&decide (lo=0))
 else if op=6 then decide (len=3)&&(decide (v=0)&&decide (sig=0)&&decide (hi=0)&&decide (lo=0)&&decide (n=0))
 else if op=7 then decide (0<len)&&(decide (v=0)&&decide (sig=0)&&decide (hi=0)&&decide (lo=0)&&decide (n=0))
 else if op=8 then decide (len=1)&&decide (31<=n)&&decide (n<=33)&&decide (1<=w)&&decide (w<=64)&&(decide (v=0)&&decide (sig=0)&&decide (hi=0)&&decide (lo=0))
 else false
def A7 (ls:List Ai):E->Bool
 | ⟨op,w,v,sig,hi,lo,n,l⟩=>Bl ls op w v sig hi lo n l.length&&all l
where all:List E->Bool
 | []=>true
 | e::l=>A7 ls e&&all l
theorem Fu (ls:List Ai) (e:E):A7 ls e=(Bl ls e.op e.w e.v e.sig e.hi e.lo e.n e.l.length&&e.l.all (A7 ls)):=by
 have h:∀ l,A7.all ls l=l.all (A7 ls):=by
  intro l;induction l with
  | nil=>rfl
  | cons x l ih=>simp [A7.all,ih]
 cases e;simp [A7,h]
/-! ### own widths -/
def own:E->Int
 | ⟨op,w,_,_,hi,lo,n,l⟩ =>
  if op=1\/op=8 then w
  else if op=2 then hi-lo+1
  else if op=7 then cat l 0
  else if op=6 then fst2 l
  else if op=4 then (if n<=2 then hd l else 1)
  else if op=5 then (if n<=16 then fst l else if n<=18 then hd l else 1)
  else 1
where
 cat:List E->Int->Int
  | [],n=>n
  | e::l,n=>if own e=0 then 0 else cat l (n+own e)
 fst:List E->Int
  | []=>0
  | e::l=>if own e=0 then fst l else own e
 fst2:List E->Int
  | []=>0
  | _::l=>fst l
 hd:List E->Int
  | []=>0
  | e::_=>own e
theorem Li (e:E):∀ (s:Value) (w:World) (_:Es w s e.l) (_:nodes e<=1048576),
  Calls Tryz.prog 51 #[.agg (e.cells s).toArray] w fun r w'=>r=.returned (.int .i64 (nodes e))/\Ext w w':=by
 induction e using E.ind with
 | h e ih =>
 intro s w h hb
 have IH:=Jh ih
 clear ih
 obtain ⟨op,wd,v,sig,hi,lo,n,l⟩:=e
 obtain ⟨a,b,o,cap,hs,ac,ae,ha,hr⟩:=h.open
 subst hs
 rw [C7] at hb
 simp only at ac ae ha hr IH hb
 have HN:=Jh (C7 ⟨op,wd,v,sig,hi,lo,n,l⟩)
 have ab:=Has.alloc w (E.cells ⟨op,wd,v,sig,hi,lo,n,l⟩ (.slice a l.length cap)) 40
 have aa:=Ab w (.cells (E.cells ⟨op,wd,v,sig,hi,lo,n,l⟩ (.slice a l.length cap)).toArray 40)
 go_enter Tryz.func51,Tryz.ntmps51
 go_wp2_with fail
 generalize w.alloc _=w0 at *
 go_loopw [3,4] (fun x i wr=>∃ k:Nat,k<=l.length/\i=.int .i64 k/\x=.int .i64 ((1+Ap nodes (l.take k):Nat):Int)/\Ext w0 wr) (fun _ i _=>l.length-(intOf i).toNat)
 case atStart=>exact ⟨0,Nat.zero_le _,rfl,by simp [Ap],Below.refl _ _⟩
 case round =>
  obtain ⟨k,hk,rfl,rfl,hB⟩:=hrel
  have hc:=(ab.ext hB) 7 _ rfl
  by_cases j:k<l.length
  ·obtain ⟨s1,af,ag⟩:=Es.get (hr.mono fun x _ b o=>EAt.ext (aa.trans hB) x b o) j
   have ht:=Jh (Ct nodes l k j)
   have ai:=Bz nodes l (k+1)
   rw [ht.out] at ai
   have u:l[k]∈l:=List.getElem_mem j
   obtain rfl:=ha (by omega)
   generalize l[k]=ek at *
   go_wp2_with (first | ((with_reducible show Jl 40);refine Aa rfl 40 _ rfl rfl (af) Ah rfl ?_) | (go_at_call 51;refine (IH.out _ u _ _ ag (by omega)).mono ?_;rintro r w1 ⟨rfl,aj⟩))
   go_roundw
   case rel=>exact ⟨k+1,by omega,by go_num,by rw [ht.out];congr 1;omega,hB.trans aj⟩
   case measure=>simp [intOf];omega
  ·go_wp2_with fail
   go_ret
   obtain rfl:k=l.length:=by omega
   exact ⟨by rw [HN.out,List.take_length];rfl,aa.trans hB⟩
theorem M7 (e:E):∀ (s:Value) (w:World) (_:Es w s e.l) (_:Cu e<=1048576),
  Calls Tryz.prog 52 #[.agg (e.cells s).toArray] w fun r w'=>r=.returned (.int .i64 (Cu e))/\Ext w w':=by
 induction e using E.ind with
 | h e ih =>
 intro s w h hb
 have IH:=Jh ih
 clear ih
 obtain ⟨op,wd,v,sig,hi,lo,n,l⟩:=e
 obtain ⟨a,b,o,cap,hs,ae,af,ha,hr⟩:=h.open
 subst hs
 rw [N8] at hb
 simp only at ae af ha hr IH hb
 have HN:=Jh (N8 ⟨op,wd,v,sig,hi,lo,n,l⟩)
 have ac:=Has.alloc w (E.cells ⟨op,wd,v,sig,hi,lo,n,l⟩ (.slice a l.length cap)) 40
 have ab:=Ab w (.cells (E.cells ⟨op,wd,v,sig,hi,lo,n,l⟩ (.slice a l.length cap)).toArray 40)
 have aj:=Ce Cu l l.length
 rw [List.take_length] at aj
 go_enter Tryz.func52,Tryz.ntmps52
 go_wp2_with fail
 generalize w.alloc _=w0 at *
 go_loopw [3,4] (fun x i wr=>∃ k:Nat,k<=l.length/\i=.int .i64 k/\x=.int .i64 ((A6 Cu (l.take k):Nat):Int)/\Ext w0 wr) (fun _ i _=>l.length-(intOf i).toNat)
 case atStart=>exact ⟨0,Nat.zero_le _,rfl,by simp [A6],Below.refl _ _⟩
 case round =>
  obtain ⟨k,hk,rfl,rfl,hB⟩:=hrel
  have hc:=(ac.ext hB) 7 _ rfl
  by_cases j:k<l.length
  ·obtain ⟨s1,ag,ai⟩:=Es.get (hr.mono fun x _ b o=>EAt.ext (ab.trans hB) x b o) j
   have ht:=Jh (Df Cu l k j)
   have u:=Ce Cu l (k+1)
   rw [ht.out] at u
   have aa:l[k]∈l:=List.getElem_mem j
   obtain rfl:=ha (by omega)
   generalize l[k]=ek at *
   go_wp2_with (first | ((with_reducible show Jl 40);refine Aa rfl 40 _ rfl rfl (ag) Ah rfl ?_) | (go_at_call 52;refine (IH.out _ aa _ _ ai (by omega)).mono ?_;rintro r w1 ⟨rfl,ak⟩))
   go_roundw
   case rel=>exact ⟨k+1,by omega,by go_num,by rw [ht.out];congr 1;split<;>omega,hB.trans ak⟩
   case measure=>simp [intOf];omega
  ·have u:=Ce Cu l k
   go_wp2_with fail
   go_ret
   obtain rfl:k=l.length:=by omega
   exact ⟨by rw [HN.out,List.take_length];rfl,ab.trans hB⟩
theorem Pj (l:List T) (ih:∀ t∈l,∀ (s:Value) (w:World) (_:Ts w s t.l) (_:Ap Aq t.l<=1048576),
   Calls Tryz.prog 49 #[s] w fun r w'=>r=.returned (.int .i64 (Ap Aq t.l))/\Ext w w') :
  ∀ (s:Value) (w:World) (_:Ts w s l) (_:Ap Aq l<=1048576),
   Calls Tryz.prog 49 #[s] w fun r w'=>r=.returned (.int .i64 (Ap Aq l))/\Ext w w':=by
 intro s w h hb
 have IH:=Jh ih
 clear ih
 obtain ⟨a,b,o,cap,hs,ah,a0,ha,hr⟩:=h.open
 subst hs
 go_enter Tryz.func49,Tryz.ntmps49
 go_wp2_with fail
 go_loopw [3,4] (fun x i wr=>∃ k:Nat,k<=l.length/\i=.int .i64 k/\x=.int .i64 ((Ap Aq (l.take k):Nat):Int)/\Ext w wr) (fun _ i _=>l.length-(intOf i).toNat)
 case atStart=>exact ⟨0,Nat.zero_le _,rfl,by simp [Ap],Below.refl _ _⟩
 case round =>
  obtain ⟨k,hk,rfl,rfl,hB⟩:=hrel
  by_cases ac:k<l.length
  ·obtain ⟨s1,s2,aa,ap,aq⟩:=Ts.get (hr.mono fun x _ b o=>TAt.ext hB x b o) ac
   have ht:=Jh (Ct Aq l k ac)
   have aj:=Bz Aq l (k+1)
   rw [ht.out] at aj
   have al:l[k]∈l:=List.getElem_mem ac
   obtain rfl:=ha (by omega)
   generalize l[k]=t at *
   have HT:=Jh (Ca t)
   rw [Ca] at aj
   obtain ⟨a1,b1,o1,ay,av,a2,a3,ao,af⟩:=ap.open
   subst av
   have ae:=aa 4 _ rfl
   have an:=aa 5 _ rfl
   go_wp2_with (first | (go_at_call 49;refine (IH.out _ al _ _ aq (by omega)).mono ?_;rintro r w1 ⟨rfl,ab⟩))
   have aw:=hB.trans ab
   have ag:=Jh (af.mono fun x _ b o=>EAt.ext ab x b o)
   have az:=(aa.ext ab) 4 _ rfl
   clear ae an af
   go_loopw [3,5] (fun x i wr=>∃ j:Nat,j<=t.e.length/\i=.int .i64 j/\x=.int .i64 ((Ap Aq (l.take k)+1+Ap Aq t.l+Ap nodes (t.e.take j):Nat):Int)/\Ext w1 wr) (fun _ i _=>t.e.length-(intOf i).toNat)
   case atStart=>exact ⟨0,Nat.zero_le _,rfl,by simp [Ap],Below.refl _ _⟩
   case round =>
    obtain ⟨j,hj,rfl,rfl,u⟩:=hrel
    have ae:=((aa.ext ab).ext u) 4 _ rfl
    by_cases ai:j<t.e.length
    ·obtain ⟨s3,ar,au⟩:=Es.get (ag.out.mono fun x _ b o=>EAt.ext u x b o) ai
     have am:=Jh (Ct nodes t.e j ai)
     have ak:=Bz nodes t.e (j+1)
     rw [am.out] at ak
     obtain rfl:=ao (by omega)
     generalize t.e[j]=ej at *
     go_wp2_with (first | ((with_reducible show Jl 40);refine Aa rfl 40 _ rfl rfl (ar) Ah rfl ?_) | (go_at_call 51;refine (Li ej _ _ au (by omega)).mono ?_;rintro r w2 ⟨rfl,ax⟩))
     go_roundw
     case rel=>exact ⟨j+1,by omega,by go_num,by rw [am.out];congr 1;omega,u.trans ax⟩
     case measure=>simp [intOf];omega
    ·go_wp2_with fail
     obtain rfl:j=t.e.length:=by omega
     go_roundw
     case rel=>exact ⟨k+1,by omega,by go_num,by rw [ht.out,HT.out,List.take_length];congr 1;omega,aw.trans u⟩
     case measure=>simp [intOf];omega
  ·go_wp2_with fail
   go_ret
   obtain rfl:k=l.length:=by omega
   exact ⟨by rw [List.take_length];rfl,hB⟩
theorem Uu (l:List T):∀ (s:Value) (w:World) (_:Ts w s l) (_:Ap Aq l<=1048576),
   Calls Tryz.prog 49 #[s] w fun r w'=>r=.returned (.int .i64 (Ap Aq l))/\Ext w w' :=
 Pj l fun t _=>T.ind (P:=fun t=>∀ (s:Value) (w:World) (_:Ts w s t.l) (_:Ap Aq t.l<=1048576),
   Calls Tryz.prog 49 #[s] w fun r w'=>r=.returned (.int .i64 (Ap Aq t.l))/\Ext w w') (fun t ih=>Pj t.l ih) t
theorem Q6 (l:List T) (ih:∀ t∈l,∀ (s:Value) (w:World) (_:Ts w s t.l) (_:A6 Cc t.l<=1048576),
   Calls Tryz.prog 50 #[s] w fun r w'=>r=.returned (.int .i64 (A6 Cc t.l))/\Ext w w') :
  ∀ (s:Value) (w:World) (_:Ts w s l) (_:A6 Cc l<=1048576),
   Calls Tryz.prog 50 #[s] w fun r w'=>r=.returned (.int .i64 (A6 Cc l))/\Ext w w':=by
 intro s w h hb
 have IH:=Jh ih
 clear ih
 obtain ⟨a,b,o,cap,hs,a0,a2,ha,hr⟩:=h.open
 subst hs
 go_enter Tryz.func50,Tryz.ntmps50
 go_wp2_with fail
 go_loopw [3,4] (fun x i wr=>∃ k:Nat,k<=l.length/\i=.int .i64 k/\x=.int .i64 ((A6 Cc (l.take k):Nat):Int)/\Ext w wr) (fun _ i _=>l.length-(intOf i).toNat)
 case atStart=>exact ⟨0,Nat.zero_le _,rfl,by simp [A6],Below.refl _ _⟩
 case round =>
  obtain ⟨k,hk,rfl,rfl,hB⟩:=hrel
  by_cases ac:k<l.length
  ·obtain ⟨s1,s2,aa,ap,aq⟩:=Ts.get (hr.mono fun x _ b o=>TAt.ext hB x b o) ac
   have ht:=Jh (Df Cc l k ac)
   have aj:=Ce Cc l (k+1)
   rw [ht.out] at aj
   have al:l[k]∈l:=List.getElem_mem ac
   obtain rfl:=ha (by omega)
   generalize l[k]=t at *
   have HT:=Jh (I6 t)
   rw [I6] at aj
   obtain ⟨a1,b1,o1,az,aw,a3,a4,ao,af⟩:=ap.open
   subst aw
   have ae:=aa 4 _ rfl
   have an:=aa 5 _ rfl
   have av:(if ((A6 Cc (l.take k):Nat):Int)<1+((A6 Cc t.l:Nat):Int) then 1+((A6 Cc t.l:Nat):Int) else ((A6 Cc (l.take k):Nat):Int))=((max (A6 Cc (l.take k)) (1+A6 Cc t.l):Nat):Int):=by split<;>omega
   go_wp2_with (first | (go_at_call 50;refine (IH.out _ al _ _ aq (by omega)).mono ?_;rintro r w1 ⟨rfl,ab⟩))
   have ax:=hB.trans ab
   have ag:=Jh (af.mono fun x _ b o=>EAt.ext ab x b o)
   have ah:=(aa.ext ab) 4 _ rfl
   clear ae an af av
   go_loopw [3,5] (fun x i wr=>∃ j:Nat,j<=t.e.length/\i=.int .i64 j/\x=.int .i64 ((max (max (A6 Cc (l.take k)) (1+A6 Cc t.l)) (1+A6 Cu (t.e.take j)):Nat):Int)/\Ext w1 wr) (fun _ i _=>t.e.length-(intOf i).toNat)
   case atStart=>exact ⟨0,Nat.zero_le _,rfl,by simp [A6],Below.refl _ _⟩
   case round =>
    obtain ⟨j,hj,rfl,rfl,u⟩:=hrel
    have ae:=((aa.ext ab).ext u) 4 _ rfl
    by_cases ai:j<t.e.length
    ·obtain ⟨s3,ar,au⟩:=Es.get (ag.out.mono fun x _ b o=>EAt.ext u x b o) ai
     have am:=Jh (Df Cu t.e j ai)
     have ak:=Ce Cu t.e (j+1)
     rw [am.out] at ak
     obtain rfl:=ao (by omega)
     generalize t.e[j]=ej at *
     go_wp2_with (first | ((with_reducible show Jl 40);refine Aa rfl 40 _ rfl rfl (ar) Ah rfl ?_) | (go_at_call 52;refine (M7 ej _ _ au (by omega)).mono ?_;rintro r w2 ⟨rfl,ay⟩))
     go_roundw
     case rel=>exact ⟨j+1,by omega,by go_num,by rw [am.out];congr 1;split<;>omega,u.trans ay⟩
     case measure=>simp [intOf];omega
    ·go_wp2_with fail
     obtain rfl:j=t.e.length:=by omega
     go_roundw
     case rel=>exact ⟨k+1,by omega,by go_num,by rw [ht.out,HT.out,List.take_length];congr 1;omega,ax.trans u⟩
     case measure=>simp [intOf];omega
  ·go_wp2_with fail
   go_ret
   obtain rfl:k=l.length:=by omega
   exact ⟨by rw [List.take_length];rfl,hB⟩
theorem Yb (l:List T):∀ (s:Value) (w:World) (_:Ts w s l) (_:A6 Cc l<=1048576),
   Calls Tryz.prog 50 #[s] w fun r w'=>r=.returned (.int .i64 (A6 Cc l))/\Ext w w' :=
 Q6 l fun t _=>T.ind (P:=fun t=>∀ (s:Value) (w:World) (_:Ts w s t.l) (_:A6 Cc t.l<=1048576),
   Calls Tryz.prog 50 #[s] w fun r w'=>r=.returned (.int .i64 (A6 Cc t.l))/\Ext w w') (fun t ih=>Q6 t.l ih) t
end Go.Proofs.YtbliplladmamoaaGreat
